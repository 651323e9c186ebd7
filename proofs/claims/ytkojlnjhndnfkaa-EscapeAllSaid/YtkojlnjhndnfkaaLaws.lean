/- Plain facts of names: a name says its bytes; what a name's end says. No program in it. -/
import Derived.Test.YtkojlnjhndnfkaaGet
import Derived.Test.YtkojlnjhndnfkaaGCx1
namespace Go.Proofs.Ytkojlnjhndnfkaa
set_option linter.unusedVariables false
set_option linter.unusedSimpArgs false
open Go.RowKit Go.Proofs.YtkojlnjhndnfkaaW.PrintWords

theorem dv_dg_all : ∀ i : Fin 16, dv (dg (i.val : Int)) = some (i.val : Int) := by decide +kernel
theorem dv_dg (n : Int) (h0 : 0 ≤ n) (h1 : n < 16) : dv (dg n) = some n := by
  have := dv_dg_all ⟨n.toNat, by omega⟩
  simp only at this
  rw [show ((n.toNat : Nat) : Int) = n from by omega] at this
  exact this
theorem plain_ne {c : Int} (h : plainB c = true) : ¬ c = 37 := by
  rintro rfl
  revert h
  decide
/-- What stands behind a name's signs is read behind its bytes. -/
theorem decL_esc : ∀ (l : List Int) (r : List Int), (∀ x ∈ l, 0 ≤ x ∧ x < 256) → decL (escL l ++ r) = (decL r).map (l ++ ·)
  | [], r, _ => by simp [escL]
  | c :: l, r, h => by
    have ih := decL_esc l r (fun x hx => h x (List.mem_cons_of_mem _ hx))
    have hc := h c (List.mem_cons_self ..)
    have he : escL (c :: l) ++ r = esc1 c ++ (escL l ++ r) := by simp [escL]
    rw [he]
    unfold esc1
    by_cases hp : plainB c = true
    · rw [if_pos hp, List.singleton_append, decL_plain c _ (plain_ne hp), ih, Option.map_map]
      congr 1
    · rw [if_neg hp]
      show decL (37 :: dg (c / 16) :: dg (c % 16) :: (escL l ++ r)) = _
      rw [decL_sign _ _ (c / 16) (c % 16) _ (dv_dg _ (by omega) (by omega)) (dv_dg _ (by omega) (by omega)), ih, Option.map_map]
      rw [show c / 16 * 16 + c % 16 = c from by omega]
      congr 1
theorem decL_escL (l : List Int) (h : ∀ x ∈ l, 0 ≤ x ∧ x < 256) : decL (escL l) = some l := by
  have := decL_esc l [] h
  simpa [decL] using this
theorem bytesOf_append (s t : ByteArray) : bytesOf (s ++ t) = bytesOf s ++ bytesOf t := by simp [bytesOf, ByteArray.data_append]
theorem bytesOf_escB (s : ByteArray) : bytesOf (escB s) = escL (bytesOf s) := bytesOf_nums _ (escL_small _ (bytesOf_small s))
theorem strOfNums_append (l r : List Int) : strOfNums (l ++ r) = strOfNums l ++ strOfNums r := by
  apply ByteArray.ext
  apply Array.ext'
  simp [strOfNums, ByteArray.data_append]
theorem escB_append (s t : ByteArray) : escB (s ++ t) = escB s ++ escB t := by
  unfold escB
  rw [bytesOf_append, escL_append, strOfNums_append]
theorem getE_escB (s : ByteArray) : getE (escB s) = (s, true) := by
  unfold getE
  rw [bytesOf_escB, decL_escL _ (bytesOf_small s)]
  simp only [if_true, nums_bytesOf]
/-- A name and some signs behind it. -/
theorem getE_tail (s t : ByteArray) : (getE (escB s ++ t)).2 = true ↔ ∃ l, decL (bytesOf t) = some l ∧ escL l = bytesOf t := by
  unfold getE
  rw [bytesOf_append, bytesOf_escB, decL_esc _ _ (bytesOf_small s)]
  cases hd : decL (bytesOf t) with
  | none => simp
  | some l =>
    simp only [Option.map_some, escL_append]
    by_cases he : escL l = bytesOf t
    · rw [if_pos (by rw [he])]; simp [he]
    · rw [if_neg (fun h => he (List.append_cancel_left h))]; simp [he]
theorem escB_size (s : ByteArray) : (escB s).size ≤ 3 * s.size := by
  unfold escB
  rw [strOfNums_size]
  have := escL_len (bytesOf s)
  rw [bytesOf_length] at this
  exact this
theorem escPut_is {s : ByteArray} (h : s.size ≤ 1000) : escPut.f s = some (escB s) := by unfold escPut.f; rw [if_pos (by omega)]
theorem escGet_is {s : ByteArray} (h : s.size ≤ 10000) : escGet.f s = some (getE s) := by unfold escGet.f; rw [if_pos (by omega)]
theorem awake_true : GC.gripsacklaw4_awake.f = some true := by decide +kernel
/-- The signs of a name are plain signs. -/
theorem esc1_plain : ∀ c : Fin 256, ∀ x ∈ esc1 (c.val : Int), 33 ≤ x ∧ x ≤ 126 ∧ ¬ x = 61 := by decide +kernel
theorem escL_plain (l : List Int) (h : ∀ x ∈ l, 0 ≤ x ∧ x < 256) : ∀ x ∈ escL l, 33 ≤ x ∧ x ≤ 126 ∧ ¬ x = 61 := by
  intro x hx
  simp only [escL, List.mem_flatMap] at hx
  obtain ⟨c, hc, hx⟩ := hx
  have hr := h c hc
  have := esc1_plain ⟨c.toNat, by omega⟩
  simp only at this
  rw [show ((c.toNat : Nat) : Int) = c from by omega] at this
  exact this x hx
theorem escB_plain (s : ByteArray) (i : Nat) (h : i < (escB s).size) : 33 ≤ bt (escB s) i ∧ bt (escB s) i ≤ 126 ∧ ¬ bt (escB s) i = 61 := by
  apply escL_plain (bytesOf s) (bytesOf_small s)
  have := bytesOf_get (escB s) i h
  rw [bytesOf_escB] at this
  exact List.mem_of_getElem? this
end Go.Proofs.Ytkojlnjhndnfkaa
