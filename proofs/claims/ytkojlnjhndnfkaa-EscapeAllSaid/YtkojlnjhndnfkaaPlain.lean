/- What package escape comes to, as plain functions over rows of numbers: no program and no memory in it. -/
import Derived.Test.YtkojlnjhndnfkaaWWords
import Derived.Laws.BitsLemmas
namespace Go.Proofs.Ytkojlnjhndnfkaa
set_option linter.unusedVariables false
set_option linter.unusedSimpArgs false
open Go.RowKit Go.Proofs.YtkojlnjhndnfkaaW.PrintWords

/-- Whether a byte stands as it is. -/
def plainB (c : Int) : Bool := decide (33 ≤ c) && (decide (c ≤ 126) && (c != 37 && c != 61))
/-- A digit's sign. -/
def dg (n : Int) : Int := if n < 10 then 48 + n else 55 + n
/-- A sign's digit. -/
def dv (c : Int) : Option Int := if 48 ≤ c ∧ c ≤ 57 then some (c - 48) else if 65 ≤ c ∧ c ≤ 70 then some (c - 55) else none
/-- A byte's signs. -/
def esc1 (c : Int) : List Int := if plainB c = true then [c] else [37, dg (c / 16), dg (c % 16)]
def escL (l : List Int) : List Int := l.flatMap esc1
def escB (s : ByteArray) : ByteArray := strOfNums (escL (bytesOf s))
/-- What signs say. -/
def decL : List Int → Option (List Int)
  | [] => some []
  | c :: l =>
    if c = 37 then
      match l with
      | a :: b :: r => (dv a).bind fun x => (dv b).bind fun y => (decL r).map fun t => (x * 16 + y) :: t
      | _ => none
    else (decL l).map fun t => c :: t
def getE (s : ByteArray) : ByteArray × Bool :=
  match decL (bytesOf s) with
  | some l => if escL l = bytesOf s then (strOfNums l, true) else (⟨#[]⟩, false)
  | none => (⟨#[]⟩, false)

theorem escL_append (a b : List Int) : escL (a ++ b) = escL a ++ escL b := by simp [escL]
theorem escL_one (c : Int) : escL [c] = esc1 c := by simp [escL]
theorem esc1_len (c : Int) : (esc1 c).length ≤ 3 := by unfold esc1; split <;> simp
theorem escL_len : ∀ l, (escL l).length ≤ 3 * l.length
  | [] => by simp [escL]
  | c :: l => by
    have h1 := esc1_len c
    have h2 := escL_len l
    simp only [escL, List.flatMap_cons, List.length_append, List.length_cons] at h2 ⊢
    omega
theorem dg_range (n : Int) (h0 : 0 ≤ n) (h1 : n < 16) : 48 ≤ dg n ∧ dg n ≤ 70 := by unfold dg; split <;> omega
theorem esc1_small (c : Int) (h0 : 0 ≤ c) (h1 : c < 256) : ∀ x ∈ esc1 c, 0 ≤ x ∧ x < 256 := by
  intro x hx
  unfold esc1 at hx
  have a := dg_range (c / 16) (by omega) (by omega)
  have b := dg_range (c % 16) (by omega) (by omega)
  split at hx
  · simp at hx; omega
  · simp at hx; omega
theorem escL_small : ∀ l : List Int, (∀ x ∈ l, 0 ≤ x ∧ x < 256) → ∀ x ∈ escL l, 0 ≤ x ∧ x < 256 := by
  intro l hl x hx
  simp only [escL, List.mem_flatMap] at hx
  obtain ⟨c, hc, hx⟩ := hx
  exact esc1_small c (hl c hc).1 (hl c hc).2 x hx
theorem bytesOf_small (s : ByteArray) : ∀ x ∈ bytesOf s, 0 ≤ x ∧ x < 256 := by
  intro x hx
  simp only [bytesOf, List.mem_map] at hx
  obtain ⟨b, _, rfl⟩ := hx
  have := b.toNat_lt
  omega
theorem bytesOf_get (s : ByteArray) (i : Nat) (h : i < s.size) : (bytesOf s)[i]? = some (bt s i) := by
  rw [← rd_bytesOf]
  have : i < (bytesOf s).length := by rw [bytesOf_length]; exact h
  simp [rd, List.getD_eq_getElem?_getD, List.getElem?_eq_getElem this]
theorem bytesOf_drop (s : ByteArray) (i : Nat) (h : i < s.size) : (bytesOf s).drop i = bt s i :: (bytesOf s).drop (i + 1) := by
  have hl : i < (bytesOf s).length := by rw [bytesOf_length]; exact h
  rw [List.drop_eq_getElem_cons hl]
  congr 1
  have := bytesOf_get s i h
  rw [List.getElem?_eq_getElem hl] at this
  exact Option.some.inj this
theorem bytesOf_take (s : ByteArray) (i : Nat) (h : i < s.size) : (bytesOf s).take (i + 1) = (bytesOf s).take i ++ [bt s i] := by
  rw [List.take_add_one, bytesOf_get s i h]; rfl
theorem bytesOf_nums (l : List Int) (h : ∀ x ∈ l, 0 ≤ x ∧ x < 256) : bytesOf (strOfNums l) = l := by
  unfold bytesOf
  rw [strOfNums_data, List.map_map]
  conv => rhs; rw [← List.map_id l]
  apply List.map_congr_left
  intro x hx
  have := h x hx
  simp [UInt8.toNat_ofNat']
  omega
theorem nums_bytesOf (s : ByteArray) : strOfNums (bytesOf s) = s := by
  apply ByteArray.ext
  apply Array.ext'
  rw [strOfNums_data, bytesOf, List.map_map]
  conv => rhs; rw [← List.map_id s.data.toList]
  apply List.map_congr_left
  intro x hx
  simp
theorem and15 (c : Int) (h0 : 0 ≤ c) (h1 : c < 256) : Go.bits .and .u8 c 15 = c % 16 := by
  have hw : ∀ n : Int, 0 ≤ n → n < 2 ^ 8 → IntKind.u8.wrap n = n := by
    intro n a b
    simp only [IntKind.wrap, IntKind.bits, IntKind.signed]
    simp
    omega
  have := bits_mask .u8 8 (by decide) hw 4 (by omega) c h0 (by omega)
  simpa using this
theorem bt_digits : ∀ i : Fin 16, bt ⟨#[48, 49, 50, 51, 52, 53, 54, 55, 56, 57, 65, 66, 67, 68, 69, 70]⟩ (i.val : Int) = dg (i.val : Int) := by decide +kernel
theorem bt_dg (n : Int) (h0 : 0 ≤ n) (h1 : n < 16) : bt ⟨#[48, 49, 50, 51, 52, 53, 54, 55, 56, 57, 65, 66, 67, 68, 69, 70]⟩ n = dg n := by
  have := bt_digits ⟨n.toNat, by omega⟩
  simp only at this
  rw [show ((n.toNat : Nat) : Int) = n from by omega] at this
  exact this
end Go.Proofs.Ytkojlnjhndnfkaa
