/- EscapeAll: any bytes as a name, and what any name says, are the document's. No conditions. -/
import Derived.Test.YtkojlnjhndnfkaaGCx3
import Derived.Test.YtkojlnjhndnfkaaLaws
import Derived.OpenShut
namespace Go.Proofs.Ytkojlnjhndnfkaa.Pure
set_option linter.unusedVariables false
set_option linter.unusedSimpArgs false
open Go.RowKit Go.Proofs.Ytkojlnjhndnfkaa.GC Go.Proofs.YtkojlnjhndnfkaaW.PrintWords Go.Proofs.YtkojlnjhndnfkaaW.PrintLast

abbrev D : ByteArray := ⟨#[48, 49, 50, 51, 52, 53, 54, 55, 56, 57, 65, 66, 67, 68, 69, 70]⟩
/-! ### The document's name -/
theorem ref_step (s : ByteArray) (acc : List Int) (i k : Nat) (h : i < s.size) (hl : acc.length ≤ 3000) (hs : s.size ≤ 1000) :
    gripsackref1_Escape.l0 (k + 1) s acc D i = gripsackref1_Escape.l0 k s (acc ++ esc1 (bt s i)) D ((i + 1 : Nat) : Int) := by
  have hc := bt_range s i
  rw [gripsackref1_Escape.l0, if_pos (by omega), if_pos (by omega)]
  generalize bt s i = c at *
  have hw : wrap64 ((i : Int) + 1) = ((i + 1 : Nat) : Int) := by unfold wrap64; omega
  have hand := and15 c hc.1 (by omega)
  have e1 := bt_dg (c / 16) (by omega) (by omega)
  have e2 := bt_dg (c % 16) (by omega) (by omega)
  have hD : (D.size : Int) = 16 := rfl
  have hsign : ∀ (hp : ¬ plainB c = true), (if 0 ≤ c / 16 then (if c / 16 < (D.size : Int) then (if 0 ≤ Go.bits .and .u8 c 15 then (if Go.bits .and .u8 c 15 < (D.size : Int) then ((some (([37, bt D (c / 16), bt D (Go.bits .and .u8 c 15)] : List Int) : List Int)).bind fun y104 => (if acc.length + y104.length < 140737488355328 then (gripsackref1_Escape.l0 k s (acc ++ y104) D (wrap64 ((i : Int) + 1))) else (none))) else (none)) else (none)) else (none)) else (none)) = gripsackref1_Escape.l0 k s (acc ++ esc1 c) D ((i + 1 : Nat) : Int) := by
    intro hp
    rw [hand, hD, if_pos (by omega), if_pos (by omega), if_pos (by omega), if_pos (by omega), Option.bind_some, if_pos (by show acc.length + 3 < _; omega), hw, e1, e2]
    unfold esc1
    rw [if_neg hp]
  by_cases h33 : c < 33
  · rw [if_pos h33]; exact hsign (by unfold plainB; simp; omega)
  rw [if_neg h33]
  by_cases h126 : c > 126
  · rw [if_pos h126]; exact hsign (by unfold plainB; simp; omega)
  rw [if_neg h126]
  by_cases h37 : c = 37
  · rw [if_pos h37]; exact hsign (by unfold plainB; simp [h37])
  rw [if_neg h37]
  by_cases h61 : c = 61
  · rw [if_pos h61]; exact hsign (by unfold plainB; simp [h61])
  rw [if_neg h61, if_pos (by omega), hw]
  unfold esc1
  rw [if_pos (by unfold plainB; simp [h37, h61]; omega)]
theorem ref_loop (s : ByteArray) (hs : s.size ≤ 1000) : ∀ (n i : Nat) (acc : List Int), i ≤ s.size → s.size - i ≤ n → acc.length ≤ 3 * i → gripsackref1_Escape.l0 (n + 1) s acc D i = some (strOfNums (acc ++ escL ((bytesOf s).drop i))) := by
  intro n
  induction n with
  | zero =>
    intro i acc hi hn ha
    rw [gripsackref1_Escape.l0, if_neg (by omega), drop_end s i (by omega)]
    simp [escL]
  | succ n ih =>
    intro i acc hi hn ha
    by_cases h : i < s.size
    · rw [ref_step s acc i (n + 1) h (by omega) hs, ih (i + 1) _ h (by omega) (by have := esc1_len (bt s i); rw [List.length_append]; omega), bytesOf_drop s i h]
      simp [escL]
    · have h0 := ih i acc hi (by omega) ha
      exact (gripsackref1_Escape.mono_l (n + 1)) s acc D i _ h0
theorem ref_escape (s : ByteArray) (hs : s.size ≤ 1000) (k : Nat) (hk : 1001 ≤ k) : gripsackref1_Escape.f k s = some (escB s) := by
  unfold gripsackref1_Escape.f
  obtain ⟨n, rfl⟩ : ∃ n, k = n + 1 := ⟨k - 1, by omega⟩
  have := ref_loop s hs n 0 [] (by omega) (by omega) (by simp)
  simpa [escB] using this
/-! ### What the document reads in a name -/
def nib (c : Int) : Int := if 48 ≤ c ∧ c ≤ 57 then (c - 48) % 256 else if 65 ≤ c ∧ c ≤ 70 then (c - 65) % 256 + 10 else 16
theorem nibble_is (c : Int) (k : Nat) : gripsackref1_nibble.f (k + 1) c = some (nib c) := by
  unfold gripsackref1_nibble.f nib
  by_cases h0 : c ≥ 48
  · rw [if_pos h0, gripsackref1_nibble.j0]
    by_cases h1 : c ≤ 57
    · rw [if_pos (by simp [h1]), if_pos ⟨h0, h1⟩]
    · rw [if_neg (show ¬ decide (c ≤ 57) = true by simp; omega), if_neg (show ¬ (48 ≤ c ∧ c ≤ 57) by omega)]
      by_cases h2 : c ≥ 65
      · rw [if_pos h2]
        by_cases h3 : c ≤ 70
        · rw [if_pos h3, if_pos (show 65 ≤ c ∧ c ≤ 70 from ⟨h2, h3⟩)]
        · rw [if_neg h3, if_neg (show ¬ (65 ≤ c ∧ c ≤ 70) by omega)]
      · rw [if_neg h2, if_neg (show ¬ (65 ≤ c ∧ c ≤ 70) by omega)]
  · rw [if_neg h0, gripsackref1_nibble.j0, if_neg (show ¬ false = true by decide), if_neg (show ¬ c ≥ 65 by omega), if_neg (show ¬ (48 ≤ c ∧ c ≤ 57) by omega), if_neg (show ¬ (65 ≤ c ∧ c ≤ 70) by omega)]
def rv (a b : Int) : Int := (Go.bits .or .i64 (wrap64 (nib a * 16)) (Go.bits .and .i64 (nib b) 15)) % 256
theorem rv_all : ∀ x y : Fin 16, (Go.bits .or .i64 (wrap64 ((x.val : Int) * 16)) (Go.bits .and .i64 (y.val : Int) 15)) % 256 = (x.val : Int) * 16 + (y.val : Int) := by decide +kernel
theorem nib_dv (c x : Int) (h : dv c = some x) : nib c = x := by
  unfold dv at h
  unfold nib
  split at h
  · rename_i hc
    obtain rfl := Option.some.inj h
    rw [if_pos hc]; omega
  · split at h
    · rename_i h1 hc
      obtain rfl := Option.some.inj h
      rw [if_neg h1, if_pos hc]; omega
    · cases h
theorem rv_dv (a b x y : Int) (ha : dv a = some x) (hb : dv b = some y) : rv a b = x * 16 + y := by
  have h1 := dv_range _ _ ha
  have h2 := dv_range _ _ hb
  unfold rv
  rw [nib_dv _ _ ha, nib_dv _ _ hb]
  have := rv_all ⟨x.toNat, by omega⟩ ⟨y.toNat, by omega⟩
  simp only at this
  rw [show ((x.toNat : Nat) : Int) = x from by omega, show ((y.toNat : Nat) : Int) = y from by omega] at this
  exact this
def refD : List Int → List Int
  | [] => []
  | [c] => [c]
  | [c, d] => [c, d]
  | c :: a :: b :: r => if c = 37 then rv a b :: refD r else c :: refD (a :: b :: r)
theorem refD_nil : refD [] = [] := by rw [refD]
theorem refD_plain (c : Int) (l : List Int) (h : ¬ c = 37) : refD (c :: l) = c :: refD l := by
  rcases l with _ | ⟨a, _ | ⟨b, r⟩⟩
  · rw [refD, refD]
  · rw [refD, refD]
  · rw [refD, if_neg h]
theorem refD_sign (a b : Int) (r : List Int) : refD (37 :: a :: b :: r) = rv a b :: refD r := by rw [refD, if_pos rfl]
theorem refD_end (c : Int) (l : List Int) (h : l.length < 2) : refD (c :: l) = c :: refD l := by
  rcases l with _ | ⟨a, _ | ⟨b, r⟩⟩
  · rw [refD, refD]
  · rw [refD, refD]
  · simp at h
    omega
theorem refD_of : ∀ (n : Nat) (S : List Int), S.length ≤ n → ∀ l, decL S = some l → refD S = l := by
  intro n
  induction n with
  | zero =>
    intro S hn l h
    obtain rfl : S = [] := List.eq_nil_of_length_eq_zero (by omega)
    simp [decL] at h
    rw [refD_nil, h]
  | succ n ih =>
    intro S hn l h
    rcases S with _ | ⟨c, S⟩
    · simp [decL] at h
      rw [refD_nil, h]
    · by_cases hc : c = 37
      · subst hc
        rcases S with _ | ⟨a, _ | ⟨b, r⟩⟩
        · rw [decL_none1] at h; cases h
        · rw [decL_none2] at h; cases h
        · cases ha : dv a with
          | none => rw [decL_bad1 _ _ ha] at h; cases h
          | some x =>
            cases hb : dv b with
            | none => rw [decL_bad2 _ _ _ hb] at h; cases h
            | some y =>
              rw [decL_sign _ _ _ _ _ ha hb] at h
              cases hr : decL r with
              | none => rw [hr] at h; cases h
              | some t =>
                rw [hr, Option.map_some] at h
                obtain rfl := Option.some.inj h
                rw [refD_sign, rv_dv _ _ _ _ ha hb, ih r (by simp at hn; omega) t hr]
      · rw [decL_plain c _ hc] at h
        cases hr : decL S with
        | none => rw [hr] at h; cases h
        | some t =>
          rw [hr, Option.map_some] at h
          obtain rfl := Option.some.inj h
          rw [refD_plain c _ hc, ih S (by simp at hn; omega) t hr]
theorem refD_small : ∀ (n : Nat) (S : List Int), S.length ≤ n → (∀ x ∈ S, 0 ≤ x ∧ x < 256) → ∀ x ∈ refD S, 0 ≤ x ∧ x < 256 := by
  intro n
  induction n with
  | zero =>
    intro S hn h
    obtain rfl : S = [] := List.eq_nil_of_length_eq_zero (by omega)
    intro x hx
    rw [refD_nil] at hx
    cases hx
  | succ n ih =>
    intro S hn h
    rcases S with _ | ⟨c, S⟩
    · intro x hx
      rw [refD_nil] at hx
      cases hx
    · have hS : ∀ x ∈ S, 0 ≤ x ∧ x < 256 := fun x hx => h x (List.mem_cons_of_mem _ hx)
      have hc0 := h c (List.mem_cons_self ..)
      have hone := ih S (by simp at hn; omega) hS
      have hplain : ∀ x ∈ c :: refD S, 0 ≤ x ∧ x < 256 := by
        intro x hx
        rcases List.mem_cons.1 hx with rfl | hx
        · exact hc0
        · exact hone x hx
      by_cases hc : c = 37
      · subst hc
        rcases S with _ | ⟨a, _ | ⟨b, r⟩⟩
        · rw [refD_end _ _ (by simp)]; exact hplain
        · rw [refD_end _ _ (by simp)]; exact hplain
        · rw [refD_sign]
          intro x hx
          rcases List.mem_cons.1 hx with rfl | hx
          · unfold rv; omega
          · exact ih r (by simp at hn; omega) (fun x hx => hS x (List.mem_cons_of_mem _ (List.mem_cons_of_mem _ hx))) x hx
      · rw [refD_plain c _ hc]; exact hplain
def refG (s : ByteArray) : ByteArray × Bool := if escB (strOfNums (refD (bytesOf s))) = s then (strOfNums (refD (bytesOf s)), true) else (⟨#[]⟩, false)
theorem refG_is (s : ByteArray) : refG s = getE s := by
  have hsm := refD_small _ (bytesOf s) (Nat.le_refl _) (bytesOf_small s)
  have hiff : escB (strOfNums (refD (bytesOf s))) = s ↔ escL (refD (bytesOf s)) = bytesOf s := by
    unfold escB
    rw [bytesOf_nums _ hsm]
    exact ⟨fun h => by have := congrArg bytesOf h; rwa [bytesOf_nums _ (escL_small _ hsm)] at this, fun h => by rw [h, nums_bytesOf]⟩
  unfold refG getE
  cases hd : decL (bytesOf s) with
  | none =>
    rw [if_neg]
    intro h
    rw [← hiff.1 h, decL_escL _ hsm] at hd
    cases hd
  | some l =>
    have hl := refD_of _ (bytesOf s) (Nat.le_refl _) l hd
    by_cases h : escB (strOfNums (refD (bytesOf s))) = s
    · have h2 := hiff.1 h
      rw [if_pos h, hl]
      rw [hl] at h2
      simp only [h2, if_true]
    · have h2 := fun e => h (hiff.2 e)
      rw [if_neg h]
      rw [hl] at h2
      simp only [if_neg h2]
theorem refget_loop (s : ByteArray) (hs : s.size ≤ 1000) : ∀ (n i : Nat) (acc : List Int), i ≤ s.size → s.size - i ≤ n → acc.length ≤ i →
    gripsackref1_GetEscape.l0 (2 * n + 1002) s acc i = some (if escB (strOfNums (acc ++ refD ((bytesOf s).drop i))) = s then (strOfNums (acc ++ refD ((bytesOf s).drop i)), true) else (⟨#[]⟩, false)) := by
  intro n
  induction n with
  | zero =>
    intro i acc hi hn ha
    rw [gripsackref1_GetEscape.l0, if_neg (by omega), ref_escape _ (by rw [strOfNums_size]; omega) _ (by omega), Option.bind_some, drop_end s i (by omega)]
    rw [refD_nil, List.append_nil]
    by_cases h : escB (strOfNums acc) = s
    · rw [if_pos (toList_inj.2 h), if_pos h]
    · rw [if_neg (fun e => h (toList_inj.1 e)), if_neg h]
  | succ n ih =>
    intro i acc hi hn ha
    by_cases h : i < s.size
    · rw [show 2 * (n + 1) + 1002 = (2 * n + 1002) + 1 + 1 from by omega, gripsackref1_GetEscape.l0, if_pos (by omega), if_pos (by omega)]
      have hone : gripsackref1_GetEscape.l0 (2 * n + 1002) s (acc ++ [bt s i]) (wrap64 ((i : Int) + 1)) = some (if escB (strOfNums (acc ++ bt s i :: refD ((bytesOf s).drop (i + 1)))) = s then (strOfNums (acc ++ bt s i :: refD ((bytesOf s).drop (i + 1))), true) else (⟨#[]⟩, false)) := by
        have := ih (i + 1) (acc ++ [bt s i]) h (by omega) (by rw [List.length_append, List.length_singleton]; omega)
        rw [show wrap64 ((i : Int) + 1) = ((i + 1 : Nat) : Int) from by unfold wrap64; omega, this]
        simp only [List.append_assoc, List.singleton_append]
      have hfalse : gripsackref1_GetEscape.j1 (2 * n + 1002 + 1) s acc i false = some (if escB (strOfNums (acc ++ bt s i :: refD ((bytesOf s).drop (i + 1)))) = s then (strOfNums (acc ++ bt s i :: refD ((bytesOf s).drop (i + 1))), true) else (⟨#[]⟩, false)) := by
        rw [gripsackref1_GetEscape.j1, if_neg (by decide), if_pos (by omega), if_pos (by omega), if_pos (by omega), hone]
      have hw2 : wrap64 ((i : Int) + 2) = (i : Int) + 2 := by unfold wrap64; omega
      have hw1 : wrap64 ((i : Int) + 1) = (i : Int) + 1 := by unfold wrap64; omega
      have hlen : ((bytesOf s).drop (i + 1)).length = s.size - (i + 1) := by rw [List.length_drop, bytesOf_length]
      rw [bytesOf_drop s i h]
      by_cases hc : bt s i = 37
      · rw [if_pos hc, hw2]
        by_cases h2 : i + 2 < s.size
        · have e1 : (bytesOf s).drop (i + 1) = bt s ((i : Int) + 1) :: (bytesOf s).drop (i + 2) := bytesOf_drop s (i + 1) (by omega)
          have e2 : (bytesOf s).drop (i + 2) = bt s ((i : Int) + 2) :: (bytesOf s).drop (i + 3) := bytesOf_drop s (i + 2) h2
          have := ih (i + 3) (acc ++ [rv (bt s ((i : Int) + 1)) (bt s ((i : Int) + 2))]) (by omega) (by omega) (by rw [List.length_append, List.length_singleton]; omega)
          rw [decide_eq_true (by omega), gripsackref1_GetEscape.j1, if_pos rfl, hw1, hw2, if_pos (by omega), if_pos (by omega), nibble_is, Option.bind_some, if_pos (by omega), if_pos (by omega), nibble_is, Option.bind_some, if_pos (by omega),
            show wrap64 ((i : Int) + 2 + 1) = ((i + 3 : Nat) : Int) from by unfold wrap64; omega, hc, e1, e2, refD_sign]
          have e3 : acc ++ rv (bt s ((i : Int) + 1)) (bt s ((i : Int) + 2)) :: refD ((bytesOf s).drop (i + 3)) = (acc ++ [rv (bt s ((i : Int) + 1)) (bt s ((i : Int) + 2))]) ++ refD ((bytesOf s).drop (i + 3)) := by simp
          rw [e3]
          exact this
        · rw [decide_eq_false (by omega), hfalse, refD_end _ _ (by rw [hlen]; omega)]
      · rw [if_neg hc, hfalse, refD_plain _ _ hc]
    · have h0 := ih i acc hi (by omega) ha
      have m1 := (gripsackref1_GetEscape.mono_l (2 * n + 1002)).1 s acc i _ h0
      exact (gripsackref1_GetEscape.mono_l (2 * n + 1002 + 1)).1 s acc i _ m1
theorem ref_get (s : ByteArray) (hs : s.size ≤ 1000) : gripsackref1_GetEscape.f 3002 s = some (getE s) := by
  unfold gripsackref1_GetEscape.f
  have h := refget_loop s hs 1000 0 [] (by omega) (by omega) (by simp)
  rw [← refG_is]
  unfold refG
  simpa using h
theorem EscapeAll : gripsacklaw4_EscapeAll.Pure := by
  intro s t _ _
  refine ⟨3003, ?_⟩
  unfold gripsacklaw4_EscapeAll.f
  by_cases h1 : (s.size : Int) > 300
  · rw [if_pos h1, gripsacklaw4_EscapeAll.j0, if_pos rfl, awake_true]; rfl
  · rw [if_neg h1]
    by_cases h2 : (t.size : Int) > 400
    · rw [decide_eq_true h2, gripsacklaw4_EscapeAll.j0, if_pos rfl, awake_true]; rfl
    · rw [decide_eq_false h2, gripsacklaw4_EscapeAll.j0, if_neg (by decide), escGet_is (by omega), Option.bind_some, ref_get t (by omega), Option.bind_some, escPut_is (by omega), Option.bind_some, ref_escape s (by omega) 3002 (by omega), Option.bind_some, if_pos rfl, if_pos rfl, if_pos (by simp), awake_true]
      rfl
end Go.Proofs.Ytkojlnjhndnfkaa.Pure
