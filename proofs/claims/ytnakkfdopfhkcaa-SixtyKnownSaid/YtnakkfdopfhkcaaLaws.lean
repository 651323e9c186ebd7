/- Plain facts of letters: letters say their bytes. No program in it. -/
import Derived.Test.YtnakkfdopfhkcaaGet
namespace Go.Proofs.Ytnakkfdopfhkcaa
set_option linter.unusedVariables false
set_option linter.unusedSimpArgs false
open Go.RowKit Go.Proofs.YtnakkfdopfhkcaaW.PrintWords

theorem lt_ne (n : Int) (h0 : 0 ≤ n) (h1 : n < 64) : ¬ lt n = 61 := by unfold lt; repeat' split
                                                                       all_goals omega
/-- A letter is read. -/
theorem getG_lt (i : Nat) (n m k : Int) (l : List Int) (h0 : 0 ≤ k) (h1 : k < 64) : getG i n m (lt k :: l) = getG (i + 1) (n * 64 + k) m l := by
  rw [getG, if_neg (fun h => lt_ne k h0 h1 h.1), lv_lt k h0 h1]; rfl
theorem getG_end (i : Nat) (n m : Int) (l : List Int) (h : 1 < i) : getG i n m (61 :: l) = getG (i + 1) (n * 64) (min m ((i : Int) - 1)) l := by
  rw [getG, if_pos ⟨rfl, h⟩]
theorem getL_four3 (a b c : Int) (ha : 0 ≤ a ∧ a < 256) (hb : 0 ≤ b ∧ b < 256) (hc : 0 ≤ c ∧ c < 256) : getL (four a b c 3) = some [a, b, c] := by
  unfold getL four
  rw [if_neg (by decide), if_neg (by decide), if_neg (by decide), getG_lt _ _ _ _ _ (by omega) (by omega), getG_lt _ _ _ _ _ (by omega) (by omega), getG_lt _ _ _ _ _ (by omega) (by omega), getG_lt _ _ _ _ _ (by omega) (by omega), getG]
  have e : (((0 * 64 + n3 a b c / 262144 % 64) * 64 + n3 a b c / 4096 % 64) * 64 + n3 a b c / 64 % 64) * 64 + n3 a b c % 64 = a * 65536 + b * 256 + c := by unfold n3; omega
  rw [e, Option.map_some]
  unfold bytes3
  rw [show (3 : Int).toNat = 3 from rfl]
  simp only [List.take_succ_cons, List.take_zero]
  rw [show (a * 65536 + b * 256 + c) / 65536 % 256 = a from by omega, show (a * 65536 + b * 256 + c) / 256 % 256 = b from by omega, show (a * 65536 + b * 256 + c) % 256 = c from by omega]
theorem getL_four2 (a b : Int) (ha : 0 ≤ a ∧ a < 256) (hb : 0 ≤ b ∧ b < 256) : getL (four a b 0 2) = some [a, b] := by
  unfold getL four
  rw [if_neg (by decide), if_neg (by decide), if_pos (by decide), getG_lt _ _ _ _ _ (by omega) (by omega), getG_lt _ _ _ _ _ (by omega) (by omega), getG_lt _ _ _ _ _ (by omega) (by omega), getG_end _ _ _ _ (by decide), getG]
  have e : (((0 * 64 + n3 a b 0 / 262144 % 64) * 64 + n3 a b 0 / 4096 % 64) * 64 + n3 a b 0 / 64 % 64) * 64 = a * 65536 + b * 256 := by unfold n3; omega
  rw [e, Option.map_some]
  unfold bytes3
  rw [show (min (3 : Int) (((0 + 1 + 1 + 1 : Nat) : Int) - 1)).toNat = 2 from by decide]
  simp only [List.take_succ_cons, List.take_zero]
  rw [show (a * 65536 + b * 256) / 65536 % 256 = a from by omega, show (a * 65536 + b * 256) / 256 % 256 = b from by omega]
theorem getL_four1 (a : Int) (ha : 0 ≤ a ∧ a < 256) : getL (four a 0 0 1) = some [a] := by
  unfold getL four
  rw [if_neg (by decide), if_pos (by decide), if_pos (by decide), getG_lt _ _ _ _ _ (by omega) (by omega), getG_lt _ _ _ _ _ (by omega) (by omega), getG_end _ _ _ _ (by decide), getG_end _ _ _ _ (by decide), getG]
  have e : ((0 * 64 + n3 a 0 0 / 262144 % 64) * 64 + n3 a 0 0 / 4096 % 64) * 64 * 64 = a * 65536 := by unfold n3; omega
  rw [e, Option.map_some]
  unfold bytes3
  rw [show (min (min (3 : Int) (((0 + 1 + 1 : Nat) : Int) - 1)) (((0 + 1 + 1 + 1 : Nat) : Int) - 1)).toNat = 1 from by decide]
  simp only [List.take_succ_cons, List.take_zero]
  rw [show (a * 65536) / 65536 % 256 = a from by omega]
theorem decS_sixL : ∀ (n : Nat) (l : List Int), l.length ≤ n → (∀ x ∈ l, 0 ≤ x ∧ x < 256) → decS (sixL l) = some l := by
  intro n
  induction n with
  | zero =>
    intro l h hl
    obtain rfl : l = [] := List.eq_nil_of_length_eq_zero (by omega)
    simp [sixL, decS]
  | succ n ih =>
    intro l h hl
    rcases l with _ | ⟨a, _ | ⟨b, _ | ⟨c, r⟩⟩⟩
    · simp [sixL, decS]
    · have h1 := getL_four1 a (hl a (by simp))
      show decS (four a 0 0 1) = _
      rw [show decS (four a 0 0 1) = (getL (four a 0 0 1)).bind fun x => (decS []).map fun t => x ++ t from rfl, h1]
      rfl
    · have h1 := getL_four2 a b (hl a (by simp)) (hl b (by simp))
      show decS (four a b 0 2) = _
      rw [show decS (four a b 0 2) = (getL (four a b 0 2)).bind fun x => (decS []).map fun t => x ++ t from rfl, h1]
      rfl
    · have h1 := getL_four3 a b c (hl a (by simp)) (hl b (by simp)) (hl c (by simp))
      have h2 := ih r (by simp at h; omega) (fun x hx => hl x (by simp [hx]))
      show decS (four a b c 3 ++ sixL r) = _
      rw [show decS (four a b c 3 ++ sixL r) = (getL (four a b c 3)).bind fun x => (decS (sixL r)).map fun t => x ++ t from rfl, h1, h2]
      rfl
theorem sixL_range (l : List Int) : ∀ x ∈ sixL l, 0 ≤ x ∧ x < 256 := sixL_small _ l (Nat.le_refl _)
theorem bytesOf_sixB (s : ByteArray) : bytesOf (sixB s) = sixL (bytesOf s) := bytesOf_nums _ (sixL_range _)
theorem getS_sixB (s : ByteArray) : getS (sixB s) = (s, true) := by
  unfold getS
  rw [bytesOf_sixB, decS_sixL _ _ (Nat.le_refl _) (bytesOf_small s)]
  simp only [if_true, nums_bytesOf]
theorem bytesOf_inj {a b : ByteArray} : bytesOf a = bytesOf b ↔ a = b := ⟨fun h => by rw [← nums_bytesOf a, h, nums_bytesOf], fun h => by rw [h]⟩
theorem decS_small : ∀ (n : Nat) (l x : List Int), l.length ≤ n → decS l = some x → ∀ y ∈ x, 0 ≤ y ∧ y < 256 := by
  intro n
  induction n with
  | zero =>
    intro l x h hd
    obtain rfl : l = [] := List.eq_nil_of_length_eq_zero (by omega)
    simp [decS] at hd
    subst hd
    intro y hy
    cases hy
  | succ n ih =>
    intro l x h hd
    by_cases hl : l = []
    · subst hl
      simp [decS] at hd
      subst hd
      intro y hy
      cases hy
    · rw [decS_step l hl] at hd
      cases hg : getL (l.take 4) with
      | none => rw [hg] at hd; cases hd
      | some z =>
        rw [hg, Option.bind_some] at hd
        cases hr : decS (l.drop 4) with
        | none => rw [hr] at hd; cases hd
        | some t =>
          rw [hr, Option.map_some] at hd
          obtain rfl := Option.some.inj hd
          have hlen : 0 < l.length := List.length_pos_iff.2 hl
          have h1 := ih (l.drop 4) t (by rw [List.length_drop]; omega) hr
          intro y hy
          rcases List.mem_append.1 hy with hy | hy
          · exact (getL_small _ _ hg).1 y hy
          · exact h1 y hy
/-- What letters say, and what else. -/
theorem getS_iff (s t : ByteArray) : getS s = (t, true) ↔ sixB t = s := by
  constructor
  · intro h
    unfold getS at h
    cases hd : decS (bytesOf s) with
    | none => rw [hd] at h; cases h
    | some l =>
      rw [hd] at h
      by_cases he : sixL l = bytesOf s
      · simp only [if_pos he] at h
        obtain rfl := (Prod.mk.inj h).1
        apply bytesOf_inj.1
        rw [bytesOf_sixB, bytesOf_nums l (decS_small _ _ l (Nat.le_refl _) hd), he]
      · simp only [if_neg he] at h
        cases h
  · rintro rfl
    exact getS_sixB t
theorem getS_not (s : ByteArray) (h : ∀ t, ¬ sixB t = s) : getS s = (⟨#[]⟩, false) := by
  rcases hg : getS s with ⟨t, o⟩
  cases o with
  | true => exact absurd ((getS_iff s t).1 hg) (h t)
  | false =>
    unfold getS at hg
    cases hd : decS (bytesOf s) with
    | none => rw [hd] at hg; exact hg.symm
    | some l =>
      rw [hd] at hg
      by_cases he : sixL l = bytesOf s
      · simp only [if_pos he] at hg
        cases (Prod.mk.inj hg).2
      · simp only [if_neg he] at hg
        exact hg.symm
theorem sixPut_is {s : ByteArray} (h : s.size ≤ 10000) : sixPut.f s = some (sixB s) := by unfold sixPut.f; rw [if_pos (by omega)]
theorem sixGet_is {s : ByteArray} (h : s.size ≤ 10000) : sixGet.f s = some (getS s) := by unfold sixGet.f; rw [if_pos (by omega)]
theorem sixL_count : ∀ (n : Nat) (l : List Int), l.length ≤ n → (sixL l).length = (l.length + 2) / 3 * 4 := by
  intro n
  induction n with
  | zero =>
    intro l h
    obtain rfl : l = [] := List.eq_nil_of_length_eq_zero (by omega)
    rfl
  | succ n ih =>
    intro l h
    rcases l with _ | ⟨a, _ | ⟨b, _ | ⟨c, r⟩⟩⟩
    · rfl
    · simp [sixL, four]
    · simp [sixL, four]
    · have := ih r (by simp at h; omega)
      simp only [sixL, List.length_append, List.length_cons, this, four, List.length_nil]
      omega
theorem sixB_size (s : ByteArray) : (sixB s).size = (s.size + 2) / 3 * 4 := by
  unfold sixB
  rw [strOfNums_size, sixL_count _ _ (Nat.le_refl _), bytesOf_length]
end Go.Proofs.Ytnakkfdopfhkcaa
