/- Texts as signs side by side; a text that is cut; the bytes of a sign by its number. -/
import Derived.Test.YtljodbbmcgpcnaaLists
namespace Go.Proofs.Ytljodbbmcgpcnaa
set_option linter.unusedVariables false
set_option linter.unusedSimpArgs false
open Go.RowKit Go.Proofs.YtljodbbmcgpcnaaW.PrintWords

theorem tailL_append : ∀ (l r : List Int) (x : Int) (m : Nat), m ≤ l.length → tailL x (l ++ r) m = tailL x l m := by
  intro l
  induction l with
  | nil => 
    intro r x m h
    have h0 : m = 0 := by simpa using h
    subst h0
    simp [tailL]
  | cons b l ih =>
    intro r x m h
    cases m with
    | zero => simp [tailL]
    | succ m => simp only [List.cons_append, tailL]; rw [ih r _ m (by simp at h; omega)]
theorem sgL_append (l r : List Int) (h : sgL l ≠ 0) : sgL (l ++ r) = sgL l := by
  cases l with
  | nil => exact absurd rfl h
  | cons c t =>
    simp only [List.cons_append, sgL] at h ⊢
    by_cases hc : (lng c).1 = 0 ∨ ((t.length : Int) + 1) < (lng c).1
    · rw [if_pos hc] at h; exact absurd rfl h
    · rw [if_neg hc, if_neg (by simp only [List.length_append]; omega), tailL_append _ _ _ _ (by omega)]

inductive Signs : List Int → Nat → Prop
  | nil : Signs [] 0
  | cons (p l : List Int) (n : Nat) : p ≠ [] → sgL p = p.length → Signs l n → Signs (p ++ l) (n + 1)
theorem Signs.one {p : List Int} (h : p ≠ []) (hp : sgL p = p.length) : Signs p 1 := by
  have := Signs.cons p [] 0 h hp .nil
  rwa [List.append_nil] at this
theorem Signs.append {l l' : List Int} {n n' : Nat} (h : Signs l n) (h' : Signs l' n') : Signs (l ++ l') (n + n') := by
  induction h with
  | nil => simpa using h'
  | cons p l n hp hs _ ih => rw [List.append_assoc, show n + 1 + n' = (n + n') + 1 from by omega]; exact .cons p _ _ hp hs ih
theorem Signs.le {l : List Int} {n : Nat} (h : Signs l n) : n ≤ l.length := by
  induction h with
  | nil => simp
  | cons p l n hp _ _ ih =>
    have : 0 < p.length := List.length_pos_iff.2 hp
    simp only [List.length_append]; omega
theorem go_signs {l : List Int} {n : Nat} (h : Signs l n) : ∀ (k : Nat) (r : List Int) (a c : Int), goL (k + n) (l ++ r) a c = goL k r (a + l.length) (c + n) := by
  induction h with
  | nil => intro k r a c; simp
  | cons p l n hp hs _ ih =>
    intro k r a c
    have h0 : 0 < p.length := List.length_pos_iff.2 hp
    have e : sgL ((p ++ l) ++ r) = p.length := by rw [List.append_assoc, sgL_append p (l ++ r) (by omega), hs]
    have hne : ¬ (p ++ l) ++ r = [] := fun e => hp (List.append_eq_nil_iff.1 (List.append_eq_nil_iff.1 e).1).1
    rw [show k + (n + 1) = (k + n) + 1 from by omega]
    simp only [goL]
    rw [if_neg hne, e, if_neg (show ¬ ((p.length : Int) = 0) by omega)]
    have hd : (p ++ l ++ r).drop (p.length : Int).toNat = l ++ r := by rw [Int.toNat_natCast, List.append_assoc, List.drop_left]
    rw [hd, ih k r _ _]
    congr 1
    · simp only [List.length_append]; omega
    · omega
theorem read_stop {l r : List Int} {n : Nat} (h : Signs l n) (hr : r ≠ []) (hz : sgL r = 0) : readL (l ++ r) = ((l.length : Int), (n : Int)) := by
  have hn := h.le
  unfold readL
  obtain ⟨k, hk⟩ : ∃ k, (l ++ r).length + 1 = (k + 1) + n := ⟨(l ++ r).length - n, by simp only [List.length_append]; omega⟩
  rw [hk, go_signs h]
  simp only [goL]
  rw [if_neg hr, if_pos hz]; simp
theorem read_signs {l : List Int} {n : Nat} (h : Signs l n) : readL l = (-1, (n : Int)) := by
  have hn := h.le
  unfold readL
  obtain ⟨k, hk⟩ : ∃ k, l.length + 1 = (k + 1) + n := ⟨l.length - n, by omega⟩
  have := go_signs h (k + 1) [] 0 0
  rw [List.append_nil] at this
  rw [hk, this]
  simp [goL]
theorem read_none {r : List Int} (hr : r ≠ []) (hz : sgL r = 0) : readL r = (0, 0) := by
  have := read_stop .nil hr hz
  simpa using this
theorem Signs.cut {l : List Int} {n : Nat} (h : Signs l n) : ∀ c, ∃ l1 n1 p, Signs l1 n1 ∧ l.take c = l1 ++ p ∧ (p = [] ∨ p ≠ [] ∧ sgL p = 0 ∧ p.length < 4) := by
  induction h with
  | nil => intro c; exact ⟨[], 0, [], .nil, by simp, .inl rfl⟩
  | cons p l n hp hs _ ih =>
    intro c
    by_cases hc : c < p.length
    · rw [List.take_append_of_le_length (by omega)]
      by_cases h0 : c = 0
      · subst h0; exact ⟨[], 0, [], .nil, by simp, .inl rfl⟩
      · have hl : (p.take c).length = c := by rw [List.length_take]; omega
        have hr := sgL_range (p.take c)
        have hr2 := sgL_range p
        refine ⟨[], 0, p.take c, .nil, rfl, .inr ⟨by intro e; rw [e] at hl; simp at hl; omega, ?_, by omega⟩⟩
        by_cases hz : sgL (p.take c) = 0
        · exact hz
        · have := sgL_append (p.take c) (p.drop c) hz
          rw [List.take_append_drop] at this
          omega
    · obtain ⟨l1, n1, q, h1, h2, h3⟩ := ih (c - p.length)
      refine ⟨p ++ l1, n1 + 1, q, .cons p l1 n1 hp hs h1, ?_, h3⟩
      rw [List.take_append, List.take_of_length_le (by omega), h2, List.append_assoc]

/-! ### A sign by its number -/
def putL (n : Int) : List Int :=
  if n < 128 then [n] else if n < 2048 then [192 + n / 64, 128 + n % 64] else if n < 65536 then [224 + n / 4096, 128 + n / 64 % 64, 128 + n % 64]
  else [240 + n / 262144, 128 + n / 4096 % 64, 128 + n / 64 % 64, 128 + n % 64]
def good (n : Int) : Bool := decide (n ≤ 1114111) && (decide (n < 55296) || decide (n > 57343))
theorem tailL_one {x b y : Int} (h : b / 64 = 2) (hy : x * 64 + b % 64 = y) : tailL x [b] 1 = some y := by simp [tailL, h, hy]
theorem tailL_two {x b c y : Int} (h : b / 64 = 2) (h' : c / 64 = 2) (hy : (x * 64 + b % 64) * 64 + c % 64 = y) : tailL x [b, c] 2 = some y := by simp [tailL, h, h', hy]
theorem tailL_three {x b c d y : Int} (h : b / 64 = 2) (h' : c / 64 = 2) (h'' : d / 64 = 2) (hy : ((x * 64 + b % 64) * 64 + c % 64) * 64 + d % 64 = y) : tailL x [b, c, d] 3 = some y := by simp [tailL, h, h', h'', hy]
theorem sgL_two {c b x : Int} (h : c / 32 = 6) (hb : b / 64 = 2) (hx : c % 32 * 64 + b % 64 = x) : sgL [c, b] = if okX x 128 = true then 2 else 0 := by
  simp only [sgL]
  rw [lng_two (by omega) h]
  simp only [List.length_cons, List.length_nil]
  rw [if_neg (by omega), show ((2 : Int) - 1).toNat = 1 from rfl, tailL_one hb hx]; rfl
theorem sgL_three {c b d x : Int} (h : c / 16 = 14) (hb : b / 64 = 2) (hd : d / 64 = 2) (hx : (c % 16 * 64 + b % 64) * 64 + d % 64 = x) : sgL [c, b, d] = if okX x 2048 = true then 3 else 0 := by
  simp only [sgL]
  rw [lng_three (by omega) (by omega) h]
  simp only [List.length_cons, List.length_nil]
  rw [if_neg (by omega), show ((3 : Int) - 1).toNat = 2 from rfl, tailL_two hb hd hx]; rfl
theorem sgL_four {c b d e x : Int} (h : c / 8 = 30) (hb : b / 64 = 2) (hd : d / 64 = 2) (he : e / 64 = 2) (hx : ((c % 8 * 64 + b % 64) * 64 + d % 64) * 64 + e % 64 = x) : sgL [c, b, d, e] = if okX x 65536 = true then 4 else 0 := by
  simp only [sgL]
  rw [lng_four (by omega) (by omega) (by omega) h]
  simp only [List.length_cons, List.length_nil]
  rw [if_neg (by omega), show ((4 : Int) - 1).toNat = 3 from rfl, tailL_three hb hd he hx]; rfl
theorem okX_good {n least : Int} (h : least ≤ n) : okX n least = good n := by
  unfold okX good
  rw [Bool.eq_iff_iff]
  simp
  omega
theorem sgL_put (n : Int) (h0 : 0 ≤ n) (h1 : n < 2097152) : sgL (putL n) = if good n = true then ((putL n).length : Int) else 0 := by
  unfold putL
  by_cases a : n < 128
  · rw [if_pos a]
    have hg : good n = true := by unfold good; simp; omega
    simp only [sgL]
    rw [lng_one a]
    simp [tailL, sgOf, okX, hg]
    omega
  rw [if_neg a]
  by_cases b : n < 2048
  · rw [if_pos b, sgL_two (x := n) (by omega) (by omega) (by omega), okX_good (by omega)]; rfl
  rw [if_neg b]
  by_cases c : n < 65536
  · rw [if_pos c, sgL_three (x := n) (by omega) (by omega) (by omega) (by omega), okX_good (by omega)]; rfl
  rw [if_neg c]
  rw [sgL_four (x := n) (by omega) (by omega) (by omega) (by omega) (by omega), okX_good (by omega)]; rfl
theorem putL_ne (n : Int) : putL n ≠ [] := by unfold putL; split; · simp
                                              split; · simp
                                              split <;> simp
theorem putL_len (n : Int) : (putL n).length ≤ 4 := by unfold putL; split; · simp
                                                       split; · simp
                                                       split <;> simp
theorem putL_bytes (n : Int) (h0 : 0 ≤ n) (h1 : n < 2097152) : ∀ x ∈ putL n, 0 ≤ x ∧ x < 256 := by
  unfold putL
  intro x hx
  split at hx
  · simp at hx; omega
  split at hx
  · simp at hx; omega
  split at hx
  · simp at hx; omega
  · simp at hx; omega
theorem sgL_ff (r : List Int) : sgL (255 :: r) = 0 := by
  simp only [sgL]
  rw [show lng 255 = (0, 0, 0) from by decide]
  simp
end Go.Proofs.Ytljodbbmcgpcnaa
