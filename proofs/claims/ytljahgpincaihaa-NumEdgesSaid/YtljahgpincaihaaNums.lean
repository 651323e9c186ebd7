/- Plain facts of fields: what a field says is read again; no program and no memory in it. -/
import Derived.Test.YtljahgpincaihaaReadB
namespace Go.Proofs.Ytljahgpincaihaa
set_option linter.unusedVariables false
set_option linter.unusedSimpArgs false
open Go.RowKit Go.Proofs.YtljahgpincaihaaW.PrintWords

theorem or_low (x c : Int) (h0 : -9223372036854775808 ≤ x * 256) (h1 : x * 256 < 9223372036854775808) (c0 : 0 ≤ c) (c1 : c < 256) : Go.bits .or .i64 (x * 256) c = x * 256 + c := by
  obtain ⟨y, hy⟩ : ∃ y : Nat, (y : Int) = x % 72057594037927936 := ⟨(x % 72057594037927936).toNat, by omega⟩
  obtain ⟨d, rfl⟩ := Int.eq_ofNat_of_zero_le c0
  have e1 : (BitVec.ofInt 64 (x * 256)).toNat = 2 ^ 8 * y := by
    rw [BitVec.toNat_ofInt]
    omega
  have e2 : (BitVec.ofInt 64 ((d : Nat) : Int)).toNat = d := by
    rw [BitVec.toNat_ofInt]
    omega
  have h := Nat.two_pow_add_eq_or_of_lt (i := 8) (b := d) (by omega) y
  unfold Go.bits
  show IntKind.i64.wrap ((BitVec.ofInt 64 (x * 256) ||| BitVec.ofInt 64 ((d : Nat) : Int)).toNat : Int) = _
  rw [BitVec.toNat_or, e1, e2, ← h, IntKind.wrap_i64]
  omega
theorem fo_dg8 (n : Int) (h0 : 0 ≤ n) (h1 : n < 1152921504606846976) : ∀ k, fo (n / 8 ^ k) (dg8 k n) = n
  | 0 => by simp [dg8, fo]
  | k + 1 => by
    have ih := fo_dg8 n h0 h1 k
    have e : n / 8 ^ (k + 1) = n / 8 ^ k / 8 := by rw [Int.pow_succ, Int.ediv_ediv_of_nonneg (Int.pow_nonneg (by decide))]
    have hq0 : 0 ≤ n / 8 ^ k := Int.ediv_nonneg h0 (Int.pow_nonneg (by decide))
    have hq1 : n / 8 ^ k ≤ n := Int.ediv_le_self _ h0
    rw [dg8, fo, e]
    generalize n / 8 ^ k = q at *
    have hw : ∀ n : Int, 0 ≤ n → n < 2 ^ 63 → IntKind.i64.wrap n = n := by
      intro n a b
      rw [IntKind.wrap_i64]
      omega
    have hor : Go.bits .or .i64 (q / 8 * 8) (q % 8) = q / 8 * 8 + q % 8 := by
      have := bits_join .i64 63 (by decide) hw 3 (q / 8 * 8) (q % 8) (by omega) (by omega) (by omega) (by omega) (by omega) (by omega)
      simpa using this
    rw [show (48 + q % 8 - 48) % 256 = q % 8 from by omega, and7 _ (by omega) (by omega), show q % 8 % 8 = q % 8 from by omega, show wrap64 (q / 8 * 8) = q / 8 * 8 from by unfold wrap64; omega, hor, show q / 8 * 8 + q % 8 = q from by omega]
    exact ih
theorem pow_pos8 (k : Nat) : (0 : Int) < 8 ^ k := Int.pow_pos (by decide)
theorem pow_pos256 (k : Nat) : (0 : Int) < 256 ^ k := Int.pow_pos (by decide)
theorem fb_by8 (n : Int) (h0 : -9223372036854775808 ≤ n) (h1 : n < 9223372036854775808) : ∀ k, fb (n / 256 ^ k) (by8 k n) = n
  | 0 => by simp [by8, fb]
  | k + 1 => by
    have ih := fb_by8 n h0 h1 k
    have e : n / 256 ^ (k + 1) = n / 256 ^ k / 256 := by rw [Int.pow_succ, Int.ediv_ediv_of_nonneg (Int.pow_nonneg (by decide))]
    have hp := pow_pos256 k
    have hq0 : -9223372036854775808 ≤ n / 256 ^ k := by
      rcases Int.lt_or_le n 0 with h | h
      · have := Int.ediv_mul_le n (Int.ne_of_gt hp)
        have h2 : n ≤ n / 256 ^ k := by
          rw [Int.le_ediv_iff_mul_le hp]
          have : n * 256 ^ k ≤ n * 1 := Int.mul_le_mul_of_nonpos_left (by omega) (by omega)
          omega
        omega
      · have := Int.ediv_nonneg h (Int.le_of_lt hp); omega
    have hq1 : n / 256 ^ k < 9223372036854775808 := by
      rcases Int.lt_or_le n 0 with h | h
      · have := Int.ediv_neg_of_neg_of_pos h hp; omega
      · have := Int.ediv_le_self (256 ^ k) h; omega
    rw [by8, fb, e]
    generalize n / 256 ^ k = q at *
    rw [show wrap64 (q / 256 * 256) = q / 256 * 256 from by unfold wrap64; omega, or_low _ _ (by omega) (by omega) (by omega) (by omega), show q / 256 * 256 + q % 256 = q from by omega]
    exact ih
/-! ### What is read is what was written -/
theorem dg8_nil (k : Nat) (n : Int) : trimL (dg8 k n ++ [0]) = dg8 k n := by simp [trimL]
theorem octL_iff {n w : Int} {l : List Int} : octL n w = some l ↔ ((w = 8 ∨ w = 12) ∧ 0 ≤ n ∧ n < 8 ^ (w.toNat - 1)) ∧ dg8 (w.toNat - 1) n ++ [0] = l := by
  unfold octL
  by_cases h : (w = 8 ∨ w = 12) ∧ 0 ≤ n ∧ n < 8 ^ (w.toNat - 1)
  · rw [if_pos h]; exact Iff.intro (fun e => ⟨h, Option.some.inj e⟩) (fun e => by rw [e.2])
  · rw [if_neg h]; exact Iff.intro (fun e => by cases e) (fun e => absurd e.1 h)
theorem baseL_iff {n w : Int} {l : List Int} : baseL n w = some l ↔ ((w = 8 ∨ w = 12) ∧ (w = 12 ∨ (-72057594037927936 ≤ n ∧ n < 72057594037927936))) ∧ (if n < 0 then 255 else 128) :: by8 (w.toNat - 1) n = l := by
  unfold baseL
  by_cases h : (w = 8 ∨ w = 12) ∧ (w = 12 ∨ (-72057594037927936 ≤ n ∧ n < 72057594037927936))
  · rw [if_pos h]; exact Iff.intro (fun e => ⟨h, Option.some.inj e⟩) (fun e => by rw [e.2])
  · rw [if_neg h]; exact Iff.intro (fun e => by cases e) (fun e => absurd e.1 h)
theorem pow8_small (w : Int) (h : w = 8 ∨ w = 12) : (8 : Int) ^ (w.toNat - 1) ≤ 8589934592 := by rcases h with rfl | rfl <;> decide
theorem fo_octL {n w : Int} {l : List Int} (h : octL n w = some l) : fo 0 (trimL l) = n := by
  obtain ⟨⟨hw, h0, h1⟩, rfl⟩ := octL_iff.1 h
  have hs := pow8_small w hw
  rw [dg8_nil]
  have := fo_dg8 n h0 (by omega) (w.toNat - 1)
  rwa [Int.ediv_eq_zero_of_lt h0 h1] at this
theorem rdO_iff (l : List Int) (m : Int) : rdO l = some m ↔ octL m l.length = some l := by
  unfold rdO
  constructor
  · intro h
    split at h
    · rename_i h1
      rw [← Option.some.inj h]; exact h1
    · cases h
  · intro h
    have := fo_octL h
    rw [this, if_pos h]
theorem ediv_high (n : Int) (w : Int) (hw : (w = 8 ∨ w = 12) ∧ (w = 12 ∨ (-72057594037927936 ≤ n ∧ n < 72057594037927936))) (h0 : -9223372036854775808 ≤ n) (h1 : n < 9223372036854775808) : n / 256 ^ (w.toNat - 1) = if n < 0 then -1 else 0 := by
  obtain ⟨rfl | rfl, h⟩ := hw
  · show n / 72057594037927936 = _
    split <;> omega
  · show n / 309485009821345068724781056 = _
    split <;> omega
theorem fb_baseL {n w : Int} {l : List Int} (h : baseL n w = some l) (h0 : -9223372036854775808 ≤ n) (h1 : n < 9223372036854775808) : fb (if l.head? = some 255 then -1 else 0) l.tail = n := by
  obtain ⟨hw, rfl⟩ := baseL_iff.1 h
  have e := ediv_high n w hw h0 h1
  have := fb_by8 n h0 h1 (w.toNat - 1)
  rw [e] at this
  rw [List.head?_cons, List.tail_cons]
  by_cases hn : n < 0
  · rw [if_pos hn] at this ⊢
    rw [if_pos rfl]
    exact this
  · rw [if_neg hn] at this ⊢
    rw [if_neg (by decide)]
    exact this
theorem fb_range : ∀ (l : List Int) (n : Int), -9223372036854775808 ≤ n ∧ n < 9223372036854775808 → -9223372036854775808 ≤ fb n l ∧ fb n l < 9223372036854775808
  | [], n, h => h
  | c :: l, n, h => fb_range l _ (bits_range _ _ _)
theorem rdB_iff (l : List Int) (m : Int) : rdB l = some m ↔ baseL m l.length = some l ∧ -9223372036854775808 ≤ m ∧ m < 9223372036854775808 := by
  unfold rdB
  constructor
  · intro h
    by_cases h1 : baseL (fb (if l.head? = some 255 then -1 else 0) l.tail) l.length = some l
    · rw [if_pos h1] at h
      rw [← Option.some.inj h]
      refine ⟨h1, fb_range _ _ ?_⟩
      split <;> omega
    · rw [if_neg h1] at h
      cases h
  · rintro ⟨h, h0, h1⟩
    have := fb_baseL h h0 h1
    rw [this, if_pos h]
/-! ### The same of texts -/
theorem octS_some {n w : Int} {l : List Int} (h : octL n w = some l) : octS n w = (strOfNums l, true) := by unfold octS; rw [h]
theorem octS_none {n w : Int} (h : octL n w = none) : octS n w = (⟨#[]⟩, false) := by unfold octS; rw [h]
theorem baseS_some {n w : Int} {l : List Int} (h : baseL n w = some l) : baseS n w = (strOfNums l, true) := by unfold baseS; rw [h]
theorem baseS_none {n w : Int} (h : baseL n w = none) : baseS n w = (⟨#[]⟩, false) := by unfold baseS; rw [h]
theorem octS_iff {n w : Int} {s : ByteArray} : octS n w = (s, true) ↔ octL n w = some (bytesOf s) := by
  constructor
  · intro h
    cases hl : octL n w with
    | none => rw [octS_none hl] at h; cases h
    | some l => rw [octS_some hl] at h; rw [← (Prod.mk.inj h).1, bytesOf_nums _ (octL_range hl)]
  · intro h; rw [octS_some h, nums_bytesOf]
theorem baseS_iff {n w : Int} {s : ByteArray} : baseS n w = (s, true) ↔ baseL n w = some (bytesOf s) := by
  constructor
  · intro h
    cases hl : baseL n w with
    | none => rw [baseS_none hl] at h; cases h
    | some l => rw [baseS_some hl] at h; rw [← (Prod.mk.inj h).1, bytesOf_nums _ (baseL_range hl)]
  · intro h; rw [baseS_some h, nums_bytesOf]
/-- What a field of whatever width is. -/
def fieldS (n w : Int) : ByteArray × Bool := if (octS n w).2 = true then octS n w else baseS n w
theorem rdOS_some {s : ByteArray} {m : Int} (h : octL m s.size = some (bytesOf s)) : rdOS s = (m, true) := by
  unfold rdOS
  rw [(rdO_iff _ _).2 (by rw [bytesOf_length]; exact h)]; rfl
theorem rdOS_none {s : ByteArray} (h : ∀ m, ¬ octL m s.size = some (bytesOf s)) : rdOS s = (0, false) := by
  unfold rdOS
  cases hr : rdO (bytesOf s) with
  | none => rfl
  | some m => exact absurd (by have := (rdO_iff _ _).1 hr; rwa [bytesOf_length] at this) (h m)
theorem rdBS_some {s : ByteArray} {m : Int} (h : baseL m s.size = some (bytesOf s)) (h0 : -9223372036854775808 ≤ m) (h1 : m < 9223372036854775808) : rdBS s = (m, true) := by
  unfold rdBS
  rw [(rdB_iff _ _).2 ⟨by rw [bytesOf_length]; exact h, h0, h1⟩]; rfl
theorem rdBS_none {s : ByteArray} (h : ∀ m, -9223372036854775808 ≤ m → m < 9223372036854775808 → ¬ baseL m s.size = some (bytesOf s)) : rdBS s = (0, false) := by
  unfold rdBS
  cases hr : rdB (bytesOf s) with
  | none => rfl
  | some m =>
    have := (rdB_iff _ _).1 hr
    rw [bytesOf_length] at this
    exact absurd this.1 (h m this.2.1 this.2.2)
end Go.Proofs.Ytljahgpincaihaa
