/- The plain laws of caps: what the reference reads is what package caps reads; caps are told again by their bytes. -/
import Derived.Test.YtaaeidlekmeaiaaGCx2
namespace Go.Proofs.Ytaaeidlekmeaiaa
set_option linter.unusedVariables false
set_option linter.unusedSimpArgs false
open Go.RowKit Go.Proofs.YtaaeidlekmeaiaaW.PrintWords Go.Proofs.Ytaaeidlekmeaiaa.GC

theorem w64 {n : Int} (h0 : 0 ≤ n) (h1 : n < 9223372036854775808) : wrap64 n = n := by unfold wrap64; omega
theorem wu64 {n : Int} (h0 : 0 ≤ n) (h1 : n < 18446744073709551616) : IntKind.u64.wrap n = n := by
  simp only [IntKind.wrap, IntKind.bits, IntKind.signed]
  simp
  omega
theorem or_at (i : Nat) (hi : i ≤ 40) (b x : Int) (h0 : 0 ≤ x) (h1 : x < 256) (hb : 0 ≤ b) (hb' : b < 2 ^ i) : Go.bits .or .u64 b (x * 2 ^ i) = b + x * 2 ^ i := by
  have hp : (2 : Int) ^ i ≤ 2 ^ 40 := by exact_mod_cast Nat.pow_le_pow_right (by decide) hi
  have e : (2 : Int) ^ 40 = 1099511627776 := by decide
  have hp0 : (0 : Int) < 2 ^ i := Int.pow_pos (by decide)
  have hx : x * 2 ^ i ≤ 255 * 2 ^ i := Int.mul_le_mul_of_nonneg_right (by omega) (by omega)
  rw [bits_or_comm, or64 i (by omega) x b h0 (by omega) hb hb' (by omega)]
  omega
theorem ref_word (s : ByteArray) (k : Nat) (hs : s.size ≤ 1000) (hk : k ≤ 100) : gripsackref9_word.f s k = some (if (s.size : Int) < k + 4 then 0 else w4 s k) := by
  unfold gripsackref9_word.f
  rw [w64 (n := (k : Int) + 4) (by omega) (by omega), w64 (n := (k : Int) + 1) (by omega) (by omega), w64 (n := (k : Int) + 2) (by omega) (by omega), w64 (n := (k : Int) + 3) (by omega) (by omega)]
  by_cases h : (s.size : Int) < k + 4
  · rw [if_pos h, if_pos h]
  · rw [if_neg h, if_neg h, if_pos (by omega), if_pos (by omega), if_pos (by omega), if_pos (by omega), if_pos (by omega), if_pos (by omega), if_pos (by omega), if_pos (by omega)]
    have b0 := bt_range s k
    have b1 := bt_range s (k + 1)
    have b2 := bt_range s (k + 2)
    have b3 := bt_range s (k + 3)
    rw [wu64 (n := bt s k) (by omega) (by omega), wu64 (n := bt s (k + 1)) (by omega) (by omega), wu64 (n := bt s (k + 2)) (by omega) (by omega), wu64 (n := bt s (k + 3)) (by omega) (by omega),
      wu64 (n := bt s (k + 1) * 256) (by omega) (by omega), wu64 (n := bt s (k + 2) * 65536) (by omega) (by omega), wu64 (n := bt s (k + 3) * 16777216) (by omega) (by omega)]
    have o1 := or_at 8 (by omega) (bt s k) (bt s (k + 1)) (by omega) (by omega) (by omega) (by simp; omega)
    have o2 := or_at 16 (by omega) (bt s k + bt s (k + 1) * 256) (bt s (k + 2)) (by omega) (by omega) (by omega) (by simp; omega)
    have o3 := or_at 24 (by omega) (bt s k + bt s (k + 1) * 256 + bt s (k + 2) * 65536) (bt s (k + 3)) (by omega) (by omega) (by omega) (by simp; omega)
    simp at o1 o2 o3
    rw [o1, o2, o3]
    unfold w4
    congr 1
    omega
theorem leB_sizes (v p i r : Int) (e : Bool) : (putB v p i e r).size = if v = 0 ∨ mayB v p i e r = false then 0 else if v = 3 then 24 else 20 := by
  by_cases h : v = 0 ∨ mayB v p i e r = false
  · rw [putB_none h, if_pos h]; rfl
  · rw [if_neg h, putB_of (by omega) (by cases hm : mayB v p i e r <;> simp_all)]
    simp only [ByteArray.size_append, leB_size]
    split
    · rw [leB_size]
    · rw [strOfNums_size]; rfl
theorem putB_ne {v p i r : Int} {e : Bool} {s : ByteArray} (h0 : ¬ s.size = 0) (h : ¬ s.size = if v = 3 then 24 else 20) : ¬ putB v p i e r = s := by
  intro he
  have := leB_sizes v p i r e
  rw [he] at this
  split at this
  · omega
  · omega
/-- The reference's reading, its six words being at hand. -/
theorem ref_tail (s : ByteArray) (a0 a4 a12 a8 a16 a20 : Int) (h0 : 0 ≤ a0 ∧ a0 < 4294967296) (h4 : 0 ≤ a4 ∧ a4 < 4294967296) (h12 : 0 ≤ a12 ∧ a12 < 4294967296) (h8 : 0 ≤ a8 ∧ a8 < 4294967296) (h16 : 0 ≤ a16 ∧ a16 < 4294967296) (h20 : 0 ≤ a20 ∧ a20 < 4294967296) :
    ((refPut.f (wrap64 (a0 / 16777216)) (Go.bits .or .u64 a4 (IntKind.u64.wrap (a12 * 4294967296))) (Go.bits .or .u64 a8 (IntKind.u64.wrap (a16 * 4294967296))) ((Go.bits .and .u64 a0 1) == 1) (wrap64 a20)).bind fun t =>
      (if t.toList = s.toList then (some (wrap64 (a0 / 16777216), Go.bits .or .u64 a4 (IntKind.u64.wrap (a12 * 4294967296)), Go.bits .or .u64 a8 (IntKind.u64.wrap (a16 * 4294967296)), ((Go.bits .and .u64 a0 1) == 1), wrap64 a20, true)) else (some (0, 0, 0, false, 0, false)))) =
    some (if putB (a0 / 16777216) (a4 + a12 * 4294967296) (a8 + a16 * 4294967296) (decide (a0 % 2 > 0)) a20 = s then (a0 / 16777216, a4 + a12 * 4294967296, a8 + a16 * 4294967296, decide (a0 % 2 > 0), a20, true) else (0, 0, 0, false, 0, false)) := by
  rw [wrap_high a12 a4 h12.1 h12.2 h4.1 h4.2, wrap_high a16 a8 h16.1 h16.2 h8.1 h8.2, and_one a0 h0.1 h0.2, w64 (n := a0 / 16777216) (by omega) (by omega), w64 (n := a20) (by omega) (by omega)]
  have he : (a0 % 2 == 1) = decide (a0 % 2 > 0) := by rw [Bool.eq_iff_iff]; simp; omega
  rw [he]
  unfold refPut.f capsPut.f
  rw [if_pos (by unfold u64b; simp; omega), Option.bind_some]
  by_cases hq : putB (a0 / 16777216) (a4 + a12 * 4294967296) (a8 + a16 * 4294967296) (decide (a0 % 2 > 0)) a20 = s
  · rw [if_pos (toList_inj.2 hq), if_pos hq]
  · rw [if_neg (fun h => hq (toList_inj.1 h)), if_neg hq]
theorem two (P : Prop) [Decidable P] : (if P then 24 else 20 : Nat) = 24 ∨ (if P then 24 else 20 : Nat) = 20 := by by_cases h : P <;> simp [h]
theorem ref_get (s : ByteArray) (hs : s.size ≤ 1000) : gripsackref9_GetCaps.f s = some (getS s) := by
  unfold gripsackref9_GetCaps.f
  by_cases h0 : s.size = 0
  · have e0 : s = ⟨#[]⟩ := ByteArray.ext (Array.eq_empty_of_size_eq_zero h0)
    subst e0
    rw [if_pos (by rw [ByteArray.toList_eq])]
    unfold getS
    rw [if_pos h0]
  rw [if_neg (toList_nil h0)]
  have hw := fun k hk => ref_word s k hs hk
  have h1 := hw 0 (by omega)
  have h2 := hw 4 (by omega)
  have h3 := hw 12 (by omega)
  have h4 := hw 8 (by omega)
  have h5 := hw 16 (by omega)
  have h6 := hw 20 (by omega)
  simp only [Int.natCast_zero, show (((4 : Nat)) : Int) = 4 from rfl, show (((12 : Nat)) : Int) = 12 from rfl, show (((8 : Nat)) : Int) = 8 from rfl, show (((16 : Nat)) : Int) = 16 from rfl, show (((20 : Nat)) : Int) = 20 from rfl] at h1 h2 h3 h4 h5 h6
  have hr : ∀ (k m : Int), 0 ≤ (if (s.size : Int) < m then 0 else w4 s k) ∧ (if (s.size : Int) < m then 0 else w4 s k) < 4294967296 := by
    intro k m
    have := w4_range s k
    split <;> omega
  rw [h1, Option.bind_some, h2, Option.bind_some, h3, Option.bind_some, h4, Option.bind_some, h5, Option.bind_some, h6, Option.bind_some,
    ref_tail s _ _ _ _ _ _ (hr 0 (0 + 4)) (hr 4 (4 + 4)) (hr 12 (12 + 4)) (hr 8 (8 + 4)) (hr 16 (16 + 4)) (hr 20 (20 + 4))]
  congr 1
  unfold getS
  rw [if_neg h0]
  by_cases hx : s.size < 20 ∨ (verOf s = 3 ∧ s.size < 24)
  · rw [if_pos hx, if_neg]
    apply putB_ne h0
    rcases hx with hx | ⟨hv, hx⟩
    · have := two ((if (s.size : Int) < 0 + 4 then 0 else w4 s 0) / 16777216 = 3); omega
    · unfold verOf at hv
      by_cases h4 : (s.size : Int) < 0 + 4
      · have := two ((if (s.size : Int) < 0 + 4 then 0 else w4 s 0) / 16777216 = 3); omega
      · rw [if_neg h4, if_pos hv]; omega
  · rw [if_neg hx]
    rw [if_neg (show ¬ (s.size : Int) < 0 + 4 by omega), if_neg (show ¬ (s.size : Int) < 4 + 4 by omega), if_neg (show ¬ (s.size : Int) < 12 + 4 by omega), if_neg (show ¬ (s.size : Int) < 8 + 4 by omega), if_neg (show ¬ (s.size : Int) < 16 + 4 by omega)]
    by_cases hv : verOf s = 3
    · rw [if_neg (show ¬ (s.size : Int) < 20 + 4 by omega)]
      have hroot : rootOf s = w4 s 20 := by unfold rootOf; rw [if_pos hv]
      rw [hroot]; rfl
    · have hroot : rootOf s = 0 := by unfold rootOf; rw [if_neg hv]
      rw [hroot]
      by_cases h24 : (s.size : Int) < 20 + 4
      · rw [if_pos h24]; rfl
      · have hne : ∀ (v p i r : Int) (e : Bool), v = verOf s → ¬ putB v p i e r = s := fun v p i r e hvv => putB_ne h0 (by rw [if_neg (by rw [hvv]; exact hv)]; omega)
        rw [if_neg (hne (w4 s 0 / 16777216) _ _ _ _ rfl), if_neg (hne (verOf s) _ _ _ _ rfl)]
theorem awake_true : gripsacklaw11_awake.f = some true := by decide +kernel
theorem may_is (v p i r : Int) (e : Bool) : caps_May.f v p i e r = some (mayB v p i e r) ∧ gripsackref9_MayCaps.f v p i e r = some (mayB v p i e r) := by
  unfold caps_May.f gripsackref9_MayCaps.f mayB
  refine ⟨?_, ?_⟩
  all_goals
    by_cases h : v = 0
    · rw [if_pos h, if_pos h]; simp [h]
    rw [if_neg h, if_neg h]
    by_cases h2 : v = 2
    · rw [if_pos h2, if_pos h2]
    rw [if_neg h2, if_neg h2]
    by_cases h3 : v = 3
    · rw [if_pos h3, if_pos h3]; split <;> (simp_all; try omega)
    · rw [if_neg h3, if_neg h3]
end Go.Proofs.Ytaaeidlekmeaiaa
