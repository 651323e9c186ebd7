/- NumOrder: of two numbers from nought on the greater one's bytes are greater, in one form; each number has just one field. No conditions. -/
import Derived.Test.YtljahgpincaihaaGDx1
import Derived.Test.YtljahgpincaihaaNums
import Derived.OpenShut
namespace Go.Proofs.Ytljahgpincaihaa.Pure
set_option linter.unusedVariables false
set_option linter.unusedSimpArgs false
open Go.RowKit Go.Proofs.Ytljahgpincaihaa.GD Go.Proofs.YtljahgpincaihaaW.PrintWords Go.Proofs.YtljahgpincaihaaW.PrintLast

namespace NumOrderOf
theorem awake_true : gripsacklaw1_awake.f = some true := by decide +kernel
theorem numOct_is {n w : Int} (h0 : -9223372036854775808 ≤ n) (h1 : n < 9223372036854775808) : numOct.f n w = some (octS n w) := by unfold numOct.f; rw [if_pos ⟨h0, h1⟩]
theorem numBase_is {n w : Int} (h0 : -9223372036854775808 ≤ n) (h1 : n < 9223372036854775808) : numBase.f n w = some (baseS n w) := by unfold numBase.f; rw [if_pos ⟨h0, h1⟩]
/-- A row as a text's bytes. -/
def raw (l : List Int) : List UInt8 := l.map fun n => UInt8.ofNat n.toNat
theorem raw_is (l : List Int) : (strOfNums l).toList = raw l := by rw [ByteArray.toList_eq, strOfNums_data]; rfl
theorem less_cons (a b : Int) (l r : List Int) (ha : 0 ≤ a ∧ a < 256) (hb : 0 ≤ b ∧ b < 256) : Op.bytesLess (raw (a :: l)) (raw (b :: r)) = (decide (a < b) || (decide (a = b) && Op.bytesLess (raw l) (raw r))) := by
  obtain ⟨x, rfl⟩ := Int.eq_ofNat_of_zero_le ha.1
  obtain ⟨y, rfl⟩ := Int.eq_ofNat_of_zero_le hb.1
  have hx : x < 256 := by omega
  have hy : y < 256 := by omega
  show (decide (UInt8.ofNat x < UInt8.ofNat y) || (UInt8.ofNat x == UInt8.ofNat y && Op.bytesLess (raw l) (raw r))) = _
  have e1 : decide (UInt8.ofNat x < UInt8.ofNat y) = decide ((x : Int) < (y : Int)) := by
    congr 1
    rw [UInt8.lt_iff_toNat_lt, UInt8.toNat_ofNat', UInt8.toNat_ofNat', Nat.mod_eq_of_lt hx, Nat.mod_eq_of_lt hy]
    exact propext ⟨fun h => by omega, fun h => by omega⟩
  have e2 : (UInt8.ofNat x == UInt8.ofNat y) = decide ((x : Int) = (y : Int)) := by
    rw [Bool.beq_eq_decide_eq]
    congr 1
    apply propext
    constructor
    · intro h
      have := congrArg UInt8.toNat h
      rw [UInt8.toNat_ofNat', UInt8.toNat_ofNat', Nat.mod_eq_of_lt hx, Nat.mod_eq_of_lt hy] at this
      omega
    · intro h
      rw [show x = y from by omega]
  rw [e1, e2]
theorem cmp (P d e r t : Int) (r0 : 0 ≤ r) (r1 : r < P) (t0 : 0 ≤ t) (t1 : t < P) : (decide (d < e) || (decide (d = e) && decide (r < t))) = decide (d * P + r < e * P + t) := by
  rcases Int.lt_trichotomy d e with h | rfl | h
  · have := Int.mul_le_mul_of_nonneg_right (show d + 1 ≤ e by omega) (show 0 ≤ P by omega)
    rw [Int.add_mul, Int.one_mul] at this
    rw [decide_eq_true h, decide_eq_true (show d * P + r < e * P + t by omega)]
    rfl
  · rw [decide_eq_false (by omega), decide_eq_true rfl]
    show decide (r < t) = _
    congr 1
    apply propext
    omega
  · have := Int.mul_le_mul_of_nonneg_right (show e + 1 ≤ d by omega) (show 0 ≤ P by omega)
    rw [Int.add_mul, Int.one_mul] at this
    rw [decide_eq_false (show ¬ d < e by omega), decide_eq_false (show ¬ d = e by omega), decide_eq_false (show ¬ d * P + r < e * P + t by omega)]
    rfl
theorem mod_split (n P B : Int) (hP : 0 < P) (hB : 0 < B) : n % (P * B) = n / P % B * P + n % P := by
  have h1 := Int.mul_ediv_add_emod n P
  have h2 := Int.mul_ediv_add_emod (n / P) B
  have h3 := Int.emod_nonneg n (Int.ne_of_gt hP)
  have h4 := Int.emod_lt_of_pos n hP
  have h5 := Int.emod_nonneg (n / P) (Int.ne_of_gt hB)
  have h6 := Int.emod_lt_of_pos (n / P) hB
  generalize n / P % B = d at *
  generalize n / P / B = q at *
  generalize n % P = r at *
  have e : n = (d * P + r) + P * B * q := by
    rw [← h1, ← h2, Int.mul_add, Int.mul_assoc, Int.mul_comm P d]
    omega
  have b0 : 0 ≤ d * P := Int.mul_nonneg h5 (Int.le_of_lt hP)
  have b1 : (d + 1) * P ≤ B * P := Int.mul_le_mul_of_nonneg_right (by omega) (Int.le_of_lt hP)
  rw [Int.add_mul, Int.mul_comm B P] at b1
  rw [e, Int.add_mul_emod_self_left, Int.emod_eq_of_lt (by omega) (by omega)]
theorem less_by8 (x y : Int) : ∀ k, Op.bytesLess (raw (by8 k x)) (raw (by8 k y)) = decide (x % 256 ^ k < y % 256 ^ k)
  | 0 => by simp [by8, raw, Op.bytesLess]
  | k + 1 => by
    have hp := pow_pos256 k
    have h3 := Int.emod_nonneg x (Int.ne_of_gt hp)
    have h4 := Int.emod_lt_of_pos x hp
    have h5 := Int.emod_nonneg y (Int.ne_of_gt hp)
    have h6 := Int.emod_lt_of_pos y hp
    rw [by8, by8, less_cons _ _ _ _ (by omega) (by omega), less_by8 x y k, Int.pow_succ, mod_split x _ 256 hp (by decide), mod_split y _ 256 hp (by decide)]
    exact cmp _ _ _ _ _ h3 h4 h5 h6
theorem less_dg8 (x y : Int) : ∀ k, Op.bytesLess (raw (dg8 k x ++ [0])) (raw (dg8 k y ++ [0])) = decide (x % 8 ^ k < y % 8 ^ k)
  | 0 => by simp [dg8, raw, Op.bytesLess]
  | k + 1 => by
    have hp := pow_pos8 k
    have h3 := Int.emod_nonneg x (Int.ne_of_gt hp)
    have h4 := Int.emod_lt_of_pos x hp
    have h5 := Int.emod_nonneg y (Int.ne_of_gt hp)
    have h6 := Int.emod_lt_of_pos y hp
    rw [dg8, dg8, List.cons_append, List.cons_append, less_cons _ _ _ _ (by omega) (by omega), less_dg8 x y k, Int.pow_succ, mod_split x _ 8 hp (by decide), mod_split y _ 8 hp (by decide), ← cmp _ _ _ _ _ h3 h4 h5 h6]
    generalize x / 8 ^ k % 8 = d
    generalize y / 8 ^ k % 8 = e
    congr 1
    · congr 1
      apply propext
      omega
    · congr 1
      congr 1
      apply propext
      omega
theorem order (w : Int) (hw : w = 8 ∨ w = 12) (a b : Int) (a0 : 0 ≤ a) (a1 : a < 18446744073709551616) (b0 : 0 ≤ b) (b1 : b < 18446744073709551616) : gripsacklaw1_NumOrder.j0 1 a b w = some true := by
  have hp : (2097152 : Int) ≤ 8 ^ (w.toNat - 1) := by rcases hw with rfl | rfl <;> decide
  have hq : (72057594037927936 : Int) ≤ 256 ^ (w.toNat - 1) := by rcases hw with rfl | rfl <;> decide
  rw [gripsacklaw1_NumOrder.j0, show wrap64 (a / 256) = a / 256 from by unfold wrap64; omega, show wrap64 (b / 256) = b / 256 from by unfold wrap64; omega]
  have x0 : 0 ≤ a / 256 := by omega
  have x1 : a / 256 < 72057594037927936 := by omega
  have y0 : 0 ≤ b / 256 := by omega
  have y1 : b / 256 < 72057594037927936 := by omega
  generalize a / 256 = x at *
  generalize b / 256 = y at *
  rw [Int.tmod_eq_emod_of_nonneg x0, Int.tmod_eq_emod_of_nonneg y0, show wrap64 (-1 - x) = -1 - x from by unfold wrap64; omega]
  rw [numBase_is (by omega) (by omega), numBase_is (by omega) (by omega), numOct_is (by omega) (by omega), numOct_is (by omega) (by omega), numOct_is (by omega) (by omega)]
  rw [baseS_some (baseL_some (n := x) (w := w) ⟨hw, by omega⟩), baseS_some (baseL_some (n := y) (w := w) ⟨hw, by omega⟩), octS_some (octL_some (n := x % 2097152) (w := w) ⟨hw, by omega, by omega⟩), octS_some (octL_some (n := y % 2097152) (w := w) ⟨hw, by omega, by omega⟩), octS_none (octL_none (n := -1 - x) (w := w) (fun h => by omega))]
  simp only [Option.bind_some]
  rw [if_pos trivial, if_pos trivial, if_neg (show ¬ x < 0 by omega), if_neg (show ¬ y < 0 by omega), raw_is, raw_is, raw_is, raw_is, less_cons _ _ _ _ (by omega) (by omega), less_by8, less_dg8]
  rw [Int.emod_eq_of_lt x0 (by omega), Int.emod_eq_of_lt y0 (by omega), Int.emod_eq_of_lt (show 0 ≤ x % 2097152 by omega) (by omega), Int.emod_eq_of_lt (show 0 ≤ y % 2097152 by omega) (by omega)]
  rw [if_pos (by simp), if_pos trivial, if_pos trivial, if_pos (by simp), if_neg (by decide), awake_true, Option.bind_some]
end NumOrderOf
open NumOrderOf
theorem NumOrder : gripsacklaw1_NumOrder.Pure := by
  intro a b wide h0 h1
  obtain ⟨a0, a1⟩ := bounds_u64 h0
  obtain ⟨b0, b1⟩ := bounds_u64 h1
  refine ⟨1, ?_⟩
  unfold gripsacklaw1_NumOrder.f
  cases wide with
  | true => rw [if_pos rfl]; exact order 12 (.inr rfl) a b a0 (by omega) b0 (by omega)
  | false => rw [if_neg (by decide)]; exact order 8 (.inl rfl) a b a0 (by omega) b0 (by omega)
end Go.Proofs.Ytljahgpincaihaa.Pure
