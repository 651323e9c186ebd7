/- NumKinds: small numbers are digits by eights, large ones and those below nought bytes; a field is the former, where there is one. No conditions. -/
import Derived.Test.YtljahgpincaihaaGDx1
import Derived.Test.YtljahgpincaihaaNums
import Derived.OpenShut
namespace Go.Proofs.Ytljahgpincaihaa.Pure
set_option linter.unusedVariables false
set_option linter.unusedSimpArgs false
open Go.RowKit Go.Proofs.Ytljahgpincaihaa.GD Go.Proofs.YtljahgpincaihaaW.PrintWords Go.Proofs.YtljahgpincaihaaW.PrintLast

theorem awake_true : gripsacklaw1_awake.f = some true := by decide +kernel
theorem dg8_get (n : Int) : ∀ (k i : Nat), i < k → (dg8 k n)[i]? = some (48 + n / 8 ^ (k - 1 - i) % 8)
  | k + 1, 0, _ => by simp [dg8]
  | k + 1, i + 1, h => by
    rw [dg8, List.getElem?_cons_succ, dg8_get n k i (by omega), show k + 1 - 1 - (i + 1) = k - 1 - i from by omega]
theorem bt_nums (l : List Int) (h : ∀ x ∈ l, 0 ≤ x ∧ x < 256) (i : Nat) (x : Int) (hx : l[i]? = some x) : bt (strOfNums l) (i : Int) = x := by
  have hi : i < (strOfNums l).size := by rw [strOfNums_size]; exact (List.getElem?_eq_some_iff.1 hx).1
  have := bytesOf_get (strOfNums l) i hi
  rw [bytesOf_nums l h, hx] at this
  exact (Option.some.inj this).symm
theorem kinds_loop (x1 n : Int) (h0 : 0 ≤ n) (h1 : n < 2097152) (S : ByteArray) (hS : S = strOfNums (dg8 7 n ++ [0])) (x6 : Bool) (x5 : Int) : ∀ (d i : Nat), i + d = 7 →
    gripsacklaw1_NumKinds.l0 (d + 2) x1 x5 S x6 (n / 8 ^ d) (i : Int) = gripsacklaw1_NumKinds.j1 1 x1 x5 S x6 n
  | 0, i, h => by
    obtain rfl : i = 7 := by omega
    rw [gripsacklaw1_NumKinds.l0, if_neg (by omega)]
    simp
  | d + 1, i, h => by
    have ih := kinds_loop x1 n h0 h1 S hS x6 x5 d (i + 1) (by omega)
    have hl : ∀ x ∈ dg8 7 n ++ [0], 0 ≤ x ∧ x < 256 := by
      intro x hx
      rcases List.mem_append.1 hx with hx | hx
      · have := dg8_range _ _ x hx; omega
      · simp at hx; omega
    have hz : S.size = 8 := by rw [hS, strOfNums_size, List.length_append, dg8_length]; rfl
    have hb : bt S (i : Int) = 48 + n / 8 ^ d % 8 := by
      rw [hS]
      apply bt_nums _ hl
      rw [List.getElem?_append_left (by rw [dg8_length]; omega), dg8_get n 7 i (by omega), show 7 - 1 - i = d from by omega]
    have e : n / 8 ^ (d + 1) = n / 8 ^ d / 8 := by rw [Int.pow_succ, Int.ediv_ediv_of_nonneg (Int.pow_nonneg (by decide))]
    have hq0 : 0 ≤ n / 8 ^ d := Int.ediv_nonneg h0 (Int.pow_nonneg (by decide))
    have hq1 : n / 8 ^ d ≤ n := Int.ediv_le_self _ h0
    rw [gripsacklaw1_NumKinds.l0, if_pos (by omega), if_pos (by omega), if_pos (by omega), if_pos (by omega), hb, e]
    generalize n / 8 ^ d = q at *
    rw [show wrap64 (wrap64 (q / 8 * 8) + (48 + q % 8 - 48) % 256) = q from by unfold wrap64; omega, show wrap64 ((i : Int) + 1) = ((i + 1 : Nat) : Int) from by unfold wrap64; omega]
    exact ih
theorem numOct_is {n w : Int} (h0 : -9223372036854775808 ≤ n) (h1 : n < 9223372036854775808) : numOct.f n w = some (octS n w) := by unfold numOct.f; rw [if_pos ⟨h0, h1⟩]
theorem numBase_is {n w : Int} (h0 : -9223372036854775808 ≤ n) (h1 : n < 9223372036854775808) : numBase.f n w = some (baseS n w) := by unfold numBase.f; rw [if_pos ⟨h0, h1⟩]
theorem NumKinds : gripsacklaw1_NumKinds.Pure := by
  intro a0 a1 h0 h1
  obtain ⟨a00, a01⟩ := bounds_u32 h0
  obtain ⟨a10, a11⟩ := bounds_i64 h1
  refine ⟨9, ?_⟩
  unfold gripsacklaw1_NumKinds.f
  rw [show wrap64 a0 = a0 from by unfold wrap64; omega, Int.tmod_eq_emod_of_nonneg a00]
  have n0 : 0 ≤ a0 % 2097152 := by omega
  have n1 : a0 % 2097152 < 2097152 := by omega
  generalize a0 % 2097152 = n at *
  have hL : octL n 8 = some (dg8 7 n ++ [0]) := octL_some ⟨.inl rfl, n0, n1⟩
  have hO := octS_some hL
  have hl := kinds_loop a1 n n0 n1 _ rfl true n 7 0 rfl
  rw [show n / 8 ^ 7 = 0 from Int.ediv_eq_zero_of_lt n0 n1] at hl
  have hN : octS (2097152 + n) 8 = (⟨#[]⟩, false) := octS_none (octL_none (fun h => by have := h.2.2; change 2097152 + n < 2097152 at this; omega))
  have h9 : octS 5 9 = (⟨#[]⟩, false) := by decide +kernel
  have hB : baseL a1 12 = some ((if a1 < 0 then 255 else 128) :: by8 11 a1) := baseL_some ⟨.inr rfl, .inl rfl⟩
  have hb0 : bt (strOfNums ((if a1 < 0 then 255 else 128) :: by8 11 a1)) ((0 : Nat) : Int) = if a1 < 0 then 255 else 128 := bt_nums _ (baseL_range hB) 0 _ rfl
  have hbz : (strOfNums ((if a1 < 0 then 255 else 128) :: by8 11 a1)).size = 12 := by rw [strOfNums_size, List.length_cons, by8_length]
  rw [numOct_is (by omega) (by omega), Option.bind_some, hO]
  show gripsacklaw1_NumKinds.l0 9 a1 n (strOfNums (dg8 7 n ++ [0])) true 0 ((0 : Nat) : Int) = _
  rw [hl, gripsacklaw1_NumKinds.j1]
  unfold num_Field.f
  rw [show wrap64 (2097152 + n) = 2097152 + n from by unfold wrap64; omega, numOct_is (by omega) (by omega), numOct_is (by omega) (by omega), numOct_is (by omega) (by omega), numBase_is (n := a1) (w := 12) (by omega) (by omega), hO, hN, h9, baseS_some hB]
  generalize strOfNums ((if a1 < 0 then 255 else 128) :: by8 11 a1) = B at *
  simp only [Option.bind_some, if_true]
  rw [if_neg (by decide), if_pos (by omega), if_neg (by decide), if_pos (by omega)]
  rw [show ((0 : Nat) : Int) = 0 from rfl] at hb0
  rw [hb0]
  by_cases hn : a1 < 0
  · rw [if_pos hn, if_pos (by simp [hn]), if_pos (by simp; omega), awake_true]; rfl
  · rw [if_neg hn, if_pos (by simp; omega), if_pos (by simp; omega), awake_true]; rfl
end Go.Proofs.Ytljahgpincaihaa.Pure
