/- num.octal walked: a number's digits by eights, or noField's panic. -/
import Derived.Test.YtljahgpincaihaaPlain
import Derived.Test.YtljahgpincaihaaProg
import Derived.OwnWalk
import Derived.WalkKit
namespace Go.Proofs.Ytljahgpincaihaa
set_option linter.unusedVariables false
set_option linter.unusedSimpArgs false
open Go.RowKit Go.Proofs.YtljahgpincaihaaW.PrintWords

/-- The panic of a number that has no field. -/
abbrev noField : Ending := .panicked [{ v := .iface 53 (.agg #[.int .i64 4]), recovered := false }]
theorem must_true (w : World) : Calls Try.prog 29 #[.bool true] w fun e w' => e = .returned (.tuple #[]) ∧ w' = w := by
  go_enter Try.func29, Try.ntmps29
  go_wp2_with fail
  go_end0
  exact ⟨rfl, rfl⟩
theorem must_false (w : World) : Calls Try.prog 29 #[.bool false] w fun e w' => e = noField ∧ w' = w := by
  go_enter Try.func29, Try.ntmps29
  go_wp2_with fail
  exact ⟨rfl, rfl, rfl⟩
theorem wide_calls (n : Int) (w : World) : Calls Try.prog 31 #[.int .i64 n] w fun e w' => e = .returned (.bool (n == 8 || n == 12)) ∧ w' = w := by
  by_cases h8 : n = 8
  · subst h8
    go_enter Try.func31, Try.ntmps31
    go_wp2_with fail
    go_ret
    exact ⟨rfl, rfl⟩
  · have h8' : (n == 8) = false := beq_eq_false_iff_ne.mpr h8
    go_enter Try.func31, Try.ntmps31
    go_wp2_with fail
    go_ret
    exact ⟨by simp [h8'], rfl⟩

/-- How octal, and base, end. -/
def NumEnd (r : Option (List Int)) (w : World) (e : Ending) (w' : World) : Prop :=
  (match r with
    | some l => e = .returned (.string (strOfNums l))
    | none => e = noField) ∧ Below w.heap.size w w'
theorem octL_none {n w : Int} (h : ¬ ((w = 8 ∨ w = 12) ∧ 0 ≤ n ∧ n < 8 ^ (w.toNat - 1))) : octL n w = none := by unfold octL; rw [if_neg h]
theorem octL_some {n w : Int} (h : (w = 8 ∨ w = 12) ∧ 0 ≤ n ∧ n < 8 ^ (w.toNat - 1)) : octL n w = some (dg8 (w.toNat - 1) n ++ [0]) := by unfold octL; rw [if_pos h]

/-- The row behind k rounds. -/
def xsO (m k : Nat) (n : Int) : List Int := List.replicate (m - 1 - k) 0 ++ (dg8 k n ++ [0])
theorem xsO_length (m k : Nat) (n : Int) (h : k + 1 ≤ m) : (xsO m k n).length = m := by
  unfold xsO
  simp only [List.length_append, List.length_replicate, dg8_length, List.length_cons, List.length_nil]
  omega
theorem xsO_zero (m : Nat) (n : Int) (h : 1 ≤ m) : xsO m 0 n = List.replicate m 0 := by
  obtain ⟨j, rfl⟩ : ∃ j, m = j + 1 := ⟨m - 1, by omega⟩
  unfold xsO
  simp [dg8, List.replicate_succ']
theorem xsO_step (m k j : Nat) (n : Int) (h : j + 2 + k = m) : (xsO m k n).set j (48 + n / 8 ^ k % 8) = xsO m (k + 1) n := by
  unfold xsO
  rw [show m - 1 - k = j + 1 from by omega, show m - 1 - (k + 1) = j from by omega, List.replicate_succ', List.append_assoc, List.set_append_right _ _ (by simp)]
  simp [dg8]
theorem xsO_end (m : Nat) (n : Int) : xsO m (m - 1) n = dg8 (m - 1) n ++ [0] := by
  unfold xsO
  simp
set_option maxHeartbeats 4000000 in
set_option maxRecDepth 100000 in
theorem octal_ends (n m : Int) (hn1 : n < 9223372036854775808) (w : World) : Calls Try.prog 23 #[.int .i64 n, .int .i64 m] w (NumEnd (octL n m) w) := by
  have HW := Aside0.mk (wide_calls m)
  have HT := Aside0.mk must_true
  have HF := Aside0.mk must_false
  by_cases hm : m = 8 ∨ m = 12
  · have hw : (m == 8 || m == 12) = true := by rcases hm with rfl | rfl <;> rfl
    rw [hw] at HW
    by_cases hn0 : 0 ≤ n
    · have k0 : decide (n ≥ 0) = true := decide_eq_true hn0
      obtain ⟨m, rfl⟩ := Int.eq_ofNat_of_zero_le (show 0 ≤ m by omega)
      have hmk := print_make (P := Try.prog) 34 5 .u8 1 Try.underlying34 (by kernel_rfl) (by decide) m (by omega)
      go_enter Try.func23, Try.ntmps23
      go_wp2_with fail
      refine (HW.out _).mono ?_
      rintro e w1 ⟨rfl, rfl⟩
      go_wp2_with fail
      refine (HT.out _).mono ?_
      rintro e w1 ⟨rfl, rfl⟩
      have HB : Aside0 (Below w1.heap.size w1 (w1.alloc (.cells (madeCells #[.int .u8 0] m) 5))) := ⟨(Below.refl _ _).alloc (Nat.le_refl _) _⟩
      have HO : Aside0 ((w1.alloc (.cells (madeCells #[.int .u8 0] m) 5)).ownsRow w1.heap.size 5 1 (.slice (some ⟨w1.heap.size, 0, none⟩) m m) m (nums .u8 (List.replicate m 0))) := ⟨own_made w1 w1.heap.size 5 .u8 m (Nat.le_refl _) (by omega)⟩
      rw [← xsO_zero m n (by omega)] at HO
      have h7 : 7 ≤ m - 1 ∧ m - 1 ≤ 11 := by omega
      go_wp2_with fail
      generalize w1.alloc (.cells (madeCells #[.int .u8 0] m) 5) = W0 at *
      generalize hg : w1.heap.size = g at *
      go_loopw [0, 6] (fun v0 v6 wr => ∃ (k : Nat) (i : Int), v0 = .int .i64 (n / 8 ^ k) ∧ v6 = .int .i64 i ∧ i + 2 + k = m ∧ k + 1 ≤ m ∧ Aside0 (wr.ownsRow g 5 1 (.slice (some ⟨g, 0, none⟩) m m) m (nums .u8 (xsO m k n))) ∧ Aside0 (Below g w1 wr)) (fun _ v6 _ => (intOf v6 + 1).toNat)
      case atStart => exact ⟨0, (m : Int) - 2, by simp, rfl, by omega, by omega, HO, HB⟩
      case round =>
        obtain ⟨k, i, rfl, rfl, hik, hk, HO, HB⟩ := hrel
        clear hmk
        by_cases hi : 0 ≤ i
        · obtain ⟨j, rfl⟩ := Int.eq_ofNat_of_zero_le hi
          have hq0 : 0 ≤ n / 8 ^ k := Int.ediv_nonneg hn0 (Int.pow_nonneg (by decide))
          have hq1 : n / 8 ^ k < 9223372036854775808 := Int.lt_of_le_of_lt (Int.ediv_le_self _ hn0) hn1
          have hdiv : Aside0 (n / 8 ^ k / 8 = n / 8 ^ (k + 1)) := ⟨by rw [Int.pow_succ, Int.ediv_ediv_of_nonneg (Int.pow_nonneg (by decide))]⟩
          have hst := Aside0.mk (xsO_step m k j n (by omega))
          generalize n / 8 ^ k = q at *
          have hand := and7 q hq0 hq1
          have q2 : decide ((j : Int) ≥ 0) = true := decide_eq_true (by omega)
          have q1 : ((j : Int) < (m : Int)) = True := eq_true (by omega)
          obtain ⟨c0, z0⟩ := own_at HO.out (j : Int) (by omega) (by omega)
          simp only [Int.toNat_natCast] at c0 z0
          obtain ⟨HO2, hgr⟩ := own_store HO.out (j : Int) (48 + q % 8)
          simp only [Int.toNat_natCast] at HO2 hgr
          rw [hst.out] at HO2
          have HO3 := Aside0.mk HO2
          have HB3 : Aside0 (Below g w1 (wr.setCell ⟨g, j, none⟩ (.int .u8 (48 + q % 8)))) := ⟨HB.out.setCell (Nat.le_refl _) _⟩
          clear HO2 hgr
          go_wp2_with fail
          go_roundw
          case rel => exact ⟨k + 1, (j : Int) - 1, by rw [← hdiv.out], rfl, by omega, by omega, HO3, HB3⟩
          case measure => simp [intOf]
        · have q2 : decide (i ≥ 0) = false := decide_eq_false (by omega)
          obtain rfl : k = m - 1 := by omega
          have hq0 : 0 ≤ n / 8 ^ (m - 1) := Int.ediv_nonneg hn0 (Int.pow_nonneg (by decide))
          have hp : (0 : Int) < 8 ^ (m - 1) := Int.pow_pos (by decide)
          have hz : n / 8 ^ (m - 1) < 1 ↔ n < 1 * 8 ^ (m - 1) := Int.ediv_lt_iff_lt_mul hp
          rw [Int.one_mul] at hz
          rw [xsO_end] at HO
          have hcv := own_string (P := Try.prog) (dst := 9) Try.underlying34 Try.underlying5 Try.underlying9 HO.out
          by_cases hlt : n < 8 ^ (m - 1)
          · have q3 : (n / 8 ^ (m - 1) == 0) = true := beq_iff_eq.mpr (by have := hz.2 hlt; omega)
            have HE := Aside0.mk (octL_some (n := n) (w := m) ⟨hm, hn0, by rw [Int.toNat_natCast]; exact hlt⟩)
            rw [Int.toNat_natCast] at HE
            clear hz hp hq0 hlt
            go_wp2_with fail
            refine (HT.out _).mono ?_
            rintro e w1 ⟨rfl, rfl⟩
            go_wp2_with fail
            go_ret
            unfold NumEnd
            rw [HE.out]
            exact ⟨rfl, by rw [hg]; exact HB.out⟩
          · have q3 : (n / 8 ^ (m - 1) == 0) = false := beq_eq_false_iff_ne.mpr (by intro h; apply hlt; apply hz.1; omega)
            have HE := Aside0.mk (octL_none (n := n) (w := m) (fun h => hlt (by have := h.2.2; rwa [Int.toNat_natCast] at this)))
            clear hz hp hq0 hlt
            go_wp2_with fail
            refine (HF.out _).mono ?_
            rintro e w1 ⟨rfl, rfl⟩
            unfold NumEnd
            rw [HE.out]
            exact ⟨rfl, rfl, by rw [hg]; exact HB.out⟩
    · have k0 : decide (n ≥ 0) = false := decide_eq_false hn0
      have HE := Aside0.mk (octL_none (n := n) (w := m) (fun h => hn0 h.2.1))
      go_enter Try.func23, Try.ntmps23
      go_wp2_with fail
      refine (HW.out _).mono ?_
      rintro e w1 ⟨rfl, rfl⟩
      go_wp2_with fail
      refine (HF.out _).mono ?_
      rintro e w1 ⟨rfl, rfl⟩
      unfold NumEnd
      rw [HE.out]
      exact ⟨rfl, rfl, Below.refl _ _⟩
  · have hw : (m == 8 || m == 12) = false := by
      rw [Bool.or_eq_false_iff]
      exact ⟨beq_eq_false_iff_ne.mpr fun h => hm (.inl h), beq_eq_false_iff_ne.mpr fun h => hm (.inr h)⟩
    rw [hw] at HW
    have HE := Aside0.mk (octL_none (n := n) (w := m) (fun h => hm h.1))
    go_enter Try.func23, Try.ntmps23
    go_wp2_with fail
    refine (HW.out _).mono ?_
    rintro e w1 ⟨rfl, rfl⟩
    go_wp2_with fail
    refine (HF.out _).mono ?_
    rintro e w1 ⟨rfl, rfl⟩
    unfold NumEnd
    rw [HE.out]
    exact ⟨rfl, rfl, Below.refl _ _⟩
end Go.Proofs.Ytljahgpincaihaa
