/- caps.Put and the reference's PutCaps at whatever caps: the bytes of caps; nothing of what may not be. -/
import Derived.Test.YtaaeidlekmeaiaaPut
namespace Go.Proofs.Ytaaeidlekmeaiaa
set_option linter.unusedVariables false
set_option linter.unusedSimpArgs false
open Go.RowKit Go.Proofs.YtaaeidlekmeaiaaW.PrintWords

set_option maxHeartbeats 1000000 in
theorem put_zero (p i r : Int) (e : Bool) (w : World) : Calls Try.prog 12 #[.agg #[.int .i64 0, .int .u64 p, .int .u64 i, .bool e, .int .i64 r]] w fun x w' => x = .returned (.string ⟨#[]⟩) ∧ Below w.heap.size w w' := by
  have hu24 := Try.underlying24
  go_enter Try.func12, Try.ntmps12
  go_wp2_with fail
  go_ret
  exact ⟨rfl, (Below.refl _ _).alloc (Nat.le_refl _) _⟩
set_option maxHeartbeats 1000000 in
theorem put_not (v p i r : Int) (e : Bool) (hv : ¬ v = 0) (hm : mayB v p i e r = false) (w : World) : Calls Try.prog 12 #[.agg #[.int .i64 v, .int .u64 p, .int .u64 i, .bool e, .int .i64 r]] w fun x w' => x = .returned (.string ⟨#[]⟩) ∧ Below w.heap.size w w' := by
  have hu24 := Try.underlying24
  have HM := Aside0.mk (fun w => (may_calls v p i r e w))
  rw [hm] at HM
  clear hm
  have k0 : (v == 0) = false := beq_eq_false_iff_ne.mpr hv
  go_enter Try.func12, Try.ntmps12
  go_wp2_with fail
  refine (HM.out _).mono ?_
  rintro x w1 ⟨rfl, hb1⟩
  have W1 : Aside0 (Below w.heap.size w w1) := ⟨((Below.refl w.heap.size w).alloc (Nat.le_refl _) _).trans (hb1.mono (by simp))⟩
  clear hb1
  go_wp2_with fail
  go_ret
  exact ⟨rfl, W1.out⟩
set_option maxHeartbeats 1000000 in
theorem refput_not (v p i r : Int) (e : Bool) (hm : mayB v p i e r = false) (w : World) : Calls Try.prog 13 #[.agg #[.int .i64 v, .int .u64 p, .int .u64 i, .bool e, .int .i64 r]] w fun x w' => x = .returned (.string ⟨#[]⟩) ∧ Below w.heap.size w w' := by
  have hu24 := Try.underlying24
  have HM := Aside0.mk (fun w => (refmay_calls v p i r e w))
  rw [hm] at HM
  clear hm
  go_enter Try.func13, Try.ntmps13
  go_wp2_with fail
  refine (HM.out _).mono ?_
  rintro x w1 ⟨rfl, hb1⟩
  have W1 : Aside0 (Below w.heap.size w w1) := ⟨((Below.refl w.heap.size w).alloc (Nat.le_refl _) _).trans (hb1.mono (by simp))⟩
  clear hb1
  go_wp2_with fail
  go_ret
  exact ⟨rfl, W1.out⟩
set_option maxHeartbeats 1000000 in
theorem refput_zero (p i r : Int) (e : Bool) (hm : mayB 0 p i e r = true) (w : World) : Calls Try.prog 13 #[.agg #[.int .i64 0, .int .u64 p, .int .u64 i, .bool e, .int .i64 r]] w fun x w' => x = .returned (.string ⟨#[]⟩) ∧ Below w.heap.size w w' := by
  have hu24 := Try.underlying24
  have HM := Aside0.mk (fun w => (refmay_calls 0 p i r e w))
  rw [hm] at HM
  clear hm
  go_enter Try.func13, Try.ntmps13
  go_wp2_with fail
  refine (HM.out _).mono ?_
  rintro x w1 ⟨rfl, hb1⟩
  have B1 := (hb1.block w.heap.size (by simp)).trans (heap_alloc_new w _)
  have W1 : Aside0 (Below w.heap.size w w1) := ⟨((Below.refl w.heap.size w).alloc (Nat.le_refl _) _).trans (hb1.mono (by simp))⟩
  clear hb1
  obtain ⟨c0, c1, c2, c3, c4⟩ := box_cells B1
  clear B1
  go_wp2_with fail
  go_ret
  exact ⟨rfl, W1.out⟩

/-- Numbers of eight bytes from nought on. -/
def u64b (n : Int) : Bool := decide (0 ≤ n) && decide (n < 18446744073709551616)
theorem may_ver {v p i r : Int} {e : Bool} (hv : ¬ v = 0) (hm : mayB v p i e r = true) : (v = 2 ∨ v = 3) ∧ 0 ≤ r ∧ r ≤ 2147483647 := by
  unfold mayB at hm
  rw [if_neg hv] at hm
  split at hm
  · rename_i h; simp at hm; omega
  split at hm
  · rename_i h; simp at hm; omega
  · cases hm
theorem put_calls (v p i r : Int) (e : Bool) (hp : u64b p = true) (hi : u64b i = true) (w : World) :
    Calls Try.prog 12 #[.agg #[.int .i64 v, .int .u64 p, .int .u64 i, .bool e, .int .i64 r]] w fun x w' => x = .returned (.string (putB v p i e r)) ∧ Below w.heap.size w w' := by
  simp [u64b] at hp hi
  by_cases hv : v = 0
  · subst hv; rw [putB_none (.inl rfl)]; exact put_zero p i r e w
  · cases hm : mayB v p i e r with
    | false => rw [putB_none (.inr hm)]; exact put_not v p i r e hv hm w
    | true =>
      obtain ⟨h, hr0, hr1⟩ := may_ver hv hm
      rcases h with rfl | rfl
      · cases e
        · exact put_2_false p i r hm hp.1 hp.2 hi.1 hi.2 hr0 hr1 w
        · exact put_2_true p i r hm hp.1 hp.2 hi.1 hi.2 hr0 hr1 w
      · cases e
        · exact put_3_false p i r hm hp.1 hp.2 hi.1 hi.2 hr0 hr1 w
        · exact put_3_true p i r hm hp.1 hp.2 hi.1 hi.2 hr0 hr1 w
theorem refput_calls (v p i r : Int) (e : Bool) (hp : u64b p = true) (hi : u64b i = true) (w : World) :
    Calls Try.prog 13 #[.agg #[.int .i64 v, .int .u64 p, .int .u64 i, .bool e, .int .i64 r]] w fun x w' => x = .returned (.string (putB v p i e r)) ∧ Below w.heap.size w w' := by
  simp [u64b] at hp hi
  cases hm : mayB v p i e r with
  | false => rw [putB_none (.inr hm)]; exact refput_not v p i r e hm w
  | true =>
    by_cases hv : v = 0
    · subst hv; rw [putB_none (.inl rfl)]; exact refput_zero p i r e hm w
    · obtain ⟨h, hr0, hr1⟩ := may_ver hv hm
      rcases h with rfl | rfl
      · cases e
        · exact refput_2_false p i r hm hp.1 hp.2 hi.1 hi.2 hr0 hr1 w
        · exact refput_2_true p i r hm hp.1 hp.2 hi.1 hi.2 hr0 hr1 w
      · cases e
        · exact refput_3_false p i r hm hp.1 hp.2 hi.1 hi.2 hr0 hr1 w
        · exact refput_3_true p i r hm hp.1 hp.2 hi.1 hi.2 hr0 hr1 w

/-! ### As the callers' walks want them -/
def capsPut.f (a0_0 a0_1 a0_2 : Int) (a0_3 : Bool) (a0_4 : Int) : Option ByteArray := if (u64b a0_1 && u64b a0_2) = true then some (putB a0_0 a0_1 a0_2 a0_3 a0_4) else none
theorem capsPut.calls (a0_0 a0_1 a0_2 : Int) (a0_3 : Bool) (a0_4 : Int) (r : ByteArray) (w : World) (h : capsPut.f a0_0 a0_1 a0_2 a0_3 a0_4 = some r) :
    Calls Try.prog 12 #[.agg #[.int .i64 a0_0, .int .u64 a0_1, .int .u64 a0_2, .bool a0_3, .int .i64 a0_4]] w fun e w' => e = .returned (.string r) ∧ Below w.heap.size w w' := by
  unfold capsPut.f at h
  split at h
  · rename_i hb
    simp only [Bool.and_eq_true] at hb
    obtain rfl := Option.some.inj h
    exact put_calls _ _ _ _ _ hb.1 hb.2 w
  · cases h
def refPut.f (a0_0 a0_1 a0_2 : Int) (a0_3 : Bool) (a0_4 : Int) : Option ByteArray := capsPut.f a0_0 a0_1 a0_2 a0_3 a0_4
theorem refPut.calls (a0_0 a0_1 a0_2 : Int) (a0_3 : Bool) (a0_4 : Int) (r : ByteArray) (w : World) (h : refPut.f a0_0 a0_1 a0_2 a0_3 a0_4 = some r) :
    Calls Try.prog 13 #[.agg #[.int .i64 a0_0, .int .u64 a0_1, .int .u64 a0_2, .bool a0_3, .int .i64 a0_4]] w fun e w' => e = .returned (.string r) ∧ Below w.heap.size w w' := by
  unfold refPut.f capsPut.f at h
  split at h
  · rename_i hb
    simp only [Bool.and_eq_true] at hb
    obtain rfl := Option.some.inj h
    exact refput_calls _ _ _ _ _ hb.1 hb.2 w
  · cases h
end Go.Proofs.Ytaaeidlekmeaiaa
