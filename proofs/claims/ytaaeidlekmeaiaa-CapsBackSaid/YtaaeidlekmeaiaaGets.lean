/- caps.Get at whatever bytes, as its callers' walks want it. -/
import Derived.Test.YtaaeidlekmeaiaaGet
namespace Go.Proofs.Ytaaeidlekmeaiaa
set_option linter.unusedVariables false
set_option linter.unusedSimpArgs false
open Go.RowKit Go.Proofs.YtaaeidlekmeaiaaW.PrintWords
def capsGet.f (s : ByteArray) : Option (Int × Int × Int × Bool × Int × Bool) := if s.size ≤ 140737488351232 then some (getS s) else none
theorem capsGet.calls (a0 : ByteArray) (r1 r2 r3 : Int) (r4 : Bool) (r5 : Int) (r6 : Bool) (w : World) (h : capsGet.f a0 = some (r1, r2, r3, r4, r5, r6)) :
    Calls Try.prog 8 #[.string a0] w fun e w' => e = .returned (.tuple #[.agg #[.int .i64 r1, .int .u64 r2, .int .u64 r3, .bool r4, .int .i64 r5], .bool r6]) ∧ Below w.heap.size w w' := by
  unfold capsGet.f at h
  split at h
  · rename_i hs
    have h := Option.some.inj h
    by_cases h0 : a0.size = 0
    · have e0 : a0 = ⟨#[]⟩ := ByteArray.ext (Array.eq_empty_of_size_eq_zero h0)
      subst e0
      have hg : getS ⟨#[]⟩ = (0, 0, 0, false, 0, true) := by unfold getS; rw [if_pos h0]
      refine (get_empty w).mono fun e w' ⟨he, hw⟩ => ⟨?_, hw⟩
      rw [hg] at h
      rw [he, h]
    · refine (get_some a0 h0 hs w).mono fun e w' ⟨he, hw⟩ => ⟨?_, hw⟩
      rw [he, h]
  · cases h
end Go.Proofs.Ytaaeidlekmeaiaa
