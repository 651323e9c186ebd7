/- SixtyJoins: letters of whole threes and of what follows are the letters of both. No conditions. -/
import Derived.Test.YtnakkfdopfhkcaaGCx2
import Derived.Test.YtnakkfdopfhkcaaLaws
import Derived.OpenShut
namespace Go.Proofs.Ytnakkfdopfhkcaa.Pure
set_option linter.unusedVariables false
set_option linter.unusedSimpArgs false
open Go.RowKit Go.Proofs.Ytnakkfdopfhkcaa.GC Go.Proofs.YtnakkfdopfhkcaaW.PrintWords Go.Proofs.YtnakkfdopfhkcaaW.PrintLast

theorem awake_true : gripsacklaw3_awake.f = some true := by decide +kernel
theorem SixtyJoins : gripsacklaw3_SixtyJoins.Pure := by
  intro s t _ _
  refine ⟨1, ?_⟩
  unfold gripsacklaw3_SixtyJoins.f
  by_cases h1 : (s.size : Int) > 200
  · rw [if_pos h1, gripsacklaw3_SixtyJoins.j0, if_pos rfl, awake_true]; rfl
  · rw [if_neg h1]
    by_cases h2 : (t.size : Int) > 200
    · rw [decide_eq_true h2, gripsacklaw3_SixtyJoins.j0, if_pos rfl, awake_true]; rfl
    · have hw : wrap64 (wrap64 ((s.size : Int) / 3) * 3) = ((s.size / 3 * 3 : Nat) : Int) := by unfold wrap64; omega
      have hx : (s.extract 0 (s.size / 3 * 3)).size = 3 * (s.size / 3) := by rw [ByteArray.size_extract]; omega
      have hj : sixB (s.extract 0 (s.size / 3 * 3) ++ t) = sixB (s.extract 0 (s.size / 3 * 3)) ++ sixB t := by
        unfold sixB
        rw [bytesOf_append, sixL_append (s.size / 3) _ _ (by rw [bytesOf_length, hx]), strOfNums_append]
      rw [decide_eq_false h2, gripsacklaw3_SixtyJoins.j0, if_neg (by decide), hw, if_pos (by omega), if_pos (by omega), Int.toNat_natCast, if_pos (by omega)]
      rw [sixPut_is (by rw [ByteArray.size_append]; omega), sixPut_is (by omega), sixPut_is (by omega)]
      simp only [Option.bind_some]
      rw [if_pos (by rw [sixB_size, sixB_size]; omega), hj, if_pos rfl, awake_true]
      rfl
end Go.Proofs.Ytnakkfdopfhkcaa.Pure
