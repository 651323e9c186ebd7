/- CapsAll: whether any caps may be, their bytes, and what any bytes say, is what the reference says. No conditions. -/
import Derived.Test.YtaaeidlekmeaiaaRows
import Derived.Test.YtaaeidlekmeaiaaGCx3
import Derived.Test.YtaaeidlekmeaiaaLaws
import Derived.Test.YtaaeidlekmeaiaaOpen
import Derived.WalkKit
import Derived.ProofKit
import Derived.OpenShut
import Derived.ShutString
import Derived.ChangeOld
import Derived.Below
import Derived.SizedLaws
namespace Go.Proofs.Ytaaeidlekmeaiaa.capsAll
open Go.ChangeShapes Go.WideShapes Go.ChangeAt Go.RowKit Go.Proofs.Ytaaeidlekmeaiaa.GC
open Go.ChangeMaps (open_string shut_string)
set_option linter.unusedVariables false
set_option linter.unusedSimpArgs false
theorem own : ownKnob Try.prog.godebug = none := by kernel_rfl
theorem laidOut : laidOutB Try.prog = true := by kernel_rfl
theorem plain (a b c : Int) (e : Bool) (r : Int) (s : ByteArray) (hs : s.size ≤ 140737488351232) (hb : u64b b = true) (hc : u64b c = true) : gripsacklaw11_CapsAll.f a b c e r s = some true := by
  unfold gripsacklaw11_CapsAll.f
  by_cases h : (s.size : Int) > 60
  · rw [if_pos h, awake_true]; rfl
  · rw [if_neg h]
    have hg : capsGet.f s = some (getS s) := by unfold capsGet.f; rw [if_pos hs]
    have hp : capsPut.f a b c e r = some (putB a b c e r) := by unfold capsPut.f; rw [hb, hc]; rfl
    rw [hg, ref_get s (by omega), (may_is a b c r e).1, (may_is a b c r e).2]
    unfold refPut.f
    rw [hp, awake_true]
    simp
set_option maxRecDepth 100000 in
theorem lifted (os : Os) (started : os.Started) (H : Type) (enc : TypeId × Value → H) :
    ReturnsInHanded {} Try.checked os 3 .any (Rows.capsAllSpec.pre6 enc Try.prog Try.f3 Rows.capsAllRow.domain false) (Rows.capsAllSpec.post enc Try.prog Try.f3 false true false false) := by
  refine returnsInHanded_of_change_sized (C := Try.checked) own started (by kernel_rfl) Try.func3
    (ChangeSpec.witness6 (enc := enc) (C := Try.checked) false ⟨#[], #[.agg #[.int .i64 0, .int .u64 0, .int .u64 0, .bool false, .int .i64 0], .string ByteArray.empty], []⟩ 8 (by kernel_rfl) (by kernel_rfl) (by kernel_rfl) (by kernel_rfl)) ?_
  intro W base args ds gs before hval0 hW hcnd hsz0 _
  have hsz : (DataW.weightsEach Try.prog (Try.f3.params.toList ++ Rows.capsAllSpec.plain.varTypes Try.prog) (ds ++ gs)).all (· ≤ reachBytes) = true := hsz0
  have hval : ∀ (j : Nat) t v, Try.f3.params[j]? = some t → args[j]? = some v → Value.okWide Try.prog W .any base t v := hval0
  have hW' := hW
  obtain ⟨p, q, hA0, hV, rfl, hfz, hnd⟩ := hW
  have hA : DataW.TrodAll enc Try.prog W 0 (fun _ => true) true Try.f3.params.toList args.toList ds p := hA0
  rw [Try.params3] at hA hval hsz
  obtain ⟨v0, vs0, d0, ds0, p0, q0, hargs, rfl, rfl, h0, r0⟩ := trodAll_cons hA
  obtain ⟨v1, vs1, d1, ds1, p1, q1, rfl, rfl, rfl, h1, r1⟩ := trodAll_cons r0
  obtain ⟨rfl, rfl, rfl⟩ := trodAll_nil r1
  obtain rfl : args = #[v0, v1] := by cases args; simp_all
  obtain ⟨rfl, rfl⟩ := trodVars_none hV
  obtain ⟨a1, rfl, rfl, rfl, y1⟩ := open_string Try.underlying9 (hval 1 9 v1 rfl rfl) h1
  have w1 : a1.size ≤ 140737488351232 := by
    have z := sized_string hsz (j := 1) (t := 9) rfl rfl
    rw [Array.length_toList] at z
    exact z
  have k0 := h0
  have lt0 : ∀ x ∈ p0, x.block < W.heap.size := by obtain ⟨m, hm⟩ := k0; exact DataW.trod_lt m _ _ _ hm
  obtain ⟨a, b, c, r, e, rfl, wa, wb, wc, wr⟩ := open_caps (hval 0 24 v0 rfl rfl) h0
  have hb : u64b b = true := by have := bounds_u64 wb; unfold u64b; simp; omega
  have hc : u64b c = true := by have := bounds_u64 wc; unfold u64b; simp; omega
  clear hA0 hval0 hsz0 hsz
  refine (gripsacklaw11_CapsAll.calls a b c e r a1 true W (plain a b c e r a1 w1 hb hc)).mono fun e W' ⟨he, bel⟩ => ?_
  subst he
  exact ⟨_, rfl, _, _, _, [], _, [], hW', trodAll_mk1 (shut_bool Try.underlying4 _), (trodAll_cons_mk (Below.trod laidOut (by kernel_rfl) (of_decide_eq_true (by kernel_rfl)) k0 bel lt0) (trodAll_cons_mk (shut_string Try.underlying9 y1) trodAll_mk0)), rfl, bel.frame _, fun h => by cases h⟩
theorem over : Rows.capsAllRow.holds Try.pinned (OpenSpec.ofChange Rows.capsAllSpec) :=
  OpenClaim.holds_of_wide 3 Try.f3 rfl rfl rfl rfl rfl rfl rfl ⟨rfl, rfl, rfl, rfl, rfl⟩ rfl rfl rfl rfl rfl (by kernel_rfl) Try.func3 (by kernel_rfl)
    (of_decide_eq_true (by kernel_rfl)) (by unfold Func.isWrapper; first | (rw [if_pos (by decide +kernel)]; kernel_rfl) | (rw [if_neg (by decide +kernel)]; exact ⟨rfl, rfl⟩))
    (fun os started H enc _ => lifted os started H enc)
end Go.Proofs.Ytaaeidlekmeaiaa.capsAll
namespace Go.Proofs.Ytaaeidlekmeaiaa
/-- The row, under a short name, for the claim. -/
theorem capsAll_holds : Rows.CapsAllSaid := capsAll.over
end Go.Proofs.Ytaaeidlekmeaiaa
