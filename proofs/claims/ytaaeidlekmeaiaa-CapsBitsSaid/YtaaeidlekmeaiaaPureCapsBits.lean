/- CapsBits: each bit of what is permitted, and inheritable, stands in its place. No conditions. -/
import Derived.Test.YtaaeidlekmeaiaaGCx5
import Derived.OpenShut
namespace Go.Proofs.Ytaaeidlekmeaiaa.Pure
set_option linter.unusedVariables false
set_option linter.unusedSimpArgs false
open Go.RowKit Go.Proofs.Ytaaeidlekmeaiaa.GC Go.Proofs.YtaaeidlekmeaiaaW.PrintWords Go.Proofs.YtaaeidlekmeaiaaW.PrintLast

theorem all : ∀ n : Fin 64, ∀ b : Bool, gripsacklaw11_CapsBits.f 40 ((n.val : Nat) : Int) b = some true := by decide +kernel
theorem CapsBits : gripsacklaw11_CapsBits.Pure := by
  intro a b h
  obtain ⟨h0, h1⟩ := bounds_u8 h
  have h2 := all ⟨(a % 64).toNat, by omega⟩ b
  refine ⟨40, ?_⟩
  simp only at h2
  rw [show (((a % 64).toNat : Nat) : Int) = a % 64 from by omega] at h2
  have e : ∀ x : Int, 0 ≤ x → x ≤ 255 → Int.tmod (wrap64 x) 64 = x % 64 := fun x x0 x1 => by
    rw [show wrap64 x = x from by unfold wrap64; omega, Int.tmod_eq_emod_of_nonneg x0]
  unfold gripsacklaw11_CapsBits.f at h2 ⊢
  rw [e _ (by omega) (by omega), show a % 64 % 64 = a % 64 from by omega] at h2
  rw [e a h0 h1]
  exact h2
end Go.Proofs.Ytaaeidlekmeaiaa.Pure
