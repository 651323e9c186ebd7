/- TextKnown: bytes that all know to be text are, and others are none, and the place is told. No conditions. -/
import Derived.Test.YtljodbbmcgpcnaaGTextKnownx1
import Derived.OpenShut
namespace Go.Proofs.Ytljodbbmcgpcnaa.Pure
set_option linter.unusedVariables false
open Go.RowKit Go.Proofs.Ytljodbbmcgpcnaa.GTextKnown Go.Proofs.YtljodbbmcgpcnaaW.PrintWords Go.Proofs.YtljodbbmcgpcnaaW.PrintLast

theorem all : ∀ n : Fin 256, gripsacklaw5_TextKnown.f ((n.val : Nat) : Int) = some true := by decide +kernel
theorem TextKnown : gripsacklaw5_TextKnown.Pure := by
  intro a h
  have h1 : 0 ≤ a ∧ a ≤ 255 := bounds_u8 h
  have h2 := all ⟨a.toNat, by omega⟩
  simp only at h2
  rwa [show ((a.toNat : Nat) : Int) = a from by omega] at h2
end Go.Proofs.Ytljodbbmcgpcnaa.Pure
