/- EscapeBytes: each byte is itself, or three signs; names of one byte are told again. No conditions. -/
import Derived.Test.YtkojlnjhndnfkaaGCx4
import Derived.Test.YtkojlnjhndnfkaaLaws
import Derived.OpenShut
namespace Go.Proofs.Ytkojlnjhndnfkaa.Pure
set_option linter.unusedVariables false
set_option linter.unusedSimpArgs false
open Go.RowKit Go.Proofs.Ytkojlnjhndnfkaa.GC Go.Proofs.YtkojlnjhndnfkaaW.PrintWords Go.Proofs.YtkojlnjhndnfkaaW.PrintLast

theorem all : ∀ n : Fin 256, gripsacklaw4_EscapeBytes.f 6 ((n.val : Nat) : Int) = some true := by decide +kernel
theorem EscapeBytes : gripsacklaw4_EscapeBytes.Pure := by
  intro a h
  obtain ⟨h0, h1⟩ := bounds_u8 h
  have h2 := all ⟨a.toNat, by omega⟩
  refine ⟨6, ?_⟩
  simp only at h2
  rw [show ((a.toNat : Nat) : Int) = a from by omega] at h2
  exact h2
end Go.Proofs.Ytkojlnjhndnfkaa.Pure
