-- By the session's own program (wip/gprint.py over the kit's print); Lean checks it.
import Derived.Test.YtkojlnjhndnfkaaGBx0
namespace Go.Proofs.Ytkojlnjhndnfkaa.GB
open Go.RowKit Go.Proofs.YtkojlnjhndnfkaaW.PrintWords Go.Proofs.YtkojlnjhndnfkaaW.PrintLast Go.Proofs.YtkojlnjhndnfkaaW.PrintMore
attribute [local go_sem] max2_int min2_int max_two min_two max_three min_three max_four min_four   -- for this text's walks alone
set_option linter.unusedVariables false
set_option linter.unusedSimpArgs false

/-! ### escape_plain: function 14 -/
def escape_plain.f (a0 : Int) : Option (Bool) := if a0 ≥ 33 then (if a0 ≤ 126 then (if a0 = 37 then (some false) else (some (a0 != 61))) else (some false)) else (some false)
set_option maxHeartbeats 8000000 in
set_option maxRecDepth 100000 in
theorem escape_plain.calls (a0 : Int) (r : Bool) (w : World) (h : escape_plain.f a0 = some r) :
    Calls Try.prog 14 #[.int .u8 a0] w fun e w' => e = .returned (.bool r) ∧ Drawn0 w w' := by
  have H : (if a0 ≥ 33 then (if a0 ≤ 126 then (if a0 = 37 then (some false) else (some (a0 != 61))) else (some false)) else (some false)) = some r := h
  clear h
  by_cases c2 : a0 ≥ 33
  · rw [if_pos c2] at H
    have c2b0 : decide (33 ≤ a0) = true := decide_eq_true c2
    clear c2
    by_cases c3 : a0 ≤ 126
    · rw [if_pos c3] at H
      have c3b0 : decide (a0 ≤ 126) = true := decide_eq_true c3
      clear c3
      by_cases c4 : a0 = 37
      · rw [if_pos c4] at H
        have c4b0 : (a0 == 37) = true := beq_iff_eq.mpr c4
        have c4b1 : (a0 != 37) = false := bne_eq_false_iff_eq.mpr c4
        clear c4
        obtain rfl := Option.some.inj H
        go_enter Try.func14, Try.ntmps14
        go_wp2
        go_ret
        exact ⟨by first | rfl | (simp; done) | (simp [*]; done), by repeat (first | exact Drawn0.refl _ | apply Drawn0.step)⟩
      · rw [if_neg c4] at H
        have c4b0 : (a0 == 37) = false := beq_eq_false_iff_ne.mpr c4
        have c4b1 : (a0 != 37) = true := bne_iff_ne.mpr c4
        obtain rfl := Option.some.inj H
        go_enter Try.func14, Try.ntmps14
        go_wp2
        go_ret
        exact ⟨by first | rfl | (simp; done) | (simp [*]; done), by repeat (first | exact Drawn0.refl _ | apply Drawn0.step)⟩
    · rw [if_neg c3] at H
      have c3b0 : decide (a0 ≤ 126) = false := decide_eq_false c3
      clear c3
      obtain rfl := Option.some.inj H
      go_enter Try.func14, Try.ntmps14
      go_wp2
      go_ret
      exact ⟨by first | rfl | (simp; done) | (simp [*]; done), by repeat (first | exact Drawn0.refl _ | apply Drawn0.step)⟩
  · rw [if_neg c2] at H
    have c2b0 : decide (33 ≤ a0) = false := decide_eq_false c2
    clear c2
    obtain rfl := Option.some.inj H
    go_enter Try.func14, Try.ntmps14
    go_wp2
    go_ret
    exact ⟨by first | rfl | (simp; done) | (simp [*]; done), by repeat (first | exact Drawn0.refl _ | apply Drawn0.step)⟩

/-- THE ONE PURE STATEMENT of escape_plain: yours. -/
def escape_plain.Pure : Prop := ∀ (a0 : Int), (Lit.int .u8 a0).wf = true → escape_plain.f a0 = some true
theorem escape_plain.walk (P : escape_plain.Pure) (a0 : Int) (w : World) (w0 : (Lit.int .u8 a0).wf = true) :
    Calls Try.prog 14 #[.int .u8 a0] w fun e w' => e = .returned (.bool true) ∧ Below w.heap.size w w' := by
  have h := P a0 w0
  refine (escape_plain.calls a0 true w h).mono ?_
  rintro e w' ⟨rfl, hd⟩
  exact ⟨rfl, hd.below⟩

end Go.Proofs.Ytkojlnjhndnfkaa.GB
