/- escape.value walked: a digit's value, or noDigit's panic. -/
import Derived.Test.YtkojlnjhndnfkaaPut
namespace Go.Proofs.Ytkojlnjhndnfkaa
set_option linter.unusedVariables false
set_option linter.unusedSimpArgs false
open Go.RowKit Go.Proofs.YtkojlnjhndnfkaaW.PrintWords

theorem value_far (s : ByteArray) (i : Int) (h : (s.size : Int) ≤ i) (w : World) :
    Calls Try.prog 12 #[.string s, .int .i64 i] w fun e w' => e = .panicked [{ v := .iface 33 (.agg #[.int .i64 i]), recovered := false }] ∧ w = w' := by
  have k0 : decide (i ≥ (s.size : Int)) = true := decide_eq_true h
  go_enter Try.func12, Try.ntmps12
  go_wp2
  exact ⟨rfl, rfl, rfl⟩
theorem ix_all : ∀ c : Fin 256, Lib.indexByte [48, 49, 50, 51, 52, 53, 54, 55, 56, 57, 65, 66, 67, 68, 69, 70] ((c.val : Nat) : Int).toNat.toUInt8 = (dv ((c.val : Nat) : Int)).getD (-1) := by decide +kernel
theorem ix_dv (c : Int) (h0 : 0 ≤ c) (h1 : c < 256) : Lib.indexByte [48, 49, 50, 51, 52, 53, 54, 55, 56, 57, 65, 66, 67, 68, 69, 70] c.toNat.toUInt8 = (dv c).getD (-1) := by
  have := ix_all ⟨c.toNat, by omega⟩
  simp only at this
  rw [show ((c.toNat : Nat) : Int) = c from by omega] at this
  exact this
theorem dv_range (c x : Int) (h : dv c = some x) : 0 ≤ x ∧ x < 16 := by
  unfold dv at h
  split at h
  · obtain rfl := Option.some.inj h; omega
  · split at h
    · obtain rfl := Option.some.inj h; omega
    · cases h
theorem index_calls (c : Int) (h0 : 0 ≤ c) (h1 : c < 256) (w : World) : Calls Try.prog 18 #[.string ⟨#[48, 49, 50, 51, 52, 53, 54, 55, 56, 57, 65, 66, 67, 68, 69, 70]⟩, .int .u8 c] w fun e w' => e = .returned (.int .i64 ((dv c).getD (-1))) ∧ w' = w := by
  rw [← ix_dv c h0 h1]
  exact strings_IndexByte _ c w
theorem value_bad (s : ByteArray) (i : Int) (h0 : 0 ≤ i) (h1 : i < s.size) (hd : dv (bt s i) = none) (w : World) :
    Calls Try.prog 12 #[.string s, .int .i64 i] w fun e w' => e = .panicked [{ v := .iface 33 (.agg #[.int .i64 i]), recovered := false }] ∧ w = w' := by
  have k0 : decide (i ≥ (s.size : Int)) = false := decide_eq_false (by omega)
  have q0 : (0 ≤ i) = True := eq_true h0
  have q1 : (i < (s.size : Int)) = True := eq_true h1
  have hx := bt_at s i
  have hr := bt_range s i
  have HI := Aside0.mk (index_calls (bt s i) hr.1 (by omega))
  rw [hd] at HI
  clear hr hd
  generalize bt s i = c at *
  go_enter Try.func12, Try.ntmps12
  go_wp2_with fail
  refine (HI.out _).mono ?_
  rintro e w' ⟨rfl, rfl⟩
  go_wp2
  exact ⟨rfl, rfl, rfl⟩
theorem value_some (s : ByteArray) (i x : Int) (h0 : 0 ≤ i) (h1 : i < s.size) (hd : dv (bt s i) = some x) (w : World) :
    Calls Try.prog 12 #[.string s, .int .i64 i] w fun e w' => e = .returned (.int .u8 x) ∧ w = w' := by
  have k0 : decide (i ≥ (s.size : Int)) = false := decide_eq_false (by omega)
  have q0 : (0 ≤ i) = True := eq_true h0
  have q1 : (i < (s.size : Int)) = True := eq_true h1
  have hx := bt_at s i
  have hr := bt_range s i
  have HI := Aside0.mk (index_calls (bt s i) hr.1 (by omega))
  obtain ⟨x0, x1⟩ := dv_range _ _ hd
  rw [hd] at HI
  have k1 : decide (x < 0) = false := decide_eq_false (by omega)
  have k2 : IntKind.u8.wrap x = x := by simp only [IntKind.wrap, IntKind.bits, IntKind.signed]; simp; omega
  have k3 : x % 256 = x := by omega
  clear hr hd x0 x1
  generalize bt s i = c at *
  go_enter Try.func12, Try.ntmps12
  go_wp2_with fail
  refine (HI.out _).mono ?_
  rintro e w' ⟨rfl, rfl⟩
  go_wp2
  go_ret
  exact ⟨by simp [k3], rfl⟩
end Go.Proofs.Ytkojlnjhndnfkaa
