/- An argument that is caps, opened: its five cells. -/
import Derived.Test.YtaaeidlekmeaiaaProg
import Derived.ProofKit
import Derived.OpenShut
namespace Go.Proofs.Ytaaeidlekmeaiaa
set_option linter.unusedVariables false
set_option linter.unusedSimpArgs false
open Go.ChangeShapes Go.WideShapes Go.ChangeAt Go.RowKit

theorem five {α : Type} (l : List α) (h : l.length = 5) : ∃ a b c d e, l = [a, b, c, d, e] := by
  rcases l with _ | ⟨a, _ | ⟨b, _ | ⟨c, _ | ⟨d, _ | ⟨e, _ | ⟨f, l⟩⟩⟩⟩⟩⟩
  · simp at h
  · simp at h
  · simp at h
  · simp at h
  · simp at h
  · exact ⟨_, _, _, _, _, rfl⟩
  · simp at h
theorem caps_cells : Try.prog.cellsOf 24 = 5 := by kernel_rfl
theorem int_cells : Try.prog.cellsOf 3 = 1 := by kernel_rfl
theorem u64_cells : Try.prog.cellsOf 22 = 1 := by kernel_rfl
theorem bool_cells : Try.prog.cellsOf 4 = 1 := by kernel_rfl
theorem open_caps {H : Type} {enc : TypeId × Value → H} {W : World} {base b0 : Nat} {spare : Nat → Bool} {held : Bool} {v : Value} {d : DataW H} {p : List MemPlace} (hv : Value.okWide Try.prog W .any base 24 v) (h : DataW.Trod enc Try.prog W b0 spare held 24 v d p) :
    ∃ (a b c r : Int) (e : Bool), v = .agg #[.int .i64 a, .int .u64 b, .int .u64 c, .bool e, .int .i64 r] ∧ (Lit.int .i64 a).wf = true ∧ (Lit.int .u64 b).wf = true ∧ (Lit.int .u64 c).wf = true ∧ (Lit.int .i64 r).wf = true := by
  obtain ⟨⟨l⟩, rfl, hsz⟩ := okWide_struct Try.underlying24 hv
  obtain ⟨c0, c1, c2, c3, c4, rfl⟩ := five l (by rw [caps_cells] at hsz; simpa using hsz)
  obtain ⟨fuel, hf⟩ := h
  obtain ⟨xs, n, _, hx, hl, hlen, hg⟩ := DataW.trod_struct Try.underlying24 hf
  obtain ⟨y0, y1, y2, y3, y4, rfl⟩ := five xs hlen
  have g0 : DataW.trod enc Try.prog W b0 spare held n 3 (([c0, c1, c2, c3, c4].drop 0).take (Try.prog.cellsOf 3)) = some y0 := hg 0 _ rfl
  rw [int_cells] at g0
  change DataW.trod enc Try.prog W b0 spare held n 3 [c0] = some y0 at g0
  have g1 : DataW.trod enc Try.prog W b0 spare held n 22 (([c0, c1, c2, c3, c4].drop 1).take (Try.prog.cellsOf 22)) = some y1 := hg 1 _ rfl
  rw [u64_cells] at g1
  change DataW.trod enc Try.prog W b0 spare held n 22 [c1] = some y1 at g1
  have g2 : DataW.trod enc Try.prog W b0 spare held n 22 (([c0, c1, c2, c3, c4].drop 2).take (Try.prog.cellsOf 22)) = some y2 := hg 2 _ rfl
  rw [u64_cells] at g2
  change DataW.trod enc Try.prog W b0 spare held n 22 [c2] = some y2 at g2
  have g3 : DataW.trod enc Try.prog W b0 spare held n 4 (([c0, c1, c2, c3, c4].drop 3).take (Try.prog.cellsOf 4)) = some y3 := hg 3 _ rfl
  rw [bool_cells] at g3
  change DataW.trod enc Try.prog W b0 spare held n 4 [c3] = some y3 at g3
  have g4 : DataW.trod enc Try.prog W b0 spare held n 3 (([c0, c1, c2, c3, c4].drop 4).take (Try.prog.cellsOf 3)) = some y4 := hg 4 _ rfl
  rw [int_cells] at g4
  change DataW.trod enc Try.prog W b0 spare held n 3 [c4] = some y4 at g4
  obtain ⟨a, ha, _, wa⟩ := DataW.trod_int Try.underlying3 g0
  obtain ⟨b, hb, _, wb⟩ := DataW.trod_int Try.underlying22 g1
  obtain ⟨c, hc, _, wc⟩ := DataW.trod_int Try.underlying22 g2
  obtain ⟨e, he, _⟩ := DataW.trod_bool Try.underlying4 g3
  obtain ⟨r, hr, _, wr⟩ := DataW.trod_int Try.underlying3 g4
  obtain rfl := List.head_eq_of_cons_eq ha
  obtain rfl := List.head_eq_of_cons_eq hb
  obtain rfl := List.head_eq_of_cons_eq hc
  obtain rfl := List.head_eq_of_cons_eq he
  obtain rfl := List.head_eq_of_cons_eq hr
  exact ⟨a, b, c, r, e, rfl, wa, wb, wc, wr⟩
end Go.Proofs.Ytaaeidlekmeaiaa
