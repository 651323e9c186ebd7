/- Get's deferred closure and the ways out of Get. -/
import Derived.Test.YtnakkfdopfhkcaaGet4
import Derived.Defers
import Derived.Recover
namespace Go.Proofs.Ytnakkfdopfhkcaa
set_option linter.unusedVariables false
set_option linter.unusedSimpArgs false
open Go.RowKit Go.Proofs.YtnakkfdopfhkcaaW.PrintWords

/-- The deferred closure, its frame having panicked: an empty text, and false. -/
theorem catch_bad (g : Nat) (n : Int) (a o : Value) (older : List PanicEntry) (w : World) (hb : w.heap[g]? = some (.cells #[a] 9 (0, 0))) (hq : w.heap[g + 1]? = some (.cells #[o] 4 (0, 0))) :
    CallsD Try.prog 12 #[.pointer (some ⟨g, 0, none⟩), .pointer (some ⟨g + 1, 0, none⟩)] (.panicking ({ v := .iface 38 (.agg #[.int .i64 n]), recovered := false } :: older)) w fun e u' w' =>
      e = .returned (.tuple #[]) ∧ u' = .panicking ({ v := .iface 38 (.agg #[.int .i64 n]), recovered := true } :: older) ∧
      w' = ((w.alloc (.cells #[.int .i64 n] 38)).setCell ⟨g, 0, none⟩ (.string ⟨#[]⟩)).setCell ⟨g + 1, 0, none⟩ (.bool false) := by
  have hta : ∀ (v : Value) (W : World), (Instr.typeAssert (.iface 38 v) 20 38 true).run Try.prog W = .ok (.tuple #[v, .bool true]) W := fun v W => by rfl
  refine callsD_of_wpS Try.func12 rfl fun c₀ cs hu => ?_
  apply wpS_seq
  apply wpS_region
  simp [wpOpsS, go_sem, recoverD, hu, Try.ntmps12, Exit.thenS, Array.replicate, List.replicate]
  refine wpS_of_wp (Code.wp_mono (Q := fun e a' w' => e = .normal ∧ a'.defers = [] ∧ w' = ((w.alloc (.cells #[.int .i64 n] 38)).setCell ⟨g, 0, none⟩ (.string ⟨#[]⟩)).setCell ⟨g + 1, 0, none⟩ (.bool false)) ?_ ?_)
  · rintro e a' w' ⟨rfl, hd, rfl⟩
    simp [bodyPostS, results, Try.results12, hd]
  clear hu
  have hA := (Below.refl w.heap.size w).alloc (Nat.le_refl _) (.cells #[.int .i64 n] 38)
  have hb' := (hA.block g (blk_lt hb)).trans hb
  have hq' := (hA.block (g + 1) (blk_lt hq)).trans hq
  have c0 : (w.alloc (.cells #[.int .i64 n] 38)).cell? ⟨g, 0, none⟩ = some a := (blk_cell hb' 0).trans rfl
  have z0 := blk_frozen hb' 0
  have q0 : (w.alloc (.cells #[.int .i64 n] 38)).cell? ⟨g + 1, 0, none⟩ = some o := (blk_cell hq' 0).trans rfl
  have y0 := blk_frozen hq' 0
  clear hA hb' hq' hb hq
  go_wp2

/-- The deferred closure, its frame returning: it finds nothing. -/
theorem catch_idle (p q : Addr) (w : World) :
    CallsD Try.prog 12 #[.pointer (some p), .pointer (some q)] .returning w fun e u' w' => e = .returned (.tuple #[]) ∧ u' = .returning ∧ w' = w := by
  refine callsD_of_wpS Try.func12 rfl fun c₀ cs hu => ?_
  apply wpS_seq
  apply wpS_region
  simp [wpOpsS, go_sem, recoverD, hu, Try.ntmps12, Exit.thenS, Array.replicate, List.replicate]
  refine wpS_of_wp (Code.wp_mono (Q := fun e a' w' => e = .normal ∧ a'.defers = [] ∧ w' = w) ?_ ?_)
  · rintro e a' w' ⟨rfl, hd, rfl⟩
    cases c₀
    simp_all [bodyPostS, results, Try.results12]
  clear hu
  go_wp2

/-- How Get ends: a text, and whether there is one. -/
def GetEnd (r : ByteArray × Bool) (w : World) (e : Ending) (w' : World) : Prop := e = .returned (.tuple #[.string r.1, .bool r.2]) ∧ Below w.heap.size w w'

/-- Behind a panic, at the door. -/
theorem door_bad (g : Nat) (n : Int) (a o : Value) (w wz : World) (tmps : Array Value) (h2 : tmps[2]? = some (.pointer (some ⟨g, 0, none⟩))) (h3 : tmps[3]? = some (.pointer (some ⟨g + 1, 0, none⟩)))
    (hb : wz.heap[g]? = some (.cells #[a] 9 (0, 0))) (hq : wz.heap[g + 1]? = some (.cells #[o] 4 (0, 0))) (hB : Below g w wz) (hg : w.heap.size = g) {r : ByteArray × Bool} (hr : r = (⟨#[]⟩, false)) :
    Leaves Try.prog Try.f8 tmps (GetEnd r w) [{ target := .fn (.func 12) #[.pointer (some ⟨g, 0, none⟩), .pointer (some ⟨g + 1, 0, none⟩)], args := #[] }] (.panicking [{ v := .iface 38 (.agg #[.int .i64 n]), recovered := false }]) wz := by
  subst hr
  refine leaves_cons (f := 12) (args := #[.pointer (some ⟨g, 0, none⟩), .pointer (some ⟨g + 1, 0, none⟩)]) (by simp) (by simp [go_sem]) ?_
  refine (catch_bad g n a o [] wz hb hq).mono ?_
  rintro e' u' w' ⟨rfl, rfl, hw⟩
  have hA := (Below.refl wz.heap.size wz).alloc (Nat.le_refl _) (.cells #[.int .i64 n] 38)
  have hb0 := (hA.block g (blk_lt hb)).trans hb
  have hq0 := (hA.block (g + 1) (blk_lt hq)).trans hq
  have hB0 : Below g w (wz.alloc (.cells #[.int .i64 n] 38)) := hB.alloc (Nat.le_of_lt (blk_lt hb)) _
  generalize wz.alloc (.cells #[.int .i64 n] 38) = w1 at *
  have hb1 : (w1.setCell ⟨g, 0, none⟩ (.string ⟨#[]⟩)).heap[g]? = some (.cells #[.string ⟨#[]⟩] 9 (0, 0)) := blk_set hb0 0 _
  have hb6 := blk_far hb1 (p := ⟨g + 1, 0, none⟩) (by simp) (.bool false)
  have hq6 : _ = some (Obj.cells #[.bool false] 4 (0, 0)) := blk_set (blk_far hq0 (p := ⟨g, 0, none⟩) (by simp) (.string ⟨#[]⟩)) 0 (.bool false)
  have hB6 := (hB0.setCell (p := ⟨g, 0, none⟩) (Nat.le_refl _) (.string ⟨#[]⟩)).setCell (p := ⟨g + 1, 0, none⟩) (Nat.le_succ _) (.bool false)
  rw [← hw] at hb6 hq6 hB6
  clear hw
  have c0 : w'.cell? ⟨g, 0, none⟩ = some (.string ⟨#[]⟩) := (blk_cell hb6 0).trans rfl
  have q0 : w'.cell? ⟨g + 1, 0, none⟩ = some (.bool false) := (blk_cell hq6 0).trans rfl
  have hfin : GetEnd (⟨#[]⟩, false) w (.returned (.tuple #[.string ⟨#[]⟩, .bool false])) w' := ⟨rfl, by rw [hg]; exact hB6⟩
  have HF := Aside0.mk hfin
  clear hfin
  simp [Leaves, settle, results, Try.results8, go_sem, h2, h3, c0, q0, HF.out]
/-- The door, nothing having gone wrong. -/
theorem door_idle (g : Nat) (s : ByteArray) (o : Bool) (w wz : World) (tmps : Array Value) (h2 : tmps[2]? = some (.pointer (some ⟨g, 0, none⟩))) (h3 : tmps[3]? = some (.pointer (some ⟨g + 1, 0, none⟩)))
    (hb : wz.heap[g]? = some (.cells #[.string s] 9 (0, 0))) (hq : wz.heap[g + 1]? = some (.cells #[.bool o] 4 (0, 0))) (hB : Below g w wz) (hg : w.heap.size = g) {r : ByteArray × Bool} (hr : r = (s, o)) :
    Leaves Try.prog Try.f8 tmps (GetEnd r w) [{ target := .fn (.func 12) #[.pointer (some ⟨g, 0, none⟩), .pointer (some ⟨g + 1, 0, none⟩)], args := #[] }] .returning wz := by
  refine leaves_cons (f := 12) (args := #[.pointer (some ⟨g, 0, none⟩), .pointer (some ⟨g + 1, 0, none⟩)]) (by simp) (by simp [go_sem]) ?_
  refine (catch_idle _ _ _).mono ?_
  rintro e' u' w' ⟨rfl, rfl, rfl⟩
  have c0 : w'.cell? ⟨g, 0, none⟩ = some (.string s) := (blk_cell hb 0).trans rfl
  have q0 : w'.cell? ⟨g + 1, 0, none⟩ = some (.bool o) := (blk_cell hq 0).trans rfl
  have hfin : GetEnd r w (.returned (.tuple #[.string s, .bool o])) w' := ⟨by rw [hr], by rw [hg]; exact hB⟩
  have HF := Aside0.mk hfin
  clear hfin
  simp [Leaves, settle, results, Try.results8, go_sem, h2, h3, c0, q0, HF.out]
end Go.Proofs.Ytnakkfdopfhkcaa
