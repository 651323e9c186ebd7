/- num.try walked, at a text and at a number: what the reckoning answers, or nothing, where it ends by noField's panic. -/
import Derived.Test.YtljahgpincaihaaBase
import Derived.Defers
import Derived.Recover
namespace Go.Proofs.Ytljahgpincaihaa
set_option linter.unusedVariables false
set_option linter.unusedSimpArgs false
open Go.RowKit Go.Proofs.YtljahgpincaihaaW.PrintWords


/-! ### at a text -/
theorem catch_bad_s (g : Nat) (a o : Value) (older : List PanicEntry) (w : World) (hb : w.heap[g]? = some (.cells #[a] 9 (0, 0))) (hq : w.heap[g + 1]? = some (.cells #[o] 4 (0, 0))) :
    CallsD Try.prog 33 #[.pointer (some ⟨g, 0, none⟩), .pointer (some ⟨g + 1, 0, none⟩)] (.panicking ({ v := .iface 53 (.agg #[.int .i64 4]), recovered := false } :: older)) w fun e u' w' =>
      e = .returned (.tuple #[]) ∧ u' = .panicking ({ v := .iface 53 (.agg #[.int .i64 4]), recovered := true } :: older) ∧
      w' = ((w.alloc (.cells #[.int .i64 4] 53)).setCell ⟨g, 0, none⟩ (.string ⟨#[]⟩)).setCell ⟨g + 1, 0, none⟩ (.bool false) := by
  have hta : ∀ (v : Value) (W : World), (Instr.typeAssert (.iface 53 v) 20 53 true).run Try.prog W = .ok (.tuple #[v, .bool true]) W := fun v W => by rfl
  refine callsD_of_wpS Try.func33 rfl fun c₀ cs hu => ?_
  apply wpS_seq
  apply wpS_region
  simp [wpOpsS, go_sem, recoverD, hu, Try.ntmps33, Exit.thenS, Array.replicate, List.replicate]
  refine wpS_of_wp (Code.wp_mono (Q := fun e a' w' => e = .normal ∧ a'.defers = [] ∧ w' = ((w.alloc (.cells #[.int .i64 4] 53)).setCell ⟨g, 0, none⟩ (.string ⟨#[]⟩)).setCell ⟨g + 1, 0, none⟩ (.bool false)) ?_ ?_)
  · rintro e a' w' ⟨rfl, hd, rfl⟩
    simp [bodyPostS, results, Try.results33, hd]
  clear hu
  have hA := (Below.refl w.heap.size w).alloc (Nat.le_refl _) (.cells #[.int .i64 4] 53)
  have hb' := (hA.block g (blk_lt hb)).trans hb
  have hq' := (hA.block (g + 1) (blk_lt hq)).trans hq
  have c0 : (w.alloc (.cells #[.int .i64 4] 53)).cell? ⟨g, 0, none⟩ = some a := (blk_cell hb' 0).trans rfl
  have z0 := blk_frozen hb' 0
  have q0 : (w.alloc (.cells #[.int .i64 4] 53)).cell? ⟨g + 1, 0, none⟩ = some o := (blk_cell hq' 0).trans rfl
  have y0 := blk_frozen hq' 0
  clear hA hb' hq' hb hq
  go_wp2

theorem catch_idle_s (p q : Addr) (w : World) :
    CallsD Try.prog 33 #[.pointer (some p), .pointer (some q)] .returning w fun e u' w' => e = .returned (.tuple #[]) ∧ u' = .returning ∧ w' = w := by
  refine callsD_of_wpS Try.func33 rfl fun c₀ cs hu => ?_
  apply wpS_seq
  apply wpS_region
  simp [wpOpsS, go_sem, recoverD, hu, Try.ntmps33, Exit.thenS, Array.replicate, List.replicate]
  refine wpS_of_wp (Code.wp_mono (Q := fun e a' w' => e = .normal ∧ a'.defers = [] ∧ w' = w) ?_ ?_)
  · rintro e a' w' ⟨rfl, hd, rfl⟩
    cases c₀
    simp_all [bodyPostS, results, Try.results33]
  clear hu
  go_wp2

/-- How try ends: what was reckoned, and whether. -/
def TryEnd_s (r : ByteArray × Bool) (w : World) (e : Ending) (w' : World) : Prop := e = .returned (.tuple #[.string r.1, .bool r.2]) ∧ Below w.heap.size w w'

theorem door_bad_s (g : Nat) (a o : Value) (w wz : World) (tmps : Array Value) (h2 : tmps[2]? = some (.pointer (some ⟨g, 0, none⟩))) (h3 : tmps[3]? = some (.pointer (some ⟨g + 1, 0, none⟩)))
    (hb : wz.heap[g]? = some (.cells #[a] 9 (0, 0))) (hq : wz.heap[g + 1]? = some (.cells #[o] 4 (0, 0))) (hB : Below g w wz) (hg : w.heap.size = g) :
    Leaves Try.prog Try.f21 tmps (TryEnd_s (⟨#[]⟩, false) w) [{ target := .fn (.func 33) #[.pointer (some ⟨g, 0, none⟩), .pointer (some ⟨g + 1, 0, none⟩)], args := #[] }] (.panicking [{ v := .iface 53 (.agg #[.int .i64 4]), recovered := false }]) wz := by
  refine leaves_cons (f := 33) (args := #[.pointer (some ⟨g, 0, none⟩), .pointer (some ⟨g + 1, 0, none⟩)]) (by simp) (by simp [go_sem]) ?_
  refine (catch_bad_s g a o [] wz hb hq).mono ?_
  rintro e' u' w' ⟨rfl, rfl, hw⟩
  have hA := (Below.refl wz.heap.size wz).alloc (Nat.le_refl _) (.cells #[.int .i64 4] 53)
  have hb0 := (hA.block g (blk_lt hb)).trans hb
  have hq0 := (hA.block (g + 1) (blk_lt hq)).trans hq
  have hB0 : Below g w (wz.alloc (.cells #[.int .i64 4] 53)) := hB.alloc (Nat.le_of_lt (blk_lt hb)) _
  generalize wz.alloc (.cells #[.int .i64 4] 53) = w1 at *
  have hb1 : (w1.setCell ⟨g, 0, none⟩ (.string ⟨#[]⟩)).heap[g]? = some (.cells #[(.string ⟨#[]⟩)] 9 (0, 0)) := blk_set hb0 0 _
  have hb6 := blk_far hb1 (p := ⟨g + 1, 0, none⟩) (by simp) (.bool false)
  have hq6 : _ = some (Obj.cells #[.bool false] 4 (0, 0)) := blk_set (blk_far hq0 (p := ⟨g, 0, none⟩) (by simp) (.string ⟨#[]⟩)) 0 (.bool false)
  have hB6 := (hB0.setCell (p := ⟨g, 0, none⟩) (Nat.le_refl _) (.string ⟨#[]⟩)).setCell (p := ⟨g + 1, 0, none⟩) (Nat.le_succ _) (.bool false)
  rw [← hw] at hb6 hq6 hB6
  clear hw
  have c0 : w'.cell? ⟨g, 0, none⟩ = some (.string ⟨#[]⟩) := (blk_cell hb6 0).trans rfl
  have q0 : w'.cell? ⟨g + 1, 0, none⟩ = some (.bool false) := (blk_cell hq6 0).trans rfl
  have hfin : TryEnd_s (⟨#[]⟩, false) w (.returned (.tuple #[(.string ⟨#[]⟩), .bool false])) w' := ⟨rfl, by rw [hg]; exact hB6⟩
  have HF := Aside0.mk hfin
  clear hfin
  simp [Leaves, settle, results, Try.results21, go_sem, h2, h3, c0, q0, HF.out]
theorem door_idle_s (g : Nat) (s : ByteArray) (o : Bool) (w wz : World) (tmps : Array Value) (h2 : tmps[2]? = some (.pointer (some ⟨g, 0, none⟩))) (h3 : tmps[3]? = some (.pointer (some ⟨g + 1, 0, none⟩)))
    (hb : wz.heap[g]? = some (.cells #[.string s] 9 (0, 0))) (hq : wz.heap[g + 1]? = some (.cells #[.bool o] 4 (0, 0))) (hB : Below g w wz) (hg : w.heap.size = g) :
    Leaves Try.prog Try.f21 tmps (TryEnd_s (s, o) w) [{ target := .fn (.func 33) #[.pointer (some ⟨g, 0, none⟩), .pointer (some ⟨g + 1, 0, none⟩)], args := #[] }] .returning wz := by
  refine leaves_cons (f := 33) (args := #[.pointer (some ⟨g, 0, none⟩), .pointer (some ⟨g + 1, 0, none⟩)]) (by simp) (by simp [go_sem]) ?_
  refine (catch_idle_s _ _ _).mono ?_
  rintro e' u' w' ⟨rfl, rfl, rfl⟩
  have c0 : w'.cell? ⟨g, 0, none⟩ = some (.string s) := (blk_cell hb 0).trans rfl
  have q0 : w'.cell? ⟨g + 1, 0, none⟩ = some (.bool o) := (blk_cell hq 0).trans rfl
  have hfin : TryEnd_s (s, o) w (.returned (.tuple #[.string s, .bool o])) w' := ⟨rfl, by rw [hg]; exact hB⟩
  have HF := Aside0.mk hfin
  clear hfin
  simp [Leaves, settle, results, Try.results21, go_sem, h2, h3, c0, q0, HF.out]

/-- How a reckoning ends. -/
def Reck_s (r : Option ByteArray) (w : World) (e : Ending) (w' : World) : Prop :=
  (match r with
    | some l => e = .returned (.string l)
    | none => e = noField) ∧ Below w.heap.size w w'
set_option maxHeartbeats 4000000 in
set_option maxRecDepth 100000 in
theorem try_ends_s (c : Nat) (caps : Array Value) (r : Option ByteArray) (w : World) (hcf : ∀ W, (callFunc c caps).run Try.prog W = .ok (.enter c caps) W) (hc : ∀ W, Below w.heap.size w W → Calls Try.prog c caps W (Reck_s r W)) :
    Calls Try.prog 21 #[.func (.func c) #[] caps] w (TryEnd_s (r.getD ⟨#[]⟩, r.isSome) w) := by
  have hmf : ∀ (fn : Fn) (first cap : Array Value) (w : World), (Instr.makeFunc fn first cap).run Try.prog w = .ok (.func fn first cap) w := fun _ _ _ _ => rfl
  have HC := Aside0.mk hc
  clear hc
  go_enter_defers Try.func21, Try.ntmps21
  go_wp2_with fail
  generalize hg : w.heap.size = g at *
  have H0 : Aside0 (Below g w ((w.alloc (.cells #[(.string ⟨#[]⟩)] 9)).alloc (.cells #[.bool false] 4))) := ⟨((by rw [← hg]; exact (Below.refl _ _).alloc (Nat.le_refl _) _ : Below g w (w.alloc (.cells #[(.string ⟨#[]⟩)] 9)))).alloc (by simp; omega) _⟩
  have H1 : Aside0 (((w.alloc (.cells #[(.string ⟨#[]⟩)] 9)).alloc (.cells #[.bool false] 4)).heap[g]? = some (.cells #[(.string ⟨#[]⟩)] 9 (0, 0))) := ⟨by rw [← hg]; exact blk_alloc (heap_alloc_new _ _) _⟩
  have H2 : Aside0 (((w.alloc (.cells #[(.string ⟨#[]⟩)] 9)).alloc (.cells #[.bool false] 4)).heap[g + 1]? = some (.cells #[.bool false] 4 (0, 0))) := ⟨by rw [← hg]; have := heap_alloc_new (w.alloc (.cells #[(.string ⟨#[]⟩)] 9)) (.cells #[.bool false] 4); simpa using this⟩
  have H3 : Aside0 (((w.alloc (.cells #[(.string ⟨#[]⟩)] 9)).alloc (.cells #[.bool false] 4)).heap.size = g + 2) := ⟨by simp; omega⟩
  generalize (w.alloc (.cells #[(.string ⟨#[]⟩)] 9)).alloc (.cells #[.bool false] 4) = W0 at *
  have HW := Aside0.mk (HC.out W0 H0.out)
  refine HW.out.mono ?_
  rintro e w1 ⟨he, hb1⟩
  have hb0 := Aside0.mk (blk_below H1.out hb1)
  have hq0 := Aside0.mk (blk_below H2.out hb1)
  have HB := Aside0.mk (below_then H0.out (by have := H3.out; omega) hb1)
  clear hb1 HW HC H0 H1 H2 H3
  cases r with
  | none =>
    obtain rfl := he
    exact door_bad_s g _ _ w _ _ rfl rfl hb0.out hq0.out HB.out hg
  | some l =>
    obtain rfl := he
    have c0 : w1.cell? ⟨g, 0, none⟩ = some (.string ⟨#[]⟩) := (blk_cell hb0.out 0).trans rfl
    have d0 : w1.cell? ⟨g + 1, 0, none⟩ = some (.bool false) := (blk_cell hq0.out 0).trans rfl
    have z0 := blk_frozen hb0.out 0
    have z1 := blk_frozen hq0.out 0
    go_wp2_with fail
    exact door_idle_s g l true w _ _ rfl rfl (blk_far (blk_set hb0.out 0 _) (p := ⟨g + 1, 0, none⟩) (by simp) _) (blk_set (blk_far hq0.out (p := ⟨g, 0, none⟩) (by simp) _) 0 _) ((HB.out.setCell (p := ⟨g, 0, none⟩) (Nat.le_refl _) _).setCell (p := ⟨g + 1, 0, none⟩) (Nat.le_succ _) _) hg

/-! ### at a number -/
theorem catch_bad_n (g : Nat) (a o : Value) (older : List PanicEntry) (w : World) (hb : w.heap[g]? = some (.cells #[a] 3 (0, 0))) (hq : w.heap[g + 1]? = some (.cells #[o] 4 (0, 0))) :
    CallsD Try.prog 35 #[.pointer (some ⟨g, 0, none⟩), .pointer (some ⟨g + 1, 0, none⟩)] (.panicking ({ v := .iface 53 (.agg #[.int .i64 4]), recovered := false } :: older)) w fun e u' w' =>
      e = .returned (.tuple #[]) ∧ u' = .panicking ({ v := .iface 53 (.agg #[.int .i64 4]), recovered := true } :: older) ∧
      w' = ((w.alloc (.cells #[.int .i64 4] 53)).setCell ⟨g, 0, none⟩ (.int .i64 0)).setCell ⟨g + 1, 0, none⟩ (.bool false) := by
  have hta : ∀ (v : Value) (W : World), (Instr.typeAssert (.iface 53 v) 20 53 true).run Try.prog W = .ok (.tuple #[v, .bool true]) W := fun v W => by rfl
  refine callsD_of_wpS Try.func35 rfl fun c₀ cs hu => ?_
  apply wpS_seq
  apply wpS_region
  simp [wpOpsS, go_sem, recoverD, hu, Try.ntmps35, Exit.thenS, Array.replicate, List.replicate]
  refine wpS_of_wp (Code.wp_mono (Q := fun e a' w' => e = .normal ∧ a'.defers = [] ∧ w' = ((w.alloc (.cells #[.int .i64 4] 53)).setCell ⟨g, 0, none⟩ (.int .i64 0)).setCell ⟨g + 1, 0, none⟩ (.bool false)) ?_ ?_)
  · rintro e a' w' ⟨rfl, hd, rfl⟩
    simp [bodyPostS, results, Try.results35, hd]
  clear hu
  have hA := (Below.refl w.heap.size w).alloc (Nat.le_refl _) (.cells #[.int .i64 4] 53)
  have hb' := (hA.block g (blk_lt hb)).trans hb
  have hq' := (hA.block (g + 1) (blk_lt hq)).trans hq
  have c0 : (w.alloc (.cells #[.int .i64 4] 53)).cell? ⟨g, 0, none⟩ = some a := (blk_cell hb' 0).trans rfl
  have z0 := blk_frozen hb' 0
  have q0 : (w.alloc (.cells #[.int .i64 4] 53)).cell? ⟨g + 1, 0, none⟩ = some o := (blk_cell hq' 0).trans rfl
  have y0 := blk_frozen hq' 0
  clear hA hb' hq' hb hq
  go_wp2

theorem catch_idle_n (p q : Addr) (w : World) :
    CallsD Try.prog 35 #[.pointer (some p), .pointer (some q)] .returning w fun e u' w' => e = .returned (.tuple #[]) ∧ u' = .returning ∧ w' = w := by
  refine callsD_of_wpS Try.func35 rfl fun c₀ cs hu => ?_
  apply wpS_seq
  apply wpS_region
  simp [wpOpsS, go_sem, recoverD, hu, Try.ntmps35, Exit.thenS, Array.replicate, List.replicate]
  refine wpS_of_wp (Code.wp_mono (Q := fun e a' w' => e = .normal ∧ a'.defers = [] ∧ w' = w) ?_ ?_)
  · rintro e a' w' ⟨rfl, hd, rfl⟩
    cases c₀
    simp_all [bodyPostS, results, Try.results35]
  clear hu
  go_wp2

/-- How try ends: what was reckoned, and whether. -/
def TryEnd_n (r : Int × Bool) (w : World) (e : Ending) (w' : World) : Prop := e = .returned (.tuple #[.int .i64 r.1, .bool r.2]) ∧ Below w.heap.size w w'

theorem door_bad_n (g : Nat) (a o : Value) (w wz : World) (tmps : Array Value) (h2 : tmps[2]? = some (.pointer (some ⟨g, 0, none⟩))) (h3 : tmps[3]? = some (.pointer (some ⟨g + 1, 0, none⟩)))
    (hb : wz.heap[g]? = some (.cells #[a] 3 (0, 0))) (hq : wz.heap[g + 1]? = some (.cells #[o] 4 (0, 0))) (hB : Below g w wz) (hg : w.heap.size = g) :
    Leaves Try.prog Try.f26 tmps (TryEnd_n (0, false) w) [{ target := .fn (.func 35) #[.pointer (some ⟨g, 0, none⟩), .pointer (some ⟨g + 1, 0, none⟩)], args := #[] }] (.panicking [{ v := .iface 53 (.agg #[.int .i64 4]), recovered := false }]) wz := by
  refine leaves_cons (f := 35) (args := #[.pointer (some ⟨g, 0, none⟩), .pointer (some ⟨g + 1, 0, none⟩)]) (by simp) (by simp [go_sem]) ?_
  refine (catch_bad_n g a o [] wz hb hq).mono ?_
  rintro e' u' w' ⟨rfl, rfl, hw⟩
  have hA := (Below.refl wz.heap.size wz).alloc (Nat.le_refl _) (.cells #[.int .i64 4] 53)
  have hb0 := (hA.block g (blk_lt hb)).trans hb
  have hq0 := (hA.block (g + 1) (blk_lt hq)).trans hq
  have hB0 : Below g w (wz.alloc (.cells #[.int .i64 4] 53)) := hB.alloc (Nat.le_of_lt (blk_lt hb)) _
  generalize wz.alloc (.cells #[.int .i64 4] 53) = w1 at *
  have hb1 : (w1.setCell ⟨g, 0, none⟩ (.int .i64 0)).heap[g]? = some (.cells #[(.int .i64 0)] 3 (0, 0)) := blk_set hb0 0 _
  have hb6 := blk_far hb1 (p := ⟨g + 1, 0, none⟩) (by simp) (.bool false)
  have hq6 : _ = some (Obj.cells #[.bool false] 4 (0, 0)) := blk_set (blk_far hq0 (p := ⟨g, 0, none⟩) (by simp) (.int .i64 0)) 0 (.bool false)
  have hB6 := (hB0.setCell (p := ⟨g, 0, none⟩) (Nat.le_refl _) (.int .i64 0)).setCell (p := ⟨g + 1, 0, none⟩) (Nat.le_succ _) (.bool false)
  rw [← hw] at hb6 hq6 hB6
  clear hw
  have c0 : w'.cell? ⟨g, 0, none⟩ = some (.int .i64 0) := (blk_cell hb6 0).trans rfl
  have q0 : w'.cell? ⟨g + 1, 0, none⟩ = some (.bool false) := (blk_cell hq6 0).trans rfl
  have hfin : TryEnd_n (0, false) w (.returned (.tuple #[(.int .i64 0), .bool false])) w' := ⟨rfl, by rw [hg]; exact hB6⟩
  have HF := Aside0.mk hfin
  clear hfin
  simp [Leaves, settle, results, Try.results26, go_sem, h2, h3, c0, q0, HF.out]
theorem door_idle_n (g : Nat) (s : Int) (o : Bool) (w wz : World) (tmps : Array Value) (h2 : tmps[2]? = some (.pointer (some ⟨g, 0, none⟩))) (h3 : tmps[3]? = some (.pointer (some ⟨g + 1, 0, none⟩)))
    (hb : wz.heap[g]? = some (.cells #[.int .i64 s] 3 (0, 0))) (hq : wz.heap[g + 1]? = some (.cells #[.bool o] 4 (0, 0))) (hB : Below g w wz) (hg : w.heap.size = g) :
    Leaves Try.prog Try.f26 tmps (TryEnd_n (s, o) w) [{ target := .fn (.func 35) #[.pointer (some ⟨g, 0, none⟩), .pointer (some ⟨g + 1, 0, none⟩)], args := #[] }] .returning wz := by
  refine leaves_cons (f := 35) (args := #[.pointer (some ⟨g, 0, none⟩), .pointer (some ⟨g + 1, 0, none⟩)]) (by simp) (by simp [go_sem]) ?_
  refine (catch_idle_n _ _ _).mono ?_
  rintro e' u' w' ⟨rfl, rfl, rfl⟩
  have c0 : w'.cell? ⟨g, 0, none⟩ = some (.int .i64 s) := (blk_cell hb 0).trans rfl
  have q0 : w'.cell? ⟨g + 1, 0, none⟩ = some (.bool o) := (blk_cell hq 0).trans rfl
  have hfin : TryEnd_n (s, o) w (.returned (.tuple #[.int .i64 s, .bool o])) w' := ⟨rfl, by rw [hg]; exact hB⟩
  have HF := Aside0.mk hfin
  clear hfin
  simp [Leaves, settle, results, Try.results26, go_sem, h2, h3, c0, q0, HF.out]

/-- How a reckoning ends. -/
def Reck_n (r : Option Int) (w : World) (e : Ending) (w' : World) : Prop :=
  (match r with
    | some l => e = .returned (.int .i64 l)
    | none => e = noField) ∧ Below w.heap.size w w'
set_option maxHeartbeats 4000000 in
set_option maxRecDepth 100000 in
theorem try_ends_n (c : Nat) (caps : Array Value) (r : Option Int) (w : World) (hcf : ∀ W, (callFunc c caps).run Try.prog W = .ok (.enter c caps) W) (hc : ∀ W, Below w.heap.size w W → Calls Try.prog c caps W (Reck_n r W)) :
    Calls Try.prog 26 #[.func (.func c) #[] caps] w (TryEnd_n (r.getD 0, r.isSome) w) := by
  have hmf : ∀ (fn : Fn) (first cap : Array Value) (w : World), (Instr.makeFunc fn first cap).run Try.prog w = .ok (.func fn first cap) w := fun _ _ _ _ => rfl
  have HC := Aside0.mk hc
  clear hc
  go_enter_defers Try.func26, Try.ntmps26
  go_wp2_with fail
  generalize hg : w.heap.size = g at *
  have H0 : Aside0 (Below g w ((w.alloc (.cells #[(.int .i64 0)] 3)).alloc (.cells #[.bool false] 4))) := ⟨((by rw [← hg]; exact (Below.refl _ _).alloc (Nat.le_refl _) _ : Below g w (w.alloc (.cells #[(.int .i64 0)] 3)))).alloc (by simp; omega) _⟩
  have H1 : Aside0 (((w.alloc (.cells #[(.int .i64 0)] 3)).alloc (.cells #[.bool false] 4)).heap[g]? = some (.cells #[(.int .i64 0)] 3 (0, 0))) := ⟨by rw [← hg]; exact blk_alloc (heap_alloc_new _ _) _⟩
  have H2 : Aside0 (((w.alloc (.cells #[(.int .i64 0)] 3)).alloc (.cells #[.bool false] 4)).heap[g + 1]? = some (.cells #[.bool false] 4 (0, 0))) := ⟨by rw [← hg]; have := heap_alloc_new (w.alloc (.cells #[(.int .i64 0)] 3)) (.cells #[.bool false] 4); simpa using this⟩
  have H3 : Aside0 (((w.alloc (.cells #[(.int .i64 0)] 3)).alloc (.cells #[.bool false] 4)).heap.size = g + 2) := ⟨by simp; omega⟩
  generalize (w.alloc (.cells #[(.int .i64 0)] 3)).alloc (.cells #[.bool false] 4) = W0 at *
  have HW := Aside0.mk (HC.out W0 H0.out)
  refine HW.out.mono ?_
  rintro e w1 ⟨he, hb1⟩
  have hb0 := Aside0.mk (blk_below H1.out hb1)
  have hq0 := Aside0.mk (blk_below H2.out hb1)
  have HB := Aside0.mk (below_then H0.out (by have := H3.out; omega) hb1)
  clear hb1 HW HC H0 H1 H2 H3
  cases r with
  | none =>
    obtain rfl := he
    exact door_bad_n g _ _ w _ _ rfl rfl hb0.out hq0.out HB.out hg
  | some l =>
    obtain rfl := he
    have c0 : w1.cell? ⟨g, 0, none⟩ = some (.int .i64 0) := (blk_cell hb0.out 0).trans rfl
    have d0 : w1.cell? ⟨g + 1, 0, none⟩ = some (.bool false) := (blk_cell hq0.out 0).trans rfl
    have z0 := blk_frozen hb0.out 0
    have z1 := blk_frozen hq0.out 0
    go_wp2_with fail
    exact door_idle_n g l true w _ _ rfl rfl (blk_far (blk_set hb0.out 0 _) (p := ⟨g + 1, 0, none⟩) (by simp) _) (blk_set (blk_far hq0.out (p := ⟨g, 0, none⟩) (by simp) _) 0 _) ((HB.out.setCell (p := ⟨g, 0, none⟩) (Nat.le_refl _) _).setCell (p := ⟨g + 1, 0, none⟩) (Nat.le_succ _) _) hg
end Go.Proofs.Ytljahgpincaihaa
