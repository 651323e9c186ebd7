/- strings.Builder's writers, walked: its check, a byte, some bytes, a text. What the builder's own row aside lies in memory is as it was. -/
import Derived.Test.YtnakkfdopfhkcaaShelf
import Derived.Test.YtnakkfdopfhkcaaWWords
import Derived.Lib.Builder
import Derived.Lib.AppendStr
import Derived.Laws.Externs
import Derived.OwnWalk
import Derived.WalkKit
namespace Go.Proofs.Ytnakkfdopfhkcaa
set_option linter.unusedVariables false
set_option linter.unusedSimpArgs false
open Go.Shelf Go.RowKit Go.Proofs.YtnakkfdopfhkcaaW.PrintWords

/-- All below B is as it was, the builder's block b aside. -/
structure Kp (B b : Nat) (w w' : World) : Prop where
  os : w'.os = w.os
  tape : w'.tape = w.tape
  output : w'.output = w.output
  size : w.heap.size ≤ w'.heap.size
  block : ∀ k, k < B → k ≠ b → w'.heap[k]? = w.heap[k]?
theorem Kp.refl (B b : Nat) (w : World) : Kp B b w w := ⟨rfl, rfl, rfl, Nat.le_refl _, fun _ _ _ => rfl⟩
theorem Kp.trans {B b : Nat} {w w1 w2 : World} (h : Kp B b w w1) (k : Kp B b w1 w2) : Kp B b w w2 :=
  ⟨k.os.trans h.os, k.tape.trans h.tape, k.output.trans h.output, Nat.le_trans h.size k.size, fun i h1 h2 => (k.block i h1 h2).trans (h.block i h1 h2)⟩
theorem Kp.alloc {B b : Nat} {w w1 : World} (h : Kp B b w w1) (hB : B ≤ w1.heap.size) (o : Obj) : Kp B b w (w1.alloc o) :=
  have a := (Below.refl B w1).alloc hB o
  h.trans ⟨a.os, a.tape, a.output, a.size, fun i h1 _ => a.block i h1⟩
theorem Kp.below {B b : Nat} {w w1 w2 : World} (h : Kp B b w w1) (a : Below B w1 w2) : Kp B b w w2 :=
  h.trans ⟨a.os, a.tape, a.output, a.size, fun i h1 _ => a.block i h1⟩
theorem Kp.grown {B b : Nat} {w w1 w2 : World} (h : Kp B b w w1) {row : Option Nat} (g : w1.grownBy w2 row) (hB : B ≤ w1.heap.size) (hr : ∀ k, row = some k → B ≤ k) : Kp B b w w2 :=
  h.trans ⟨g.os, g.tape, g.output, g.size, fun i h1 _ => g.block i (Nat.lt_of_lt_of_le h1 hB) (fun e => by have := hr i e.symm; omega)⟩
theorem Kp.set {B b : Nat} {w w1 : World} (h : Kp B b w w1) (j : Nat) (v : Value) : Kp B b w (w1.setCell ⟨b, j, none⟩ v) :=
  h.trans ⟨rfl, rfl, rfl, by simp, fun i _ h2 => Below.heap_setCell _ _ _ _ h2⟩
theorem Kp.less {B b : Nat} {w w1 : World} (h : Kp B b w w1) (B0 : Nat) (hB : B0 ≤ B) (hb : B0 ≤ b) : Below B0 w w1 :=
  ⟨h.os, h.tape, h.output, h.size, fun i hi => h.block i (by omega) (by omega)⟩

/-- A builder in block b, its row from B on. -/
def Bu (B b : Nat) (bs : List Value) (w : World) : Prop :=
  ∃ p v, (p = .pointer none ∨ p = .pointer (some ⟨b, 0, none⟩)) ∧ w.heap[b]? = some (.cells #[p, v] 42 (0, 0)) ∧ w.ownsRow B 5 1 v bs.length bs ∧ v.ownBlock ≠ some b
theorem own_less {w : World} {B B0 : Nat} {v : Value} {n : Nat} {xs : List Value} (h : w.ownsRow B 5 1 v n xs) (hB : B0 ≤ B) : w.ownsRow B0 5 1 v n xs := by
  refine ⟨h.1, ?_⟩
  rcases h.2 with h | ⟨g, cap, cur, h0, h1, h2⟩
  · exact .inl h
  · exact .inr ⟨g, cap, cur, h0, Nat.le_trans hB h1, h2⟩
theorem own_from {w : World} {B : Nat} {v : Value} {n : Nat} {xs : List Value} (h : w.ownsRow B 5 1 v n xs) (k : Nat) (hk : v.ownBlock = some k) : B ≤ k ∧ k < w.heap.size := by
  rcases h.2 with ⟨rfl, _⟩ | ⟨g, cap, cur, rfl, h1, h2, _⟩
  · simp [Value.ownBlock] at hk
  · simp only [Value.ownBlock, Option.some.injEq] at hk
    subst hk
    exact ⟨h1, (Array.getElem?_eq_some_iff.1 h2).1⟩
theorem Bu.lib {B b : Nat} {bs : List Value} {w : World} (h : Bu B b bs w) (B0 : Nat) (hB : B0 ≤ B) (hb : B0 ≤ b) : Lib.IsBuilder 42 5 B0 b bs w := by
  obtain ⟨p, v, hp, hbk, hown, hne⟩ := h
  rcases hp with rfl | rfl
  · exact .inl ⟨hb, v, hbk, own_less hown hB, hne⟩
  · exact .inr ⟨hb, v, hbk, own_less hown hB, hne⟩
theorem Bu.fresh (B : Nat) (w : World) : Bu B w.heap.size [] (w.alloc (.cells #[.pointer none, .slice none 0 0] 42)) :=
  ⟨_, _, .inl rfl, by simp [World.alloc, -World.alloc_eq], ⟨rfl, .inl ⟨rfl, rfl⟩⟩, by simp [Value.ownBlock]⟩
/-- Whatever leaves the builder's block and its row as they were. -/
theorem Bu.grown {B b : Nat} {bs : List Value} {w w1 : World} (h : Bu B b bs w) (g : w.grownBy w1 none) : Bu B b bs w1 := by
  obtain ⟨p, v, hp, hbk, hown, hne⟩ := h
  exact ⟨p, v, hp, by rw [g.block b (Array.getElem?_eq_some_iff.1 hbk).1 (by simp)]; exact hbk, hown.kept g (by cases v.ownBlock <;> simp), hne⟩
theorem grown_alloc (w : World) (o : Obj) : w.grownBy (w.alloc o) none :=
  ⟨rfl, rfl, rfl, by simp, fun k hk _ => Lib.alloc_old w o k hk⟩
theorem grown_of {w w1 : World} (h : Below w.heap.size w w1) : w.grownBy w1 none := ⟨h.os, h.tape, h.output, h.size, fun k hk _ => h.block k hk⟩

set_option maxHeartbeats 1000000 in
set_option maxRecDepth 100000 in
theorem check_used (b : Nat) (w : World) (h0 : w.cell? ⟨b, 0, none⟩ = some (.pointer (some ⟨b, 0, none⟩))) :
    Calls Try.prog 18 #[.pointer (some ⟨b, 0, none⟩)] w fun e w' => e = .returned (.tuple #[]) ∧ w' = w := by
  obtain ⟨j, hj, _⟩ := Option.map_eq_some_iff.1 Builder_Extra_169.sizeBuilder
  go_enter Try.func18, Try.ntmps18
  go_wp2
  rw [Lib.run_neq_ptr_same w _ Try.underlying40 hj]
  go_wp2
  go_end0
  exact ⟨rfl, rfl⟩
set_option maxHeartbeats 1000000 in
set_option maxRecDepth 100000 in
theorem check_fresh (b : Nat) (w : World) (h0 : w.cell? ⟨b, 0, none⟩ = some (.pointer none)) (hsh : w.shape? b = some (42, 2)) (hfz : w.frozen? ⟨b, 0, none⟩ = false) :
    Calls Try.prog 18 #[.pointer (some ⟨b, 0, none⟩)] w fun e w' => e = .returned (.tuple #[]) ∧ w' = w.setCell ⟨b, 0, none⟩ (.pointer (some ⟨b, 0, none⟩)) := by
  obtain ⟨j, hj, hjs⟩ := Option.map_eq_some_iff.1 Builder_Extra_169.sizeBuilder
  go_enter Try.func18, Try.ntmps18
  go_wp2
  rw [Lib.run_to_unsafe w ⟨b, 0, none⟩ Try.underlying40 Try.underlying52 hj (by rw [hjs]; decide) hsh (Nat.zero_lt_succ 1)]
  simp only [Result.andThen]
  rw [Oper.upon_value]
  go_wp2
  rw [run_callFunc_extern Try.func20 (by kernel_rfl) (by kernel_rfl) (by kernel_rfl) (e := Extern.AbiNoEscape.same) (by kernel_rfl)]
  rw [Lib.run_noEscape]
  simp only [Result.andThen]
  rw [Oper.upon_value]
  go_wp2
  rw [Lib.run_from_unsafe w ⟨b, 0, none⟩ Try.underlying52 Try.underlying40 hj hsh Builder_Extra_169.liesBuilder]
  simp only [Result.andThen]
  rw [Oper.upon_value]
  go_wp2
  go_end0
  exact ⟨rfl, rfl⟩
theorem Builder_check (B b : Nat) (bs : List Value) (w : World) (h : Bu B b bs w) :
    Calls Try.prog 18 #[.pointer (some ⟨b, 0, none⟩)] w fun e w' => e = .returned (.tuple #[]) ∧ (∃ v, w'.heap[b]? = some (.cells #[.pointer (some ⟨b, 0, none⟩), v] 42 (0, 0)) ∧ w'.ownsRow B 5 1 v bs.length bs ∧ v.ownBlock ≠ some b) ∧ Kp B b w w' ∧ w'.heap.size = w.heap.size ∧ ∀ k, k ≠ b → w'.heap[k]? = w.heap[k]? := by
  obtain ⟨p, v, hp, hbk, hown, hne⟩ := h
  have h0 : w.cell? ⟨b, 0, none⟩ = some p := by rw [Lib.cell_of_heap hbk]; rfl
  rcases hp with rfl | rfl
  · refine (check_fresh b w h0 (by simp [World.shape?, hbk]) (Lib.frozen_of_heap hbk 0)).mono ?_
    rintro e w' ⟨rfl, rfl⟩
    refine ⟨rfl, ⟨v, by simp [World.setCell, Array.getElem?_modify, hbk], hown.kept (row := some b) ⟨rfl, rfl, rfl, by simp [World.setCell], fun k _ hk => Below.heap_setCell _ _ _ _ (fun e => hk (by simp [e]))⟩ (.inr hne), hne⟩, (Kp.refl B b w).set 0 _, by simp, fun k hk => Below.heap_setCell _ _ _ _ hk⟩
  · refine (check_used b w h0).mono ?_
    rintro e w' ⟨rfl, rfl⟩
    exact ⟨rfl, ⟨v, hbk, hown, hne⟩, Kp.refl B b _, rfl, fun k _ => rfl⟩

set_option maxHeartbeats 2000000 in
set_option maxRecDepth 100000 in
theorem Builder_WriteString (B b : Nat) (bs : List Value) (s : ByteArray) (w : World) (h : Bu B b bs w) (hlen : bs.length + s.size ≤ 140737488355328) (hBw : B ≤ w.heap.size) :
    Calls Try.prog 13 #[.pointer (some ⟨b, 0, none⟩), .string s] w fun e w' => e = .returned (.tuple #[.int .i64 s.size, .nilIface]) ∧ Bu B b (bs ++ Lib.strCells s) w' ∧ Kp B b w w' := by
  obtain ⟨i0, hi, hz0, hz1, hz2⟩ := info_parts Builder_Extra_169.infoByte
  go_enter Try.func13, Try.ntmps13
  go_wp2_with (go_at_call 18; refine (Builder_check B b bs _ h).mono ?_)
  rintro e w1 ⟨rfl, ⟨v, hbk, hown, hne⟩, hk1, hz1s, hot⟩
  have c0 : w1.cell? ⟨b, 0, none⟩ = some (.pointer (some ⟨b, 0, none⟩)) := by rw [Lib.cell_of_heap hbk]; rfl
  have c1 : w1.cell? ⟨b, 1, none⟩ = some v := by rw [Lib.cell_of_heap hbk]; rfl
  have hlt : b < w1.heap.size := (Array.getElem?_eq_some_iff.1 hbk).1
  have hBw : B ≤ w1.heap.size := by omega
  replace hot := Aside0.mk hot
  clear hz1s
  go_wp2_with (at_builtin; refine Lib.wpList_append_own_string _ rfl _ _ 31 9 rfl B 5 i0 Try.underlying31 Try.underlying9 hi hz0 hz1 hz2 _ _ _ rfl hown s rfl ?c3 ?c4 ?c5 ?_)
  case c3 => unfold maxLen; omega
  case c4 => omega
  case c5 => omega
  intro v' w2 hown' hgrow _
  have hb2 : w2.heap[b]? = some (.cells #[.pointer (some ⟨b, 0, none⟩), v] 42 (0, 0)) := by
    rw [hgrow.block b hlt (fun e => hne e.symm)]
    exact hbk
  have d0 : w2.cell? ⟨b, 0, none⟩ = some (.pointer (some ⟨b, 0, none⟩)) := by rw [Lib.cell_of_heap hb2]; rfl
  have d1 : w2.cell? ⟨b, 1, none⟩ = some v := by rw [Lib.cell_of_heap hb2]; rfl
  have f1 : w2.frozen? ⟨b, 1, none⟩ = false := Lib.frozen_of_heap hb2 1
  obtain ⟨ao, n', cap, rfl⟩ : ∃ ao n' cap, v' = .slice ao n' cap := by
    rcases hown'.2 with ⟨hv, _⟩ | ⟨g, cap, cur, hv, _⟩
    · exact ⟨_, _, _, hv⟩
    · exact ⟨_, _, _, hv⟩
  have hno := Lib.ownBlock_ne hown' hb2 (by decide)
  go_wp2
  go_ret2
  refine ⟨rfl, ?_, (hk1.grown hgrow (by omega) (fun k hk => (own_from hown k hk).1)).set 1 _⟩
  have hx : (bs ++ Lib.strCells s).length = bs.length + s.size := by simp [Lib.strCells_length]
  unfold Bu
  rw [hx]
  exact ⟨_, _, .inr rfl, by simp [World.setCell, Array.getElem?_modify, hb2], hown'.kept (row := some b) ⟨rfl, rfl, rfl, by simp [World.setCell], fun k _ hk => Below.heap_setCell _ _ _ _ (fun e => hk (by simp [e]))⟩ (.inr hno), hno⟩
end Go.Proofs.Ytnakkfdopfhkcaa
