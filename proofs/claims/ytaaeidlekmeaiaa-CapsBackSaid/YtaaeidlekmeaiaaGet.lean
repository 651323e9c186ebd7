/- The walks of caps.Get: the reader's word (it panics where too few bytes are left), the deferred closure, Get itself. -/
import Derived.Test.YtaaeidlekmeaiaaPuts
import Derived.Defers
import Derived.Recover
import Derived.Deep.RegionHeld3
namespace Go.Proofs.Ytaaeidlekmeaiaa
set_option linter.unusedVariables false
set_option linter.unusedSimpArgs false
open Go.RowKit Go.Proofs.YtaaeidlekmeaiaaW.PrintWords

theorem toList_inj {a b : ByteArray} : a.toList = b.toList ↔ a = b := by
  constructor
  · intro h
    rw [ByteArray.toList_eq, ByteArray.toList_eq] at h
    exact ByteArray.ext (Array.ext' h)
  · intro h; rw [h]
theorem toList_nil {a : ByteArray} (h : ¬ a.size = 0) : ¬ a.toList = [] := by
  intro e
  rw [ByteArray.toList_eq] at e
  apply h
  have := congrArg List.length e
  rw [data_length] at this
  exact this

theorem word_few (g : Nat) (s : ByteArray) (hs : s.size < 4) (w : World) (hb : w.heap[g]? = some (.cells #[.string s] 45 (0, 0))) :
    Calls Try.prog 16 #[.pointer (some ⟨g, 0, none⟩)] w fun e w' => e = .panicked [{ v := .iface 41 (.agg #[.int .i64 s.size]), recovered := false }] ∧ w = w' := by
  have c0 : w.cell? ⟨g, 0, none⟩ = some (.string s) := (blk_cell hb 0).trans rfl
  clear hb
  go_enter Try.func16, Try.ntmps16
  go_wp2
  exact ⟨rfl, rfl, rfl⟩

/-- What has been read of the four bytes, the highest first. -/
def part (s : ByteArray) : Nat → Int
  | 0 => 0
  | k + 1 => part s k * 256 + bt s (3 - k)
theorem part_range (s : ByteArray) : ∀ k, k ≤ 4 → 0 ≤ part s k ∧ part s k < 256 ^ k := by
  intro k
  induction k with
  | zero => intro _; simp [part]
  | succ k ih =>
    intro hk
    have := ih (by omega)
    have hb := bt_range s (3 - k)
    simp only [part]
    rw [Int.pow_succ]
    omega
theorem part_four (s : ByteArray) : part s 4 = w4 s 0 := by
  simp [part, w4]
  omega
theorem word_some (g : Nat) (s : ByteArray) (hs : 4 ≤ s.size) (hm : s.size ≤ 140737488351232) (w : World) (hb : w.heap[g]? = some (.cells #[.string s] 45 (0, 0))) :
    Calls Try.prog 16 #[.pointer (some ⟨g, 0, none⟩)] w fun e w' => e = .returned (.int .u64 (w4 s 0)) ∧ w.setCell ⟨g, 0, none⟩ (.string (s.extract 4 s.size)) = w' := by
  have c0 : w.cell? ⟨g, 0, none⟩ = some (.string s) := (blk_cell hb 0).trans rfl
  have z0 : w.frozen? ⟨g, 0, none⟩ = false := blk_frozen hb 0
  clear hb
  go_enter Try.func16, Try.ntmps16
  go_wp2
  go_loop [3, 4] (fun v3 v4 => ∃ k : Nat, k ≤ 4 ∧ v3 = .int .u64 (part s k) ∧ v4 = .int .i64 (3 - k)) (fun _ v4 => ((intOf v4) + 1).toNat)
  case atStart => exact ⟨0, by omega, rfl, rfl⟩
  case round =>
    obtain ⟨k, hk, rfl, rfl⟩ := hrel
    by_cases hlt : k < 4
    · have hpr := part_range s k hk
      have h256 : (256 : Int) ^ k ≤ 16777216 := by
        obtain rfl | rfl | rfl | rfl : k = 0 ∨ k = 1 ∨ k = 2 ∨ k = 3 := by omega
        all_goals decide
      have hp0 := hpr.1
      have hp1 : part s k < 16777216 := by omega
      clear hpr h256
      have hnx : part s (k + 1) = part s k * 256 + bt s (3 - k) := rfl
      have hor := or_eight (part s k) (bt s (3 - k)) hp0 hp1 (bt_range _ _).1 (by have := (bt_range s (3 - k)).2; omega)
      have HNX := Aside0.mk (hor.trans hnx.symm)
      clear hnx hor
      generalize hP : part s k = P at *
      have hx := bt_at s (3 - (k : Int))
      rw [show (3 - (k : Int)).toNat = 3 - k from by omega] at hx
      have q0 : (0 ≤ 3 - (k : Int)) = True := eq_true (by omega)
      have q1 : (3 - (k : Int) < (s.size : Int)) = True := eq_true (by omega)
      have hbr := (bt_range s (3 - k)).1
      have hbr2 := (bt_range s (3 - k)).2
      clear hP
      go_wp2
      go_round
      case rel => exact ⟨k + 1, by omega, by rw [← HNX.out], by go_num⟩
      case measure => simp [intOf]; omega
    · obtain rfl : k = 4 := by omega
      rw [part_four]
      go_wp2
      go_ret
      exact ⟨rfl, rfl⟩

/-- No caps. -/
def zeroC : Value := .agg #[.int .i64 0, .int .u64 0, .int .u64 0, .bool false, .int .i64 0]
/-- The deferred closure, its frame having panicked for too few bytes: no caps, and false. -/
theorem catch_few (g : Nat) (n : Int) (a b c d e o : Value) (older : List PanicEntry) (w : World) (hb : w.heap[g]? = some (.cells #[a, b, c, d, e] 24 (0, 0))) (hq : w.heap[g + 1]? = some (.cells #[o] 4 (0, 0))) :
    CallsD Try.prog 15 #[.pointer (some ⟨g, 0, none⟩), .pointer (some ⟨g + 1, 0, none⟩)] (.panicking ({ v := .iface 41 (.agg #[.int .i64 n]), recovered := false } :: older)) w fun e u' w' =>
      e = .returned (.tuple #[]) ∧ u' = .panicking ({ v := .iface 41 (.agg #[.int .i64 n]), recovered := true } :: older) ∧
      w' = ((((((w.alloc (.cells #[.int .i64 n] 41)).setCell ⟨g, 0, none⟩ (.int .i64 0)).setCell ⟨g, 1, none⟩ (.int .u64 0)).setCell ⟨g, 2, none⟩ (.int .u64 0)).setCell ⟨g, 3, none⟩ (.bool false)).setCell ⟨g, 4, none⟩ (.int .i64 0)).setCell ⟨g + 1, 0, none⟩ (.bool false) := by
  have hta : ∀ (v : Value) (W : World), (Instr.typeAssert (.iface 41 v) 20 41 true).run Try.prog W = .ok (.tuple #[v, .bool true]) W := fun v W => by rfl
  refine callsD_of_wpS Try.func15 rfl fun c₀ cs hu => ?_
  apply wpS_seq
  apply wpS_region
  simp [wpOpsS, go_sem, recoverD, hu, Try.ntmps15, Exit.thenS, Array.replicate, List.replicate]
  refine wpS_of_wp (Code.wp_mono (Q := fun e a' w' => e = .normal ∧ a'.defers = [] ∧ w' = ((((((w.alloc (.cells #[.int .i64 n] 41)).setCell ⟨g, 0, none⟩ (.int .i64 0)).setCell ⟨g, 1, none⟩ (.int .u64 0)).setCell ⟨g, 2, none⟩ (.int .u64 0)).setCell ⟨g, 3, none⟩ (.bool false)).setCell ⟨g, 4, none⟩ (.int .i64 0)).setCell ⟨g + 1, 0, none⟩ (.bool false)) ?_ ?_)
  · rintro e a' w' ⟨rfl, hd, rfl⟩
    simp [bodyPostS, results, Try.results15, hd]
  clear hu
  have hA := (Below.refl w.heap.size w).alloc (Nat.le_refl _) (.cells #[.int .i64 n] 41)
  have hb' := (hA.block g (blk_lt hb)).trans hb
  have hq' := (hA.block (g + 1) (blk_lt hq)).trans hq
  obtain ⟨c0, c1, c2, c3, c4⟩ := box_cells hb'
  have z0 := blk_frozen hb' 0
  have z1 := blk_frozen hb' 1
  have z2 := blk_frozen hb' 2
  have z3 := blk_frozen hb' 3
  have z4 := blk_frozen hb' 4
  have q0 : (w.alloc (.cells #[.int .i64 n] 41)).cell? ⟨g + 1, 0, none⟩ = some o := (blk_cell hq' 0).trans rfl
  have y0 := blk_frozen hq' 0
  clear hA hb' hq' hb hq
  go_wp2

/-- The deferred closure, its frame returning: it finds nothing. -/
theorem catch_idle (p q : Addr) (w : World) :
    CallsD Try.prog 15 #[.pointer (some p), .pointer (some q)] .returning w fun e u' w' => e = .returned (.tuple #[]) ∧ u' = .returning ∧ w' = w := by
  refine callsD_of_wpS Try.func15 rfl fun c₀ cs hu => ?_
  apply wpS_seq
  apply wpS_region
  simp [wpOpsS, go_sem, recoverD, hu, Try.ntmps15, Exit.thenS, Array.replicate, List.replicate]
  refine wpS_of_wp (Code.wp_mono (Q := fun e a' w' => e = .normal ∧ a'.defers = [] ∧ w' = w) ?_ ?_)
  · rintro e a' w' ⟨rfl, hd, rfl⟩
    cases c₀
    simp_all [bodyPostS, results, Try.results15]
  clear hu
  go_wp2

/-- How Get ends: with what the bytes say, or with nothing and false. -/
def GetEnd (r : Int × Int × Int × Bool × Int × Bool) (w : World) (e : Ending) (w' : World) : Prop :=
  e = .returned (.tuple #[.agg #[.int .i64 r.1, .int .u64 r.2.1, .int .u64 r.2.2.1, .bool r.2.2.2.1, .int .i64 r.2.2.2.2.1], .bool r.2.2.2.2.2]) ∧ Below w.heap.size w w'

theorem box_set {w : World} {g : Nat} {a b c d e : Value} (h : w.heap[g]? = some (.cells #[a, b, c, d, e] 24 (0, 0))) (v : Value) :
    (w.setCell ⟨g, 0, none⟩ v).heap[g]? = some (.cells #[v, b, c, d, e] 24 (0, 0)) ∧ (w.setCell ⟨g, 1, none⟩ v).heap[g]? = some (.cells #[a, v, c, d, e] 24 (0, 0)) ∧
    (w.setCell ⟨g, 2, none⟩ v).heap[g]? = some (.cells #[a, b, v, d, e] 24 (0, 0)) ∧ (w.setCell ⟨g, 3, none⟩ v).heap[g]? = some (.cells #[a, b, c, v, e] 24 (0, 0)) ∧
    (w.setCell ⟨g, 4, none⟩ v).heap[g]? = some (.cells #[a, b, c, d, v] 24 (0, 0)) :=
  ⟨blk_set h 0 v, blk_set h 1 v, blk_set h 2 v, blk_set h 3 v, blk_set h 4 v⟩

/-- Behind a panic for too few bytes, at the door. -/
theorem door_few (g : Nat) (n : Int) (a b c d e o : Value) (w wz : World) (tmps : Array Value) (h2 : tmps[2]? = some (.pointer (some ⟨g, 0, none⟩))) (h3 : tmps[3]? = some (.pointer (some ⟨g + 1, 0, none⟩)))
    (hb : wz.heap[g]? = some (.cells #[a, b, c, d, e] 24 (0, 0))) (hq : wz.heap[g + 1]? = some (.cells #[o] 4 (0, 0))) (hB : Below g w wz) (hg : w.heap.size = g) :
    Leaves Try.prog Try.f8 tmps (GetEnd (0, 0, 0, false, 0, false) w) [{ target := .fn (.func 15) #[.pointer (some ⟨g, 0, none⟩), .pointer (some ⟨g + 1, 0, none⟩)], args := #[] }] (.panicking [{ v := .iface 41 (.agg #[.int .i64 n]), recovered := false }]) wz := by
  refine leaves_cons (f := 15) (args := #[.pointer (some ⟨g, 0, none⟩), .pointer (some ⟨g + 1, 0, none⟩)]) (by simp) (by simp [go_sem]) ?_
  refine (catch_few g n a b c d e o [] wz hb hq).mono ?_
  rintro e' u' w' ⟨rfl, rfl, hw⟩
  have hA := (Below.refl wz.heap.size wz).alloc (Nat.le_refl _) (.cells #[.int .i64 n] 41)
  have hb0 := (hA.block g (blk_lt hb)).trans hb
  have hq0 := (hA.block (g + 1) (blk_lt hq)).trans hq
  have hB0 : Below g w (wz.alloc (.cells #[.int .i64 n] 41)) := hB.alloc (Nat.le_of_lt (blk_lt hb)) _
  generalize wz.alloc (.cells #[.int .i64 n] 41) = w1 at *
  have hb1 := (box_set hb0 (.int .i64 0)).1
  have hb2 := (box_set hb1 (.int .u64 0)).2.1
  have hb3 := (box_set hb2 (.int .u64 0)).2.2.1
  have hb4 := (box_set hb3 (.bool false)).2.2.2.1
  have hb5 := (box_set hb4 (.int .i64 0)).2.2.2.2
  have hb6 := blk_far hb5 (p := ⟨g + 1, 0, none⟩) (by simp) (.bool false)
  have hq5 := blk_far (blk_far (blk_far (blk_far (blk_far hq0 (p := ⟨g, 0, none⟩) (by simp) (.int .i64 0)) (p := ⟨g, 1, none⟩) (by simp) (.int .u64 0)) (p := ⟨g, 2, none⟩) (by simp) (.int .u64 0)) (p := ⟨g, 3, none⟩) (by simp) (.bool false)) (p := ⟨g, 4, none⟩) (by simp) (.int .i64 0)
  have hq6 : _ = some (Obj.cells #[.bool false] 4 (0, 0)) := blk_set hq5 0 (.bool false)
  have hB6 := (((((hB0.setCell (p := ⟨g, 0, none⟩) (Nat.le_refl _) (.int .i64 0)).setCell (p := ⟨g, 1, none⟩) (Nat.le_refl _) (.int .u64 0)).setCell (p := ⟨g, 2, none⟩) (Nat.le_refl _) (.int .u64 0)).setCell (p := ⟨g, 3, none⟩) (Nat.le_refl _) (.bool false)).setCell (p := ⟨g, 4, none⟩) (Nat.le_refl _) (.int .i64 0)).setCell (p := ⟨g + 1, 0, none⟩) (Nat.le_succ _) (.bool false)
  rw [← hw] at hb6 hq6 hB6
  clear hw
  obtain ⟨c0, c1, c2, c3, c4⟩ := box_cells hb6
  have q0 : w'.cell? ⟨g + 1, 0, none⟩ = some (.bool false) := (blk_cell hq6 0).trans rfl
  have hfin : GetEnd (0, 0, 0, false, 0, false) w (.returned (.tuple #[.agg #[.int .i64 0, .int .u64 0, .int .u64 0, .bool false, .int .i64 0], .bool false])) w' := ⟨rfl, by rw [hg]; exact hB6⟩
  have HF := Aside0.mk hfin
  clear hfin
  simp [Leaves, settle, results, Try.results8, go_sem, h2, h3, c0, c1, c2, c3, c4, q0, HF.out]

/-- The caps that bytes tell, if there are bytes enough. -/
def verOf (s : ByteArray) : Int := w4 s 0 / 16777216
def effOf (s : ByteArray) : Bool := decide (w4 s 0 % 2 > 0)
def permOf (s : ByteArray) : Int := w4 s 4 + w4 s 12 * 4294967296
def inhOf (s : ByteArray) : Int := w4 s 8 + w4 s 16 * 4294967296
def rootOf (s : ByteArray) : Int := if verOf s = 3 then w4 s 20 else 0
def getS (s : ByteArray) : Int × Int × Int × Bool × Int × Bool :=
  if s.size = 0 then (0, 0, 0, false, 0, true) else if s.size < 20 ∨ (verOf s = 3 ∧ s.size < 24) then (0, 0, 0, false, 0, false)
  else if putB (verOf s) (permOf s) (inhOf s) (effOf s) (rootOf s) = s then (verOf s, permOf s, inhOf s, effOf s, rootOf s, true) else (0, 0, 0, false, 0, false)

/-- What lies in memory while Get runs: the caps, the bool, what the reader has left; all that was there is as it was. -/
structure St (g : Nat) (w wz : World) (t : ByteArray) (a b c d e : Value) : Prop where
  below : Below g w wz
  caps : wz.heap[g]? = some (.cells #[a, b, c, d, e] 24 (0, 0))
  ok : wz.heap[g + 1]? = some (.cells #[.bool false] 4 (0, 0))
  left : wz.heap[g + 1 + 1]? = some (.cells #[.string t] 45 (0, 0))
section
variable {g : Nat} {w wz : World} {t : ByteArray} {a b c d e : Value}
theorem St.s0 (h : St g w wz t a b c d e) (v : Value) : St g w (wz.setCell ⟨g, 0, none⟩ v) t v b c d e :=
  ⟨h.below.setCell (p := ⟨g, 0, none⟩) (Nat.le_refl _) _, (box_set h.caps v).1, blk_far h.ok (p := ⟨g, 0, none⟩) (by simp) v, blk_far h.left (p := ⟨g, 0, none⟩) (by simp; omega) v⟩
theorem St.s1 (h : St g w wz t a b c d e) (v : Value) : St g w (wz.setCell ⟨g, 1, none⟩ v) t a v c d e :=
  ⟨h.below.setCell (p := ⟨g, 1, none⟩) (Nat.le_refl _) _, (box_set h.caps v).2.1, blk_far h.ok (p := ⟨g, 1, none⟩) (by simp) v, blk_far h.left (p := ⟨g, 1, none⟩) (by simp; omega) v⟩
theorem St.s2 (h : St g w wz t a b c d e) (v : Value) : St g w (wz.setCell ⟨g, 2, none⟩ v) t a b v d e :=
  ⟨h.below.setCell (p := ⟨g, 2, none⟩) (Nat.le_refl _) _, (box_set h.caps v).2.2.1, blk_far h.ok (p := ⟨g, 2, none⟩) (by simp) v, blk_far h.left (p := ⟨g, 2, none⟩) (by simp; omega) v⟩
theorem St.s3 (h : St g w wz t a b c d e) (v : Value) : St g w (wz.setCell ⟨g, 3, none⟩ v) t a b c v e :=
  ⟨h.below.setCell (p := ⟨g, 3, none⟩) (Nat.le_refl _) _, (box_set h.caps v).2.2.2.1, blk_far h.ok (p := ⟨g, 3, none⟩) (by simp) v, blk_far h.left (p := ⟨g, 3, none⟩) (by simp; omega) v⟩
theorem St.s4 (h : St g w wz t a b c d e) (v : Value) : St g w (wz.setCell ⟨g, 4, none⟩ v) t a b c d v :=
  ⟨h.below.setCell (p := ⟨g, 4, none⟩) (Nat.le_refl _) _, (box_set h.caps v).2.2.2.2, blk_far h.ok (p := ⟨g, 4, none⟩) (by simp) v, blk_far h.left (p := ⟨g, 4, none⟩) (by simp; omega) v⟩
theorem St.drew (h : St g w wz t a b c d e) : St g w wz.drew t a b c d e := ⟨below_drew h.below, h.caps, h.ok, h.left⟩
theorem St.next (h : St g w wz t a b c d e) (t' : ByteArray) : St g w (wz.setCell ⟨g + 1 + 1, 0, none⟩ (.string t')) t' a b c d e :=
  ⟨h.below.setCell (p := ⟨g + 1 + 1, 0, none⟩) (by show g ≤ g + 1 + 1; omega) _, blk_far h.caps (p := ⟨g + 1 + 1, 0, none⟩) (by simp; omega) _, blk_far h.ok (p := ⟨g + 1 + 1, 0, none⟩) (by simp) _, blk_set h.left 0 _⟩
theorem St.word {s : ByteArray} {k : Nat} (h : St g w wz (s.extract k s.size) a b c d e) (m : Nat) (r : Int) (hk : k + 4 ≤ s.size) (hs : s.size ≤ 140737488351232) (hm : k + 4 = m) (hr : w4 s k = r) :
    Calls Try.prog 16 #[.pointer (some ⟨g + 1 + 1, 0, none⟩)] wz fun x w' => x = .returned (.int .u64 r) ∧ St g w w' (s.extract m s.size) a b c d e := by
  subst hm
  subst hr
  have hz : (s.extract k s.size).size = s.size - k := by rw [ByteArray.size_extract]; omega
  refine (word_some (g + 1 + 1) (s.extract k s.size) (by omega) (by omega) wz h.left).mono fun x w' ⟨hx, hw⟩ => ⟨?_, ?_⟩
  · have := w4_extract s k 0 (by omega)
    rw [hx]
    simp only [Int.natCast_zero, Nat.add_zero] at this
    rw [this]
  · rw [← hw]
    have e2 : (s.extract k s.size).extract 4 (s.extract k s.size).size = s.extract (k + 4) s.size := by
      rw [ByteArray.extract_extract, ByteArray.size_extract]
      congr 1
      omega
    rw [e2]
    exact h.next _
theorem St.few {s : ByteArray} {k : Nat} (h : St g w wz (s.extract k s.size) a b c d e) (hk : s.size < k + 4) :
    Calls Try.prog 16 #[.pointer (some ⟨g + 1 + 1, 0, none⟩)] wz fun x w' => x = .panicked [{ v := .iface 41 (.agg #[.int .i64 (s.extract k s.size).size]), recovered := false }] ∧ wz = w' :=
  word_few (g + 1 + 1) (s.extract k s.size) (by rw [ByteArray.size_extract]; omega) wz h.left
theorem St.keep {w2 : World} (h : St g w wz t a b c d e) (hb : Below wz.heap.size wz w2) : St g w w2 t a b c d e :=
  ⟨below_then h.below (Nat.le_of_lt (blk_lt h.caps)) hb, blk_below h.caps hb, blk_below h.ok hb, blk_below h.left hb⟩
theorem St.cells (h : St g w wz t a b c d e) : wz.cell? ⟨g, 0, none⟩ = some a ∧ wz.cell? ⟨g, 1, none⟩ = some b ∧ wz.cell? ⟨g, 2, none⟩ = some c ∧ wz.cell? ⟨g, 3, none⟩ = some d ∧ wz.cell? ⟨g, 4, none⟩ = some e ∧
    wz.cell? ⟨g + 1, 0, none⟩ = some (.bool false) := by
  obtain ⟨x0, x1, x2, x3, x4⟩ := box_cells h.caps
  exact ⟨x0, x1, x2, x3, x4, (blk_cell h.ok 0).trans rfl⟩
theorem St.free (h : St g w wz t a b c d e) (i : Nat) : wz.frozen? ⟨g, i, none⟩ = false := blk_frozen h.caps i
theorem St.free' (h : St g w wz t a b c d e) (i : Nat) : wz.frozen? ⟨g + 1, i, none⟩ = false := blk_frozen h.ok i
theorem St.door (h : St g w wz t a b c d e) (n : Int) (tmps : Array Value) (h2 : tmps[2]? = some (.pointer (some ⟨g, 0, none⟩))) (h3 : tmps[3]? = some (.pointer (some ⟨g + 1, 0, none⟩))) (hg : w.heap.size = g) {s : ByteArray} (hz : ¬ s.size = 0)
    (hx : s.size < 20 ∨ (verOf s = 3 ∧ s.size < 24)) :
    Leaves Try.prog Try.f8 tmps (GetEnd (getS s) w) [{ target := .fn (.func 15) #[.pointer (some ⟨g, 0, none⟩), .pointer (some ⟨g + 1, 0, none⟩)], args := #[] }] (.panicking [{ v := .iface 41 (.agg #[.int .i64 n]), recovered := false }]) wz := by
  have : getS s = (0, 0, 0, false, 0, false) := by unfold getS; rw [if_neg hz, if_pos hx]
  rw [this]
  exact door_few g n a b c d e _ w wz tmps h2 h3 h.caps h.ok h.below hg
end
/-- The door, nothing having gone wrong. -/
theorem door_idle (g : Nat) (a b c : Int) (d : Bool) (e : Int) (o : Bool) (w wz : World) (tmps : Array Value) (h2 : tmps[2]? = some (.pointer (some ⟨g, 0, none⟩))) (h3 : tmps[3]? = some (.pointer (some ⟨g + 1, 0, none⟩)))
    (hb : wz.heap[g]? = some (.cells #[.int .i64 a, .int .u64 b, .int .u64 c, .bool d, .int .i64 e] 24 (0, 0))) (hq : wz.heap[g + 1]? = some (.cells #[.bool o] 4 (0, 0))) (hB : Below g w wz) (hg : w.heap.size = g) {r : Int × Int × Int × Bool × Int × Bool} (hr : r = (a, b, c, d, e, o)) :
    Leaves Try.prog Try.f8 tmps (GetEnd r w) [{ target := .fn (.func 15) #[.pointer (some ⟨g, 0, none⟩), .pointer (some ⟨g + 1, 0, none⟩)], args := #[] }] .returning wz := by
  refine leaves_cons (f := 15) (args := #[.pointer (some ⟨g, 0, none⟩), .pointer (some ⟨g + 1, 0, none⟩)]) (by simp) (by simp [go_sem]) ?_
  refine (catch_idle _ _ _).mono ?_
  rintro e' u' w' ⟨rfl, rfl, rfl⟩
  obtain ⟨c0, c1, c2, c3, c4⟩ := box_cells hb
  have q0 : w'.cell? ⟨g + 1, 0, none⟩ = some (.bool o) := (blk_cell hq 0).trans rfl
  have hfin : GetEnd r w (.returned (.tuple #[.agg #[.int .i64 a, .int .u64 b, .int .u64 c, .bool d, .int .i64 e], .bool o])) w' := ⟨by rw [hr], by rw [hg]; exact hB⟩
  have HF := Aside0.mk hfin
  clear hfin
  simp [Leaves, settle, results, Try.results8, go_sem, h2, h3, c0, c1, c2, c3, c4, q0, HF.out]
theorem get_empty (w : World) : Calls Try.prog 8 #[.string ⟨#[]⟩] w (GetEnd (0, 0, 0, false, 0, true) w) := by
  have hmf : ∀ (fn : Fn) (first cap : Array Value) (w : World), (Instr.makeFunc fn first cap).run Try.prog w = .ok (.func fn first cap) w := fun _ _ _ _ => rfl
  go_enter_defers Try.func8, Try.ntmps8
  go_wp2
  refine leaves_cons (f := 15) (args := #[.pointer (some ⟨w.heap.size, 0, none⟩), .pointer (some ⟨w.heap.size + 1, 0, none⟩)]) (by simp) (by simp [go_sem]) ?_
  refine (catch_idle _ _ _).mono ?_
  rintro e u' w'' ⟨rfl, rfl, rfl⟩
  simp [Leaves, settle, results, Try.results8, go_sem]
  exact ⟨rfl, ((Below.refl _ _).alloc (Nat.le_refl _) _).alloc (by simp) _⟩

set_option maxHeartbeats 4000000 in
theorem get_some (s : ByteArray) (h0 : ¬ s.size = 0) (hs : s.size ≤ 140737488351232) (w : World) : Calls Try.prog 8 #[.string s] w (GetEnd (getS s) w) := by
  have hmf : ∀ (fn : Fn) (first cap : Array Value) (w : World), (Instr.makeFunc fn first cap).run Try.prog w = .ok (.func fn first cap) w := fun _ _ _ _ => rfl
  have hne : s.toList.isEmpty = false := by have := toList_nil h0; simpa using this
  have hne2 : (s.toList == []) = false := beq_eq_false_iff_ne.mpr (toList_nil h0)
  have hu24 := Try.underlying24
  have hu45 := Try.underlying45
  go_enter_defers Try.func8, Try.ntmps8
  go_wp2_with fail
  have h1 : St w.heap.size w (((w.alloc (.cells #[.int .i64 0, .int .u64 0, .int .u64 0, .bool false, .int .i64 0] 24)).alloc (.cells #[.bool false] 4)).alloc (.cells #[.string s] 45)) (s.extract 0 s.size) (.int .i64 0) (.int .u64 0) (.int .u64 0) (.bool false) (.int .i64 0) := by
    refine ⟨(((Below.refl _ _).alloc (Nat.le_refl _) _).alloc (by simp) _).alloc (by simp; omega) _, blk_alloc (blk_alloc (heap_alloc_new _ _) _) _, ?_, ?_⟩
    · exact blk_alloc (by have := heap_alloc_new (w.alloc (.cells #[.int .i64 0, .int .u64 0, .int .u64 0, .bool false, .int .i64 0] 24)) (.cells #[.bool false] 4); simpa using this) _
    · have := heap_alloc_new ((w.alloc (.cells #[.int .i64 0, .int .u64 0, .int .u64 0, .bool false, .int .i64 0] 24)).alloc (.cells #[.bool false] 4)) (.cells #[.string s] 45)
      rw [ByteArray.extract_zero_size]
      simpa using this
  generalize ((w.alloc (.cells #[.int .i64 0, .int .u64 0, .int .u64 0, .bool false, .int .i64 0] 24)).alloc (.cells #[.bool false] 4)).alloc (.cells #[.string s] 45) = w0 at *
  generalize hg : w.heap.size = g at *
  by_cases hlt : s.size < 4
  · refine (h1.few (by omega)).mono ?_
    rintro e w1 ⟨rfl, rfl⟩
    exact h1.door _ _ rfl rfl hg h0 (.inl (by omega))
  refine (h1.word 4 (w4 s 0) (by omega) hs rfl rfl).mono ?_
  rintro e w1 ⟨rfl, h2⟩
  clear h1
  have hand := and_one (w4 s 0) (w4_range s 0).1 (w4_range s 0).2
  have hn0 := (w4_range s 0).1
  have hn0' := (w4_range s 0).2
  obtain ⟨c0, c1, c2, c3, c4, c5⟩ := h2.cells
  have z0 := h2.free 0
  have z3 := h2.free 3
  go_wp2_with fail
  have h3 := (h2.s0 (.int .i64 (w4 s 0 / 16777216))).s3 (.bool (decide (0 < w4 s 0 % 2)))
  clear h2 c0 c1 c2 c3 c4 c5 z0 z3 hand
  generalize (w1.setCell ⟨g, 0, none⟩ (.int .i64 (w4 s 0 / 16777216))).setCell ⟨g, 3, none⟩ (.bool (decide (0 < w4 s 0 % 2))) = w2 at *
  by_cases hlt2 : s.size < 8
  · refine (h3.few (by omega)).mono ?_
    rintro e w1 ⟨rfl, rfl⟩
    exact h3.door _ _ rfl rfl hg h0 (.inl (by omega))
  refine (h3.word 8 (w4 s 4) (by omega) hs rfl rfl).mono ?_
  rintro e w3 ⟨rfl, h4⟩
  clear h3
  go_wp2_with fail
  by_cases hlt3 : s.size < 12
  · refine (h4.few (by omega)).mono ?_
    rintro e w1 ⟨rfl, rfl⟩
    exact h4.door _ _ rfl rfl hg h0 (.inl (by omega))
  refine (h4.word 12 (w4 s 8) (by omega) hs rfl rfl).mono ?_
  rintro e w4_ ⟨rfl, h5⟩
  clear h4
  obtain ⟨c0, c1, c2, c3, c4, c5⟩ := h5.cells
  have z1 := h5.free 1
  have z2 := h5.free 2
  go_wp2_with fail
  have h6 := (h5.s1 (.int .u64 (w4 s 4))).s2 (.int .u64 (w4 s 8))
  clear h5 c0 c1 c2 c3 c4 c5 z1 z2
  generalize (w4_.setCell ⟨g, 1, none⟩ (.int .u64 (w4 s 4))).setCell ⟨g, 2, none⟩ (.int .u64 (w4 s 8)) = w5 at *
  obtain ⟨c0, c1, c2, c3, c4, c5⟩ := h6.cells
  have z1 := h6.free 1
  have hn4 := (w4_range s 4).1
  have hn4' := (w4_range s 4).2
  have hn12 := (w4_range s 12).1
  have hn12' := (w4_range s 12).2
  by_cases hlt16 : s.size < 16
  · refine wp_region_any (by kernel_rfl) ?_
    try (change wpAny _ _ _ _ _ _ _ (World.drew _))
    refine wpAny_ready (rs := [0, 2]) (by kernel_rfl) (by simp) ?_
    refine AllReady.cons rfl (fun K hK => ?_) ?_
    · go_simp
      refine hK _ _ ?_
      clear hK K
      refine wpAny_ready (rs := [1, 2]) (by kernel_rfl) (by simp) ?_
      refine AllReady.cons rfl (fun K hK => ?_) ?_
      · go_simp
        refine hK _ _ ?_
        clear hK K
        refine wpAny_ready (rs := [2]) (by kernel_rfl) (by simp) ?_
        refine AllReady.cons rfl (fun K hK => ?_) ?_
        · go_simp
          refine hK _ _ ?_
          clear hK K
          refine wpAny_ready (rs := [3]) (by kernel_rfl) (by simp) ?_
          refine AllReady.cons rfl (fun K hK => ?_) ?_
          · go_simp
            refine (h6.drew.few (by omega)).mono ?_
            rintro e wx ⟨rfl, rfl⟩
            exact h6.drew.door _ _ rfl rfl hg h0 (.inl (by omega))
          exact AllReady.nil
        exact AllReady.nil
      refine AllReady.cons rfl (fun K hK => ?_) ?_
      · go_simp
        refine hK _ _ ?_
        clear hK K
        refine wpAny_ready (rs := [1, 3]) (by kernel_rfl) (by simp) ?_
        refine AllReady.cons rfl (fun K hK => ?_) ?_
        · go_simp
          refine hK _ _ ?_
          clear hK K
          refine wpAny_ready (rs := [3]) (by kernel_rfl) (by simp) ?_
          refine AllReady.cons rfl (fun K hK => ?_) ?_
          · go_simp
            refine (h6.drew.few (by omega)).mono ?_
            rintro e wx ⟨rfl, rfl⟩
            exact h6.drew.door _ _ rfl rfl hg h0 (.inl (by omega))
          exact AllReady.nil
        refine AllReady.cons rfl (fun K hK => ?_) ?_
        · go_simp
          refine (h6.drew.few (by omega)).mono ?_
          rintro e wx ⟨rfl, rfl⟩
          exact h6.drew.door _ _ rfl rfl hg h0 (.inl (by omega))
        exact AllReady.nil
      exact AllReady.nil
    refine AllReady.cons rfl (fun K hK => ?_) ?_
    · go_simp
      refine hK _ _ ?_
      clear hK K
      refine wpAny_ready (rs := [0, 3]) (by kernel_rfl) (by simp) ?_
      refine AllReady.cons rfl (fun K hK => ?_) ?_
      · go_simp
        refine hK _ _ ?_
        clear hK K
        refine wpAny_ready (rs := [1, 3]) (by kernel_rfl) (by simp) ?_
        refine AllReady.cons rfl (fun K hK => ?_) ?_
        · go_simp
          refine hK _ _ ?_
          clear hK K
          refine wpAny_ready (rs := [3]) (by kernel_rfl) (by simp) ?_
          refine AllReady.cons rfl (fun K hK => ?_) ?_
          · go_simp
            refine (h6.drew.few (by omega)).mono ?_
            rintro e wx ⟨rfl, rfl⟩
            exact h6.drew.door _ _ rfl rfl hg h0 (.inl (by omega))
          exact AllReady.nil
        refine AllReady.cons rfl (fun K hK => ?_) ?_
        · go_simp
          refine (h6.drew.few (by omega)).mono ?_
          rintro e wx ⟨rfl, rfl⟩
          exact h6.drew.door _ _ rfl rfl hg h0 (.inl (by omega))
        exact AllReady.nil
      refine AllReady.cons rfl (fun K hK => ?_) ?_
      · go_simp
        refine (h6.drew.few (by omega)).mono ?_
        rintro e wx ⟨rfl, rfl⟩
        exact h6.drew.door _ _ rfl rfl hg h0 (.inl (by omega))
      exact AllReady.nil
    exact AllReady.nil
  have hor := wrap_high (w4 s 12) (w4 s 4) hn12 hn12' hn4 hn4'
  have HOR := Aside0.mk hor
  clear hor
  go_cut [29] from 29 to 35 (fun v29 wc => Aside0 (St g w wc (s.extract 16 s.size) (.int .i64 (w4 s 0 / 16777216)) (.int .u64 (permOf s)) (.int .u64 (w4 s 8)) (.bool (decide (0 < w4 s 0 % 2))) (.int .i64 0)))
  case first =>
    rename_i J K' hJ hK'
    refine wp_region_noPanic ?_
    go_region_with (go_at_call 16; refine (h6.drew.word 16 (w4 s 12) (by omega) hs rfl rfl).mono ?_; rintro e wx ⟨rfl, hx⟩; obtain ⟨d0, d1, d2, d3, d4, d5⟩ := hx.cells; have y1 := hx.free 1)
    all_goals exact hK' _ _ (Met.intro (hJ _ _ ⟨_, _, _, _, _, _, _, ⟨by rw [HOR.out]; exact hx.s1 _⟩, rfl⟩))
  case rest =>
  obtain ⟨h7⟩ := hcut
  clear h6 HOR c0 c1 c2 c3 c4 c5 z1 hn4 hn4' hn12 hn12'
  obtain ⟨c0, c1, c2, c3, c4, c5⟩ := h7.cells
  have z2 := h7.free 2
  have hn8 := (w4_range s 8).1
  have hn8' := (w4_range s 8).2
  have hn16 := (w4_range s 16).1
  have hn16' := (w4_range s 16).2
  go_wp2_with fail
  by_cases hlt20 : s.size < 20
  · refine wp_region_any (by kernel_rfl) ?_
    try (change wpAny _ _ _ _ _ _ _ (World.drew _))
    refine wpAny_ready (rs := [0, 2]) (by kernel_rfl) (by simp) ?_
    refine AllReady.cons rfl (fun K hK => ?_) ?_
    · go_simp
      refine hK _ _ ?_
      clear hK K
      refine wpAny_ready (rs := [1, 2]) (by kernel_rfl) (by simp) ?_
      refine AllReady.cons rfl (fun K hK => ?_) ?_
      · go_simp
        refine hK _ _ ?_
        clear hK K
        refine wpAny_ready (rs := [2]) (by kernel_rfl) (by simp) ?_
        refine AllReady.cons rfl (fun K hK => ?_) ?_
        · go_simp
          refine hK _ _ ?_
          clear hK K
          refine wpAny_ready (rs := [3]) (by kernel_rfl) (by simp) ?_
          refine AllReady.cons rfl (fun K hK => ?_) ?_
          · go_simp
            refine (h7.drew.few (by omega)).mono ?_
            rintro e wx ⟨rfl, rfl⟩
            exact h7.drew.door _ _ rfl rfl hg h0 (.inl (by omega))
          exact AllReady.nil
        exact AllReady.nil
      refine AllReady.cons rfl (fun K hK => ?_) ?_
      · go_simp
        refine hK _ _ ?_
        clear hK K
        refine wpAny_ready (rs := [1, 3]) (by kernel_rfl) (by simp) ?_
        refine AllReady.cons rfl (fun K hK => ?_) ?_
        · go_simp
          refine hK _ _ ?_
          clear hK K
          refine wpAny_ready (rs := [3]) (by kernel_rfl) (by simp) ?_
          refine AllReady.cons rfl (fun K hK => ?_) ?_
          · go_simp
            refine (h7.drew.few (by omega)).mono ?_
            rintro e wx ⟨rfl, rfl⟩
            exact h7.drew.door _ _ rfl rfl hg h0 (.inl (by omega))
          exact AllReady.nil
        refine AllReady.cons rfl (fun K hK => ?_) ?_
        · go_simp
          refine (h7.drew.few (by omega)).mono ?_
          rintro e wx ⟨rfl, rfl⟩
          exact h7.drew.door _ _ rfl rfl hg h0 (.inl (by omega))
        exact AllReady.nil
      exact AllReady.nil
    refine AllReady.cons rfl (fun K hK => ?_) ?_
    · go_simp
      refine hK _ _ ?_
      clear hK K
      refine wpAny_ready (rs := [0, 3]) (by kernel_rfl) (by simp) ?_
      refine AllReady.cons rfl (fun K hK => ?_) ?_
      · go_simp
        refine hK _ _ ?_
        clear hK K
        refine wpAny_ready (rs := [1, 3]) (by kernel_rfl) (by simp) ?_
        refine AllReady.cons rfl (fun K hK => ?_) ?_
        · go_simp
          refine hK _ _ ?_
          clear hK K
          refine wpAny_ready (rs := [3]) (by kernel_rfl) (by simp) ?_
          refine AllReady.cons rfl (fun K hK => ?_) ?_
          · go_simp
            refine (h7.drew.few (by omega)).mono ?_
            rintro e wx ⟨rfl, rfl⟩
            exact h7.drew.door _ _ rfl rfl hg h0 (.inl (by omega))
          exact AllReady.nil
        refine AllReady.cons rfl (fun K hK => ?_) ?_
        · go_simp
          refine (h7.drew.few (by omega)).mono ?_
          rintro e wx ⟨rfl, rfl⟩
          exact h7.drew.door _ _ rfl rfl hg h0 (.inl (by omega))
        exact AllReady.nil
      refine AllReady.cons rfl (fun K hK => ?_) ?_
      · go_simp
        refine (h7.drew.few (by omega)).mono ?_
        rintro e wx ⟨rfl, rfl⟩
        exact h7.drew.door _ _ rfl rfl hg h0 (.inl (by omega))
      exact AllReady.nil
    exact AllReady.nil
  have hor := wrap_high (w4 s 16) (w4 s 8) hn16 hn16' hn8 hn8'
  have HOR := Aside0.mk hor
  clear hor
  go_cut [36] from 36 to 42 (fun v36 wc => Aside0 (St g w wc (s.extract 20 s.size) (.int .i64 (w4 s 0 / 16777216)) (.int .u64 (permOf s)) (.int .u64 (inhOf s)) (.bool (decide (0 < w4 s 0 % 2))) (.int .i64 0)))
  case first =>
    rename_i J K' hJ hK'
    refine wp_region_noPanic ?_
    go_region_with (go_at_call 16; refine (h7.drew.word 20 (w4 s 16) (by omega) hs rfl rfl).mono ?_; rintro e wx ⟨rfl, hx⟩; obtain ⟨d0, d1, d2, d3, d4, d5⟩ := hx.cells; have y1 := hx.free 2)
    all_goals exact hK' _ _ (Met.intro (hJ _ _ ⟨_, _, _, _, _, _, _, ⟨by rw [HOR.out]; exact hx.s2 _⟩, rfl⟩))
  case rest =>
  obtain ⟨h8⟩ := hcut
  clear h7 HOR c0 c1 c2 c3 c4 c5 z2 hn8 hn8' hn16 hn16'
  have hroot : rootOf s = if verOf s = 3 then w4 s 20 else 0 := rfl
  have HV : Aside0 (verOf s = w4 s 0 / 16777216) := ⟨rfl⟩
  have HU1 : Aside0 (u64b (permOf s) = true) := ⟨by have h1 := w4_range s 4; have h2 := w4_range s 12; unfold u64b permOf; simp; omega⟩
  have HU2 : Aside0 (u64b (inhOf s) = true) := ⟨by have h1 := w4_range s 8; have h2 := w4_range s 16; unfold u64b inhOf; simp; omega⟩
  by_cases hv : w4 s 0 / 16777216 = 3
  · have kv : (w4 s 0 / 16777216 == 3) = true := beq_iff_eq.mpr hv
    have HV3 : Aside0 (w4 s 0 / 16777216 = 3) := ⟨hv⟩
    have HR : Aside0 (rootOf s = w4 s 20) := ⟨by rw [hroot, HV.out, if_pos hv]⟩
    clear hv hroot
    obtain ⟨c0, c1, c2, c3, c4, c5⟩ := h8.cells
    go_wp2_with fail
    by_cases hlt24 : s.size < 24
    · refine (h8.few (by omega)).mono ?_
      rintro e w1 ⟨rfl, rfl⟩
      exact h8.door _ _ rfl rfl hg h0 (.inr ⟨HV.out.trans HV3.out, by omega⟩)
    refine (h8.word 24 (w4 s 20) (by omega) hs rfl rfl).mono ?_
    rintro e w9 ⟨rfl, h9a⟩
    clear h8 c0 c1 c2 c3 c4 c5
    have z4 := h9a.free 4
    have hn20 := (w4_range s 20).1
    have hn20' := (w4_range s 20).2
    obtain ⟨-, -, -, -, c4, -⟩ := h9a.cells
    have hloads := fun v => (h9a.s4 v).cells
    obtain ⟨c0, c1, c2, c3, c4', c5⟩ := (h9a.s4 (.int .i64 (w4 s 20))).cells
    clear hloads
    go_wp2_with fail
    have h10 := h9a.s4 (.int .i64 (w4 s 20))
    clear c0 c1 c2 c3 c4 c4' c5 z4 h9a hn20 hn20'
    generalize w9.setCell ⟨g, 4, none⟩ (.int .i64 (w4 s 20)) = w10 at *
    obtain ⟨c0, c1, c2, c3, c4, c5⟩ := h10.cells
    have z0 := h10.free 0
    have z1 := h10.free 1
    have z2 := h10.free 2
    have z3 := h10.free 3
    have z4 := h10.free 4
    have y0 := h10.free' 0
    refine (put_calls _ _ _ _ _ HU1.out HU2.out _).mono ?_
    rintro e wp ⟨rfl, hbp⟩
    have h9 : St g w wp (s.extract 24 s.size) (.int .i64 (w4 s 0 / 16777216)) (.int .u64 (permOf s)) (.int .u64 (inhOf s)) (.bool (decide (0 < w4 s 0 % 2))) (.int .i64 (w4 s 20)) := h10.keep hbp
    clear c0 c1 c2 c3 c4 c5 z0 z1 z2 z3 z4 y0 hbp h10
    obtain ⟨c0, c1, c2, c3, c4, c5⟩ := h9.cells
    have z0 := h9.free 0
    have z1 := h9.free 1
    have z2 := h9.free 2
    have z3 := h9.free 3
    have z4 := h9.free 4
    have y0 := h9.free' 0
    have hq : getS s = if putB (w4 s 0 / 16777216) (permOf s) (inhOf s) (decide (0 < w4 s 0 % 2)) (w4 s 20) = s then (w4 s 0 / 16777216, permOf s, inhOf s, decide (0 < w4 s 0 % 2), (w4 s 20), true) else (0, 0, 0, false, 0, false) := by
      unfold getS
      rw [if_neg h0, if_neg (by rw [HV.out]; omega), HR.out]
      rfl
    generalize putB (w4 s 0 / 16777216) (permOf s) (inhOf s) (decide (0 < w4 s 0 % 2)) (w4 s 20) = q at *
    by_cases he : q = s
    · have HQ := Aside0.mk hq
      rw [if_pos he] at HQ
      subst he
      have k1 : (q.toList == q.toList) = true := beq_self_eq_true _
      clear hq
      go_wp2
      exact door_idle g _ _ _ _ _ true w _ _ rfl rfl (blk_far (box_set (box_set (box_set (box_set (box_set h9.caps _).1 _).2.1 _).2.2.1 _).2.2.2.1 _).2.2.2.2 (p := ⟨g + 1, 0, none⟩) (by simp) _) (blk_set (blk_far (blk_far (blk_far (blk_far (blk_far h9.ok (p := ⟨g, 0, none⟩) (by simp) _) (p := ⟨g, 1, none⟩) (by simp) _) (p := ⟨g, 2, none⟩) (by simp) _) (p := ⟨g, 3, none⟩) (by simp) _) (p := ⟨g, 4, none⟩) (by simp) _) 0 _) ((((((h9.s0 _).s1 _).s2 _).s3 _).s4 _).below.setCell (p := ⟨g + 1, 0, none⟩) (Nat.le_succ _) _) hg HQ.out
    · have HQ := Aside0.mk hq
      rw [if_neg he] at HQ
      have k1 : (q.toList == s.toList) = false := beq_eq_false_iff_ne.mpr (fun h => he (toList_inj.1 h))
      clear hq
      go_wp2
      exact door_idle g _ _ _ _ _ false w _ _ rfl rfl (blk_far (box_set (box_set (box_set (box_set (box_set h9.caps _).1 _).2.1 _).2.2.1 _).2.2.2.1 _).2.2.2.2 (p := ⟨g + 1, 0, none⟩) (by simp) _) (blk_set (blk_far (blk_far (blk_far (blk_far (blk_far h9.ok (p := ⟨g, 0, none⟩) (by simp) _) (p := ⟨g, 1, none⟩) (by simp) _) (p := ⟨g, 2, none⟩) (by simp) _) (p := ⟨g, 3, none⟩) (by simp) _) (p := ⟨g, 4, none⟩) (by simp) _) 0 _) ((((((h9.s0 _).s1 _).s2 _).s3 _).s4 _).below.setCell (p := ⟨g + 1, 0, none⟩) (Nat.le_succ _) _) hg HQ.out
  · have kv : (w4 s 0 / 16777216 == 3) = false := beq_eq_false_iff_ne.mpr hv
    have HVN : Aside0 (¬ w4 s 0 / 16777216 = 3) := ⟨hv⟩
    have HR : Aside0 (rootOf s = 0) := ⟨by rw [hroot, HV.out, if_neg hv]⟩
    clear hv hroot
    obtain ⟨c0, c1, c2, c3, c4, c5⟩ := h8.cells
    have z0 := h8.free 0
    have z1 := h8.free 1
    have z2 := h8.free 2
    have z3 := h8.free 3
    have z4 := h8.free 4
    have y0 := h8.free' 0
    go_wp2_with fail
    refine (put_calls _ _ _ _ _ HU1.out HU2.out _).mono ?_
    rintro e wp ⟨rfl, hbp⟩
    have h9 : St g w wp (s.extract 20 s.size) (.int .i64 (w4 s 0 / 16777216)) (.int .u64 (permOf s)) (.int .u64 (inhOf s)) (.bool (decide (0 < w4 s 0 % 2))) (.int .i64 0) := h8.keep hbp
    clear c0 c1 c2 c3 c4 c5 z0 z1 z2 z3 z4 y0 hbp h8
    obtain ⟨c0, c1, c2, c3, c4, c5⟩ := h9.cells
    have z0 := h9.free 0
    have z1 := h9.free 1
    have z2 := h9.free 2
    have z3 := h9.free 3
    have z4 := h9.free 4
    have y0 := h9.free' 0
    have hq : getS s = if putB (w4 s 0 / 16777216) (permOf s) (inhOf s) (decide (0 < w4 s 0 % 2)) 0 = s then (w4 s 0 / 16777216, permOf s, inhOf s, decide (0 < w4 s 0 % 2), 0, true) else (0, 0, 0, false, 0, false) := by
      unfold getS
      rw [if_neg h0, if_neg (by rw [HV.out]; have := HVN.out; omega), HR.out]
      rfl
    generalize putB (w4 s 0 / 16777216) (permOf s) (inhOf s) (decide (0 < w4 s 0 % 2)) 0 = q at *
    by_cases he : q = s
    · have HQ := Aside0.mk hq
      rw [if_pos he] at HQ
      subst he
      have k1 : (q.toList == q.toList) = true := beq_self_eq_true _
      clear hq
      go_wp2
      exact door_idle g _ _ _ _ _ true w _ _ rfl rfl (blk_far (box_set (box_set (box_set (box_set (box_set h9.caps _).1 _).2.1 _).2.2.1 _).2.2.2.1 _).2.2.2.2 (p := ⟨g + 1, 0, none⟩) (by simp) _) (blk_set (blk_far (blk_far (blk_far (blk_far (blk_far h9.ok (p := ⟨g, 0, none⟩) (by simp) _) (p := ⟨g, 1, none⟩) (by simp) _) (p := ⟨g, 2, none⟩) (by simp) _) (p := ⟨g, 3, none⟩) (by simp) _) (p := ⟨g, 4, none⟩) (by simp) _) 0 _) ((((((h9.s0 _).s1 _).s2 _).s3 _).s4 _).below.setCell (p := ⟨g + 1, 0, none⟩) (Nat.le_succ _) _) hg HQ.out
    · have HQ := Aside0.mk hq
      rw [if_neg he] at HQ
      have k1 : (q.toList == s.toList) = false := beq_eq_false_iff_ne.mpr (fun h => he (toList_inj.1 h))
      clear hq
      go_wp2
      exact door_idle g _ _ _ _ _ false w _ _ rfl rfl (blk_far (box_set (box_set (box_set (box_set (box_set h9.caps _).1 _).2.1 _).2.2.1 _).2.2.2.1 _).2.2.2.2 (p := ⟨g + 1, 0, none⟩) (by simp) _) (blk_set (blk_far (blk_far (blk_far (blk_far (blk_far h9.ok (p := ⟨g, 0, none⟩) (by simp) _) (p := ⟨g, 1, none⟩) (by simp) _) (p := ⟨g, 2, none⟩) (by simp) _) (p := ⟨g, 3, none⟩) (by simp) _) (p := ⟨g, 4, none⟩) (by simp) _) 0 _) ((((((h9.s0 _).s1 _).s2 _).s3 _).s4 _).below.setCell (p := ⟨g + 1, 0, none⟩) (Nat.le_succ _) _) hg HQ.out

end Go.Proofs.Ytaaeidlekmeaiaa
