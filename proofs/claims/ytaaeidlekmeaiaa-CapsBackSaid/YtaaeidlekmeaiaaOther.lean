/- CapsOther's walk, case by case: version 0, 2, 3, another; a root or none. -/
import Derived.Test.YtaaeidlekmeaiaaLaws
import Derived.Outline
namespace Go.Proofs.Ytaaeidlekmeaiaa
set_option linter.unusedVariables false
set_option linter.unusedSimpArgs false
open Go.RowKit Go.Proofs.YtaaeidlekmeaiaaW.PrintWords
attribute [local go_sem high] GC.eqA24

theorem awake_calls (w : World) : Calls Try.prog 7 #[] w fun e w' => e = .returned (.bool true) ∧ Below w.heap.size w w' := GC.gripsacklaw11_awake.calls true w awake_true
theorem u64b_zero : u64b 0 = true := rfl
theorem get_none (w : World) : Calls Try.prog 8 #[.string ⟨#[]⟩] w fun e w' => e = .returned (.tuple #[.agg #[.int .i64 0, .int .u64 0, .int .u64 0, .bool false, .int .i64 0], .bool true]) ∧ Below w.heap.size w w' := get_empty w
/-- Two boxes of caps in memory; all that was there is as it was. -/
structure Two (g h : Nat) (w wz : World) (a b c d e : Value) : Prop where
  below : Below g w wz
  one : wz.heap[g]? = some (.cells #[a, b, c, d, e] 24 (0, 0))
  two : wz.heap[h]? = some (.cells #[.int .i64 0, .int .u64 0, .int .u64 0, .bool false, .int .i64 0] 24 (0, 0))
theorem Two.keep {g h : Nat} {w wz w2 : World} {a b c d e : Value} (t : Two g h w wz a b c d e) (hb : Below wz.heap.size wz w2) : Two g h w w2 a b c d e :=
  ⟨below_then t.below (Nat.le_of_lt (blk_lt t.one)) hb, blk_below t.one hb, blk_below t.two hb⟩
theorem Two.alloc {g h : Nat} {w wz : World} {a b c d e : Value} (t : Two g h w wz a b c d e) (o : Obj) : Two g h w (wz.alloc o) a b c d e :=
  t.keep ((Below.refl _ _).alloc (Nat.le_refl _) _)

set_option maxHeartbeats 4000000 in
set_option maxRecDepth 100000 in
theorem other_0  (w : World) : Calls Try.prog 6 #[.int .i64 0, .int .u32 0] w fun e w' => e = .returned (.bool true) ∧ Below w.heap.size w w' := by
  have hm : mayB 0 0 0 false 0 = true := by rfl
  have HM := Aside0.mk (fun w => may_calls 0 0 0 0 false w)
  rw [hm] at HM
  have hq : (putB 0 0 0 false 0).toList.isEmpty = true := by rw [putB_none (.inl rfl)]; simp [ByteArray.toList_eq]
  have hq2 : ((putB 0 0 0 false 0).toList == []) = true := by rw [putB_none (.inl rfl)]; simp [ByteArray.toList_eq]
  have HP := Aside0.mk (fun w => put_calls 0 0 0 0 false u64b_zero u64b_zero w)
  generalize putB 0 0 0 false 0 = q at *
  clear hm
  have HZ := Aside0.mk (fun w => may_calls 0 0 0 0 true w)
  rw [show mayB 0 0 0 true 0 = false from rfl] at HZ
  have hu24 := Try.underlying24
  go_enter Try.func6, Try.ntmps6
  go_wp2_with fail
  refine (get_none _).mono ?_
  rintro e w1 ⟨rfl, hb1⟩
  have B1 := (hb1.block w.heap.size (by simp)).trans (heap_alloc_new w _)
  have W1 : Aside0 (Below w.heap.size w w1) := ⟨((Below.refl w.heap.size w).alloc (Nat.le_refl _) _).trans (hb1.mono (by simp))⟩
  have L1 : w.heap.size < w1.heap.size := blk_lt B1
  clear hb1
  generalize hg : w.heap.size = g at *
  have T1 : Two g w1.heap.size w (w1.alloc (.cells #[.int .i64 0, .int .u64 0, .int .u64 0, .bool false, .int .i64 0] 24)) (.int .i64 0) (.int .u64 0) (.int .u64 0) (.bool false) (.int .i64 0) :=
    ⟨W1.out.alloc (Nat.le_of_lt L1) _, blk_alloc B1 _, heap_alloc_new _ _⟩
  generalize hh : w1.heap.size = h at *
  obtain ⟨c0, c1, c2, c3, c4⟩ := box_cells T1.one
  obtain ⟨x0, x1, x2, x3, x4⟩ := box_cells T1.two
  have L1' := Aside0.mk L1
  clear B1
  try clear L1
  go_wp2_with fail
  refine (HM.out _).mono ?_
  rintro e w2 ⟨rfl, hb2⟩
  have T2 := T1.keep hb2
  clear T1 hb2 c0 c1 c2 c3 c4 x0 x1 x2 x3 x4
  obtain ⟨c0, c1, c2, c3, c4⟩ := box_cells T2.one
  obtain ⟨x0, x1, x2, x3, x4⟩ := box_cells T2.two
  go_wp2_with fail
  refine (HP.out _).mono ?_
  rintro e w3 ⟨rfl, hb3⟩
  have T3 := T2.keep hb3
  clear T2 hb3 c0 c1 c2 c3 c4 x0 x1 x2 x3 x4
  obtain ⟨c0, c1, c2, c3, c4⟩ := box_cells T3.one
  obtain ⟨x0, x1, x2, x3, x4⟩ := box_cells T3.two
  go_wp2_with fail
  refine (HZ.out _).mono ?_
  rintro e w4 ⟨rfl, hb4⟩
  have T4 := T3.keep hb4
  clear T3 hb4 c0 c1 c2 c3 c4 x0 x1 x2 x3 x4
  go_wp2_with fail
  refine (awake_calls _).mono ?_
  rintro e w5 ⟨rfl, hb5⟩
  have T5 := T4.keep hb5
  go_wp2_with fail
  go_ret
  exact ⟨rfl, by rw [hg]; exact T5.below⟩

set_option maxHeartbeats 4000000 in
set_option maxRecDepth 100000 in
theorem other_0r (r : Int) (h0 : 0 ≤ r) (h1 : r ≤ 4294967295) (k1 : (r == 0) = false) (w : World) : Calls Try.prog 6 #[.int .i64 0, .int .u32 r] w fun e w' => e = .returned (.bool true) ∧ Below w.heap.size w w' := by
  have hm : mayB 0 0 0 false r = false := by unfold mayB; simp; exact beq_eq_false_iff_ne.mp k1
  have HM := Aside0.mk (fun w => may_calls 0 0 0 r false w)
  rw [hm] at HM
  have hq : (putB 0 0 0 false r).toList.isEmpty = true := by rw [putB_none (.inl rfl)]; simp [ByteArray.toList_eq]
  have hq2 : ((putB 0 0 0 false r).toList == []) = true := by rw [putB_none (.inl rfl)]; simp [ByteArray.toList_eq]
  have HP := Aside0.mk (fun w => put_calls 0 0 0 r false u64b_zero u64b_zero w)
  generalize putB 0 0 0 false r = q at *
  clear hm
  have HZ := Aside0.mk (fun w => may_calls 0 0 0 0 true w)
  rw [show mayB 0 0 0 true 0 = false from rfl] at HZ
  have hu24 := Try.underlying24
  go_enter Try.func6, Try.ntmps6
  go_wp2_with fail
  refine (get_none _).mono ?_
  rintro e w1 ⟨rfl, hb1⟩
  have B1 := (hb1.block w.heap.size (by simp)).trans (heap_alloc_new w _)
  have W1 : Aside0 (Below w.heap.size w w1) := ⟨((Below.refl w.heap.size w).alloc (Nat.le_refl _) _).trans (hb1.mono (by simp))⟩
  have L1 : w.heap.size < w1.heap.size := blk_lt B1
  clear hb1
  generalize hg : w.heap.size = g at *
  have T1 : Two g w1.heap.size w (w1.alloc (.cells #[.int .i64 0, .int .u64 0, .int .u64 0, .bool false, .int .i64 0] 24)) (.int .i64 0) (.int .u64 0) (.int .u64 0) (.bool false) (.int .i64 r) :=
    ⟨W1.out.alloc (Nat.le_of_lt L1) _, blk_alloc B1 _, heap_alloc_new _ _⟩
  generalize hh : w1.heap.size = h at *
  obtain ⟨c0, c1, c2, c3, c4⟩ := box_cells T1.one
  obtain ⟨x0, x1, x2, x3, x4⟩ := box_cells T1.two
  have L1' := Aside0.mk L1
  clear B1
  try clear L1
  go_wp2_with fail
  refine (HM.out _).mono ?_
  rintro e w2 ⟨rfl, hb2⟩
  have T2 := T1.keep hb2
  clear T1 hb2 c0 c1 c2 c3 c4 x0 x1 x2 x3 x4
  obtain ⟨c0, c1, c2, c3, c4⟩ := box_cells T2.one
  obtain ⟨x0, x1, x2, x3, x4⟩ := box_cells T2.two
  go_wp2_with fail
  refine (HP.out _).mono ?_
  rintro e w3 ⟨rfl, hb3⟩
  have T3 := T2.keep hb3
  clear T2 hb3 c0 c1 c2 c3 c4 x0 x1 x2 x3 x4
  obtain ⟨c0, c1, c2, c3, c4⟩ := box_cells T3.one
  obtain ⟨x0, x1, x2, x3, x4⟩ := box_cells T3.two
  go_wp2_with fail
  refine (HZ.out _).mono ?_
  rintro e w4 ⟨rfl, hb4⟩
  have T4 := T3.keep hb4
  clear T3 hb4 c0 c1 c2 c3 c4 x0 x1 x2 x3 x4
  go_wp2_with fail
  refine (awake_calls _).mono ?_
  rintro e w5 ⟨rfl, hb5⟩
  have T5 := T4.keep hb5
  go_wp2_with fail
  go_ret
  exact ⟨rfl, by rw [hg]; exact T5.below⟩

set_option maxHeartbeats 4000000 in
set_option maxRecDepth 100000 in
theorem other_2  (w : World) : Calls Try.prog 6 #[.int .i64 2, .int .u32 0] w fun e w' => e = .returned (.bool true) ∧ Below w.heap.size w w' := by
  have hm : mayB 2 0 0 false 0 = true := by rfl
  have HM := Aside0.mk (fun w => may_calls 2 0 0 0 false w)
  rw [hm] at HM
  have hq : (putB 2 0 0 false 0).toList.isEmpty = false := by have hs := leB_sizes 2 0 0 0 false; rw [hm] at hs; simp at hs; exact (by have h := toList_nil (a := putB 2 0 0 false 0) (by omega); simpa using h)
  have hq2 : ((putB 2 0 0 false 0).toList == []) = false := by have hs := leB_sizes 2 0 0 0 false; rw [hm] at hs; simp at hs; exact beq_eq_false_iff_ne.mpr (toList_nil (by omega))
  have HP := Aside0.mk (fun w => put_calls 2 0 0 0 false u64b_zero u64b_zero w)
  generalize putB 2 0 0 false 0 = q at *
  clear hm
  have HZ := Aside0.mk (fun w => may_calls 0 0 0 0 true w)
  rw [show mayB 0 0 0 true 0 = false from rfl] at HZ
  have hu24 := Try.underlying24
  go_enter Try.func6, Try.ntmps6
  go_wp2_with fail
  refine (get_none _).mono ?_
  rintro e w1 ⟨rfl, hb1⟩
  have B1 := (hb1.block w.heap.size (by simp)).trans (heap_alloc_new w _)
  have W1 : Aside0 (Below w.heap.size w w1) := ⟨((Below.refl w.heap.size w).alloc (Nat.le_refl _) _).trans (hb1.mono (by simp))⟩
  have L1 : w.heap.size < w1.heap.size := blk_lt B1
  clear hb1
  generalize hg : w.heap.size = g at *
  have T1 : Two g w1.heap.size w (w1.alloc (.cells #[.int .i64 0, .int .u64 0, .int .u64 0, .bool false, .int .i64 0] 24)) (.int .i64 2) (.int .u64 0) (.int .u64 0) (.bool false) (.int .i64 0) :=
    ⟨W1.out.alloc (Nat.le_of_lt L1) _, blk_alloc B1 _, heap_alloc_new _ _⟩
  generalize hh : w1.heap.size = h at *
  obtain ⟨c0, c1, c2, c3, c4⟩ := box_cells T1.one
  obtain ⟨x0, x1, x2, x3, x4⟩ := box_cells T1.two
  have L1' := Aside0.mk L1
  clear B1
  try clear L1
  go_wp2_with fail
  refine (HM.out _).mono ?_
  rintro e w2 ⟨rfl, hb2⟩
  have T2 := T1.keep hb2
  clear T1 hb2 c0 c1 c2 c3 c4 x0 x1 x2 x3 x4
  obtain ⟨c0, c1, c2, c3, c4⟩ := box_cells T2.one
  obtain ⟨x0, x1, x2, x3, x4⟩ := box_cells T2.two
  go_wp2_with fail
  refine (HP.out _).mono ?_
  rintro e w3 ⟨rfl, hb3⟩
  have T3 := T2.keep hb3
  clear T2 hb3 c0 c1 c2 c3 c4 x0 x1 x2 x3 x4
  obtain ⟨c0, c1, c2, c3, c4⟩ := box_cells T3.one
  obtain ⟨x0, x1, x2, x3, x4⟩ := box_cells T3.two
  go_wp2_with fail
  refine (HZ.out _).mono ?_
  rintro e w4 ⟨rfl, hb4⟩
  have T4 := T3.keep hb4
  clear T3 hb4 c0 c1 c2 c3 c4 x0 x1 x2 x3 x4
  go_wp2_with fail
  refine (awake_calls _).mono ?_
  rintro e w5 ⟨rfl, hb5⟩
  have T5 := T4.keep hb5
  go_wp2_with fail
  go_ret
  exact ⟨rfl, by rw [hg]; exact T5.below⟩

set_option maxHeartbeats 4000000 in
set_option maxRecDepth 100000 in
theorem other_2r (r : Int) (h0 : 0 ≤ r) (h1 : r ≤ 4294967295) (k1 : (r == 0) = false) (w : World) : Calls Try.prog 6 #[.int .i64 2, .int .u32 r] w fun e w' => e = .returned (.bool true) ∧ Below w.heap.size w w' := by
  have hm : mayB 2 0 0 false r = false := by unfold mayB; simpa using beq_eq_false_iff_ne.mp k1
  have HM := Aside0.mk (fun w => may_calls 2 0 0 r false w)
  rw [hm] at HM
  have hq : (putB 2 0 0 false r).toList.isEmpty = true := by rw [putB_none (.inr hm)]; simp [ByteArray.toList_eq]
  have hq2 : ((putB 2 0 0 false r).toList == []) = true := by rw [putB_none (.inr hm)]; simp [ByteArray.toList_eq]
  have HP := Aside0.mk (fun w => put_calls 2 0 0 r false u64b_zero u64b_zero w)
  generalize putB 2 0 0 false r = q at *
  clear hm
  have HZ := Aside0.mk (fun w => may_calls 0 0 0 0 true w)
  rw [show mayB 0 0 0 true 0 = false from rfl] at HZ
  have hu24 := Try.underlying24
  go_enter Try.func6, Try.ntmps6
  go_wp2_with fail
  refine (get_none _).mono ?_
  rintro e w1 ⟨rfl, hb1⟩
  have B1 := (hb1.block w.heap.size (by simp)).trans (heap_alloc_new w _)
  have W1 : Aside0 (Below w.heap.size w w1) := ⟨((Below.refl w.heap.size w).alloc (Nat.le_refl _) _).trans (hb1.mono (by simp))⟩
  have L1 : w.heap.size < w1.heap.size := blk_lt B1
  clear hb1
  generalize hg : w.heap.size = g at *
  have T1 : Two g w1.heap.size w (w1.alloc (.cells #[.int .i64 0, .int .u64 0, .int .u64 0, .bool false, .int .i64 0] 24)) (.int .i64 2) (.int .u64 0) (.int .u64 0) (.bool false) (.int .i64 r) :=
    ⟨W1.out.alloc (Nat.le_of_lt L1) _, blk_alloc B1 _, heap_alloc_new _ _⟩
  generalize hh : w1.heap.size = h at *
  obtain ⟨c0, c1, c2, c3, c4⟩ := box_cells T1.one
  obtain ⟨x0, x1, x2, x3, x4⟩ := box_cells T1.two
  have L1' := Aside0.mk L1
  clear B1
  try clear L1
  go_wp2_with fail
  refine (HM.out _).mono ?_
  rintro e w2 ⟨rfl, hb2⟩
  have T2 := T1.keep hb2
  clear T1 hb2 c0 c1 c2 c3 c4 x0 x1 x2 x3 x4
  obtain ⟨c0, c1, c2, c3, c4⟩ := box_cells T2.one
  obtain ⟨x0, x1, x2, x3, x4⟩ := box_cells T2.two
  go_wp2_with fail
  refine (HP.out _).mono ?_
  rintro e w3 ⟨rfl, hb3⟩
  have T3 := T2.keep hb3
  clear T2 hb3 c0 c1 c2 c3 c4 x0 x1 x2 x3 x4
  obtain ⟨c0, c1, c2, c3, c4⟩ := box_cells T3.one
  obtain ⟨x0, x1, x2, x3, x4⟩ := box_cells T3.two
  go_wp2_with fail
  refine (HZ.out _).mono ?_
  rintro e w4 ⟨rfl, hb4⟩
  have T4 := T3.keep hb4
  clear T3 hb4 c0 c1 c2 c3 c4 x0 x1 x2 x3 x4
  go_wp2_with fail
  refine (awake_calls _).mono ?_
  rintro e w5 ⟨rfl, hb5⟩
  have T5 := T4.keep hb5
  go_wp2_with fail
  go_ret
  exact ⟨rfl, by rw [hg]; exact T5.below⟩

set_option maxHeartbeats 4000000 in
set_option maxRecDepth 100000 in
theorem other_3 (r : Int) (h0 : 0 ≤ r) (h1 : r ≤ 2147483647) (w : World) : Calls Try.prog 6 #[.int .i64 3, .int .u32 r] w fun e w' => e = .returned (.bool true) ∧ Below w.heap.size w w' := by
  have hm : mayB 3 0 0 false r = true := by unfold mayB; simp; omega
  have HM := Aside0.mk (fun w => may_calls 3 0 0 r false w)
  rw [hm] at HM
  have hq : (putB 3 0 0 false r).toList.isEmpty = false := by have hs := leB_sizes 3 0 0 r false; rw [hm] at hs; simp at hs; exact (by have h := toList_nil (a := putB 3 0 0 false r) (by omega); simpa using h)
  have hq2 : ((putB 3 0 0 false r).toList == []) = false := by have hs := leB_sizes 3 0 0 r false; rw [hm] at hs; simp at hs; exact beq_eq_false_iff_ne.mpr (toList_nil (by omega))
  have HP := Aside0.mk (fun w => put_calls 3 0 0 r false u64b_zero u64b_zero w)
  generalize putB 3 0 0 false r = q at *
  clear hm
  have HZ := Aside0.mk (fun w => may_calls 0 0 0 0 true w)
  rw [show mayB 0 0 0 true 0 = false from rfl] at HZ
  have hu24 := Try.underlying24
  go_enter Try.func6, Try.ntmps6
  go_wp2_with fail
  refine (get_none _).mono ?_
  rintro e w1 ⟨rfl, hb1⟩
  have B1 := (hb1.block w.heap.size (by simp)).trans (heap_alloc_new w _)
  have W1 : Aside0 (Below w.heap.size w w1) := ⟨((Below.refl w.heap.size w).alloc (Nat.le_refl _) _).trans (hb1.mono (by simp))⟩
  have L1 : w.heap.size < w1.heap.size := blk_lt B1
  clear hb1
  generalize hg : w.heap.size = g at *
  have T1 : Two g w1.heap.size w (w1.alloc (.cells #[.int .i64 0, .int .u64 0, .int .u64 0, .bool false, .int .i64 0] 24)) (.int .i64 3) (.int .u64 0) (.int .u64 0) (.bool false) (.int .i64 r) :=
    ⟨W1.out.alloc (Nat.le_of_lt L1) _, blk_alloc B1 _, heap_alloc_new _ _⟩
  generalize hh : w1.heap.size = h at *
  obtain ⟨c0, c1, c2, c3, c4⟩ := box_cells T1.one
  obtain ⟨x0, x1, x2, x3, x4⟩ := box_cells T1.two
  have L1' := Aside0.mk L1
  clear B1
  try clear L1
  go_wp2_with fail
  refine (HM.out _).mono ?_
  rintro e w2 ⟨rfl, hb2⟩
  have T2 := T1.keep hb2
  clear T1 hb2 c0 c1 c2 c3 c4 x0 x1 x2 x3 x4
  obtain ⟨c0, c1, c2, c3, c4⟩ := box_cells T2.one
  obtain ⟨x0, x1, x2, x3, x4⟩ := box_cells T2.two
  go_wp2_with fail
  refine (HP.out _).mono ?_
  rintro e w3 ⟨rfl, hb3⟩
  have T3 := T2.keep hb3
  clear T2 hb3 c0 c1 c2 c3 c4 x0 x1 x2 x3 x4
  obtain ⟨c0, c1, c2, c3, c4⟩ := box_cells T3.one
  obtain ⟨x0, x1, x2, x3, x4⟩ := box_cells T3.two
  go_wp2_with fail
  refine (HZ.out _).mono ?_
  rintro e w4 ⟨rfl, hb4⟩
  have T4 := T3.keep hb4
  clear T3 hb4 c0 c1 c2 c3 c4 x0 x1 x2 x3 x4
  go_wp2_with fail
  refine (awake_calls _).mono ?_
  rintro e w5 ⟨rfl, hb5⟩
  have T5 := T4.keep hb5
  go_wp2_with fail
  go_ret
  exact ⟨rfl, by rw [hg]; exact T5.below⟩

set_option maxHeartbeats 4000000 in
set_option maxRecDepth 100000 in
theorem other_3r (r : Int) (h0 : 2147483648 ≤ r) (h1 : r ≤ 4294967295) (w : World) : Calls Try.prog 6 #[.int .i64 3, .int .u32 r] w fun e w' => e = .returned (.bool true) ∧ Below w.heap.size w w' := by
  have hm : mayB 3 0 0 false r = false := by unfold mayB; simp; omega
  have HM := Aside0.mk (fun w => may_calls 3 0 0 r false w)
  rw [hm] at HM
  have hq : (putB 3 0 0 false r).toList.isEmpty = true := by rw [putB_none (.inr hm)]; simp [ByteArray.toList_eq]
  have hq2 : ((putB 3 0 0 false r).toList == []) = true := by rw [putB_none (.inr hm)]; simp [ByteArray.toList_eq]
  have HP := Aside0.mk (fun w => put_calls 3 0 0 r false u64b_zero u64b_zero w)
  generalize putB 3 0 0 false r = q at *
  clear hm
  have HZ := Aside0.mk (fun w => may_calls 0 0 0 0 true w)
  rw [show mayB 0 0 0 true 0 = false from rfl] at HZ
  have hu24 := Try.underlying24
  go_enter Try.func6, Try.ntmps6
  go_wp2_with fail
  refine (get_none _).mono ?_
  rintro e w1 ⟨rfl, hb1⟩
  have B1 := (hb1.block w.heap.size (by simp)).trans (heap_alloc_new w _)
  have W1 : Aside0 (Below w.heap.size w w1) := ⟨((Below.refl w.heap.size w).alloc (Nat.le_refl _) _).trans (hb1.mono (by simp))⟩
  have L1 : w.heap.size < w1.heap.size := blk_lt B1
  clear hb1
  generalize hg : w.heap.size = g at *
  have T1 : Two g w1.heap.size w (w1.alloc (.cells #[.int .i64 0, .int .u64 0, .int .u64 0, .bool false, .int .i64 0] 24)) (.int .i64 3) (.int .u64 0) (.int .u64 0) (.bool false) (.int .i64 r) :=
    ⟨W1.out.alloc (Nat.le_of_lt L1) _, blk_alloc B1 _, heap_alloc_new _ _⟩
  generalize hh : w1.heap.size = h at *
  obtain ⟨c0, c1, c2, c3, c4⟩ := box_cells T1.one
  obtain ⟨x0, x1, x2, x3, x4⟩ := box_cells T1.two
  have L1' := Aside0.mk L1
  clear B1
  try clear L1
  go_wp2_with fail
  refine (HM.out _).mono ?_
  rintro e w2 ⟨rfl, hb2⟩
  have T2 := T1.keep hb2
  clear T1 hb2 c0 c1 c2 c3 c4 x0 x1 x2 x3 x4
  obtain ⟨c0, c1, c2, c3, c4⟩ := box_cells T2.one
  obtain ⟨x0, x1, x2, x3, x4⟩ := box_cells T2.two
  go_wp2_with fail
  refine (HP.out _).mono ?_
  rintro e w3 ⟨rfl, hb3⟩
  have T3 := T2.keep hb3
  clear T2 hb3 c0 c1 c2 c3 c4 x0 x1 x2 x3 x4
  obtain ⟨c0, c1, c2, c3, c4⟩ := box_cells T3.one
  obtain ⟨x0, x1, x2, x3, x4⟩ := box_cells T3.two
  go_wp2_with fail
  refine (HZ.out _).mono ?_
  rintro e w4 ⟨rfl, hb4⟩
  have T4 := T3.keep hb4
  clear T3 hb4 c0 c1 c2 c3 c4 x0 x1 x2 x3 x4
  go_wp2_with fail
  refine (awake_calls _).mono ?_
  rintro e w5 ⟨rfl, hb5⟩
  have T5 := T4.keep hb5
  go_wp2_with fail
  go_ret
  exact ⟨rfl, by rw [hg]; exact T5.below⟩

set_option maxHeartbeats 4000000 in
set_option maxRecDepth 100000 in
theorem other_v (v r : Int) (h0 : 0 ≤ r) (h1 : r ≤ 4294967295) (v0 : (v == 0) = false) (v2 : (v == 2) = false) (v3 : (v == 3) = false) (w : World) : Calls Try.prog 6 #[.int .i64 v, .int .u32 r] w fun e w' => e = .returned (.bool true) ∧ Below w.heap.size w w' := by
  have hm : mayB v 0 0 false r = false := by unfold mayB; rw [if_neg (beq_eq_false_iff_ne.mp v0), if_neg (beq_eq_false_iff_ne.mp v2), if_neg (beq_eq_false_iff_ne.mp v3)]
  have HM := Aside0.mk (fun w => may_calls v 0 0 r false w)
  rw [hm] at HM
  have hq : (putB v 0 0 false r).toList.isEmpty = true := by rw [putB_none (.inr hm)]; simp [ByteArray.toList_eq]
  have hq2 : ((putB v 0 0 false r).toList == []) = true := by rw [putB_none (.inr hm)]; simp [ByteArray.toList_eq]
  have HP := Aside0.mk (fun w => put_calls v 0 0 r false u64b_zero u64b_zero w)
  generalize putB v 0 0 false r = q at *
  clear hm
  have HZ := Aside0.mk (fun w => may_calls 0 0 0 0 true w)
  rw [show mayB 0 0 0 true 0 = false from rfl] at HZ
  have hu24 := Try.underlying24
  go_enter Try.func6, Try.ntmps6
  go_wp2_with fail
  refine (get_none _).mono ?_
  rintro e w1 ⟨rfl, hb1⟩
  have B1 := (hb1.block w.heap.size (by simp)).trans (heap_alloc_new w _)
  have W1 : Aside0 (Below w.heap.size w w1) := ⟨((Below.refl w.heap.size w).alloc (Nat.le_refl _) _).trans (hb1.mono (by simp))⟩
  have L1 : w.heap.size < w1.heap.size := blk_lt B1
  clear hb1
  generalize hg : w.heap.size = g at *
  have T1 : Two g w1.heap.size w (w1.alloc (.cells #[.int .i64 0, .int .u64 0, .int .u64 0, .bool false, .int .i64 0] 24)) (.int .i64 v) (.int .u64 0) (.int .u64 0) (.bool false) (.int .i64 r) :=
    ⟨W1.out.alloc (Nat.le_of_lt L1) _, blk_alloc B1 _, heap_alloc_new _ _⟩
  generalize hh : w1.heap.size = h at *
  obtain ⟨c0, c1, c2, c3, c4⟩ := box_cells T1.one
  obtain ⟨x0, x1, x2, x3, x4⟩ := box_cells T1.two
  have L1' := Aside0.mk L1
  clear B1
  try clear L1
  go_wp2_with fail
  refine (HM.out _).mono ?_
  rintro e w2 ⟨rfl, hb2⟩
  have T2 := T1.keep hb2
  clear T1 hb2 c0 c1 c2 c3 c4 x0 x1 x2 x3 x4
  obtain ⟨c0, c1, c2, c3, c4⟩ := box_cells T2.one
  obtain ⟨x0, x1, x2, x3, x4⟩ := box_cells T2.two
  go_wp2_with fail
  refine (HP.out _).mono ?_
  rintro e w3 ⟨rfl, hb3⟩
  have T3 := T2.keep hb3
  clear T2 hb3 c0 c1 c2 c3 c4 x0 x1 x2 x3 x4
  obtain ⟨c0, c1, c2, c3, c4⟩ := box_cells T3.one
  obtain ⟨x0, x1, x2, x3, x4⟩ := box_cells T3.two
  go_wp2_with fail
  refine (HZ.out _).mono ?_
  rintro e w4 ⟨rfl, hb4⟩
  have T4 := T3.keep hb4
  clear T3 hb4 c0 c1 c2 c3 c4 x0 x1 x2 x3 x4
  go_wp2_with fail
  refine (awake_calls _).mono ?_
  rintro e w5 ⟨rfl, hb5⟩
  have T5 := T4.keep hb5
  go_wp2_with fail
  go_ret
  exact ⟨rfl, by rw [hg]; exact T5.below⟩
end Go.Proofs.Ytaaeidlekmeaiaa
