/- The walks of caps.Put and of the reference's PutCaps. -/
import Derived.Test.YtaaeidlekmeaiaaGBx2
import Derived.Test.YtaaeidlekmeaiaaGBx4
import Derived.Test.YtaaeidlekmeaiaaPlain
import Derived.WalkLawsBesides
import Derived.WalkSpells
import Derived.Outline
namespace Go.Proofs.Ytaaeidlekmeaiaa
set_option linter.unusedVariables false
set_option linter.unusedSimpArgs false
open Go.RowKit Go.Proofs.YtaaeidlekmeaiaaW.PrintWords

theorem may_calls (v p i r : Int) (e : Bool) (w : World) : Calls Try.prog 10 #[.agg #[.int .i64 v, .int .u64 p, .int .u64 i, .bool e, .int .i64 r]] w fun x w' => x = .returned (.bool (mayB v p i e r)) ∧ Below w.heap.size w w' :=
  GB.caps_May.calls v p i e r (mayB v p i e r) w (by
    unfold GB.caps_May.f mayB
    by_cases h : v = 0
    · rw [if_pos h, if_pos h]; simp [h]
    rw [if_neg h, if_neg h]
    by_cases h2 : v = 2
    · rw [if_pos h2, if_pos h2]
    rw [if_neg h2, if_neg h2]
    by_cases h3 : v = 3
    · rw [if_pos h3, if_pos h3]; split <;> (simp_all; try omega)
    · rw [if_neg h3, if_neg h3])
theorem word_calls (n : Int) (w : World) : Calls Try.prog 18 #[.int .u32 n] w fun x w' => x = .returned (.string (leB n)) ∧ Below w.heap.size w w' :=
  GB.caps_word.calls n _ w rfl

/-- A box of caps in memory: what its cells hold, and that they may be written. -/
theorem box_cells {w : World} {g : Nat} {a b c d e : Value} (h : w.heap[g]? = some (.cells #[a, b, c, d, e] 24 (0, 0))) :
    w.cell? ⟨g, 0, none⟩ = some a ∧ w.cell? ⟨g, 1, none⟩ = some b ∧ w.cell? ⟨g, 2, none⟩ = some c ∧ w.cell? ⟨g, 3, none⟩ = some d ∧ w.cell? ⟨g, 4, none⟩ = some e :=
  ⟨(blk_cell h 0).trans rfl, (blk_cell h 1).trans rfl, (blk_cell h 2).trans rfl, (blk_cell h 3).trans rfl, (blk_cell h 4).trans rfl⟩

/-- What a callee that makes memory alone leaves as it was. -/
theorem keepS {w W1 W2 : World} {g : Nat} {a b c d e : Value}
    (h : W1.cell? ⟨g, 1, none⟩ = some b ∧ W1.cell? ⟨g, 2, none⟩ = some c ∧ Aside0 (W1.heap[g]? = some (.cells #[a, b, c, d, e] 24 (0, 0))) ∧ Aside0 (Below g w W1)) (hb : Below W1.heap.size W1 W2) :
    W2.cell? ⟨g, 1, none⟩ = some b ∧ W2.cell? ⟨g, 2, none⟩ = some c ∧ Aside0 (W2.heap[g]? = some (.cells #[a, b, c, d, e] 24 (0, 0))) ∧ Aside0 (Below g w W2) :=
  ⟨pw_cell_below hb h.1, pw_cell_below hb h.2.1, ⟨blk_below h.2.2.1.out hb⟩, ⟨below_then h.2.2.2.out (Nat.le_of_lt (blk_lt h.2.2.1.out)) hb⟩⟩

set_option maxHeartbeats 4000000 in
set_option maxRecDepth 100000 in
theorem put_2_false (p i r : Int) (hm : mayB 2 p i false r = true) (hp0 : 0 ≤ p) (hp1 : p < 18446744073709551616) (hi0 : 0 ≤ i) (hi1 : i < 18446744073709551616) (hr0 : 0 ≤ r) (hr1 : r ≤ 2147483647) (w : World) :
    Calls Try.prog 12 #[.agg #[.int .i64 2, .int .u64 p, .int .u64 i, .bool false, .int .i64 r]] w fun x w' => x = .returned (.string (putB 2 p i false r)) ∧ Below w.heap.size w w' := by
  have hu24 := Try.underlying24
  have HM := Aside0.mk (fun w => (may_calls 2 p i r false w))
  rw [hm] at HM
  have HP := Aside0.mk (putB_of (v := 2) (by omega) hm)
  clear hm
  generalize hq : putB 2 p i false r = q at *
  clear hq
  have hsz := leB_size
  go_enter Try.func12, Try.ntmps12
  go_wp2_with fail
  refine (HM.out _).mono ?_
  rintro e w1 ⟨rfl, hb1⟩
  have B1 := (hb1.block w.heap.size (by simp)).trans (heap_alloc_new w _)
  have W1 : Aside0 (Below w.heap.size w w1) := ⟨((Below.refl w.heap.size w).alloc (Nat.le_refl _) _).trans (hb1.mono (by simp))⟩
  clear hb1
  generalize hg : w.heap.size = g at *
  obtain ⟨c0, c1, c2, c3, c4⟩ := box_cells B1
  have B1' := Aside0.mk B1
  clear B1
  go_wp2_with fail
  go_region_held3 (fun w' => w'.cell? ⟨g, 1, none⟩ = some (.int .u64 p) ∧ w'.cell? ⟨g, 2, none⟩ = some (.int .u64 i) ∧ Aside0 (w'.heap[g]? = some (.cells #[.int .i64 2, .int .u64 p, .int .u64 i, .bool false, .int .i64 r] 24 (0, 0))) ∧ Aside0 (Below g w w')) (first | exact ⟨c1, c2, ⟨B1'.out⟩, ⟨below_drew W1.out⟩⟩ | exact keepS (by assumption) hb2) (first | (go_at_call 18; refine (word_calls _ _).mono ?_; rintro e w2 ⟨rfl, hb2⟩))
  rename_i hHeld
  obtain ⟨d1, d2, BB, WW⟩ := hHeld
  clear c0 c1 c2 c3 c4 B1' W1 d1 d2
  obtain ⟨c0, c1, c2, c3, c4⟩ := box_cells BB.out
  clear c1 c2 c3
  go_wp2_with (go_at_call 18; refine (word_calls _ _).mono ?_; rintro e w3 ⟨rfl, hb3⟩)
  go_ret
  subst hg
  exact ⟨by rw [HP.out]; simp [leB_wrap, leB_mod, append_none], WW.out⟩

set_option maxHeartbeats 4000000 in
set_option maxRecDepth 100000 in
theorem put_2_true (p i r : Int) (hm : mayB 2 p i true r = true) (hp0 : 0 ≤ p) (hp1 : p < 18446744073709551616) (hi0 : 0 ≤ i) (hi1 : i < 18446744073709551616) (hr0 : 0 ≤ r) (hr1 : r ≤ 2147483647) (w : World) :
    Calls Try.prog 12 #[.agg #[.int .i64 2, .int .u64 p, .int .u64 i, .bool true, .int .i64 r]] w fun x w' => x = .returned (.string (putB 2 p i true r)) ∧ Below w.heap.size w w' := by
  have hu24 := Try.underlying24
  have HM := Aside0.mk (fun w => (may_calls 2 p i r true w))
  rw [hm] at HM
  have HP := Aside0.mk (putB_of (v := 2) (by omega) hm)
  clear hm
  generalize hq : putB 2 p i true r = q at *
  clear hq
  have hsz := leB_size
  go_enter Try.func12, Try.ntmps12
  go_wp2_with fail
  refine (HM.out _).mono ?_
  rintro e w1 ⟨rfl, hb1⟩
  have B1 := (hb1.block w.heap.size (by simp)).trans (heap_alloc_new w _)
  have W1 : Aside0 (Below w.heap.size w w1) := ⟨((Below.refl w.heap.size w).alloc (Nat.le_refl _) _).trans (hb1.mono (by simp))⟩
  clear hb1
  generalize hg : w.heap.size = g at *
  obtain ⟨c0, c1, c2, c3, c4⟩ := box_cells B1
  have B1' := Aside0.mk B1
  clear B1
  go_wp2_with fail
  go_region_held3 (fun w' => w'.cell? ⟨g, 1, none⟩ = some (.int .u64 p) ∧ w'.cell? ⟨g, 2, none⟩ = some (.int .u64 i) ∧ Aside0 (w'.heap[g]? = some (.cells #[.int .i64 2, .int .u64 p, .int .u64 i, .bool true, .int .i64 r] 24 (0, 0))) ∧ Aside0 (Below g w w')) (first | exact ⟨c1, c2, ⟨B1'.out⟩, ⟨below_drew W1.out⟩⟩ | exact keepS (by assumption) hb2) (first | (go_at_call 18; refine (word_calls _ _).mono ?_; rintro e w2 ⟨rfl, hb2⟩))
  rename_i hHeld
  obtain ⟨d1, d2, BB, WW⟩ := hHeld
  clear c0 c1 c2 c3 c4 B1' W1 d1 d2
  obtain ⟨c0, c1, c2, c3, c4⟩ := box_cells BB.out
  clear c1 c2 c3
  go_wp2_with (go_at_call 18; refine (word_calls _ _).mono ?_; rintro e w3 ⟨rfl, hb3⟩)
  go_ret
  subst hg
  exact ⟨by rw [HP.out]; simp [leB_wrap, leB_mod, append_none], WW.out⟩

set_option maxHeartbeats 4000000 in
set_option maxRecDepth 100000 in
theorem put_3_false (p i r : Int) (hm : mayB 3 p i false r = true) (hp0 : 0 ≤ p) (hp1 : p < 18446744073709551616) (hi0 : 0 ≤ i) (hi1 : i < 18446744073709551616) (hr0 : 0 ≤ r) (hr1 : r ≤ 2147483647) (w : World) :
    Calls Try.prog 12 #[.agg #[.int .i64 3, .int .u64 p, .int .u64 i, .bool false, .int .i64 r]] w fun x w' => x = .returned (.string (putB 3 p i false r)) ∧ Below w.heap.size w w' := by
  have hu24 := Try.underlying24
  have HM := Aside0.mk (fun w => (may_calls 3 p i r false w))
  rw [hm] at HM
  have HP := Aside0.mk (putB_of (v := 3) (by omega) hm)
  clear hm
  generalize hq : putB 3 p i false r = q at *
  clear hq
  have hsz := leB_size
  go_enter Try.func12, Try.ntmps12
  go_wp2_with fail
  refine (HM.out _).mono ?_
  rintro e w1 ⟨rfl, hb1⟩
  have B1 := (hb1.block w.heap.size (by simp)).trans (heap_alloc_new w _)
  have W1 : Aside0 (Below w.heap.size w w1) := ⟨((Below.refl w.heap.size w).alloc (Nat.le_refl _) _).trans (hb1.mono (by simp))⟩
  clear hb1
  generalize hg : w.heap.size = g at *
  obtain ⟨c0, c1, c2, c3, c4⟩ := box_cells B1
  have B1' := Aside0.mk B1
  clear B1
  go_wp2_with fail
  go_region_held3 (fun w' => w'.cell? ⟨g, 1, none⟩ = some (.int .u64 p) ∧ w'.cell? ⟨g, 2, none⟩ = some (.int .u64 i) ∧ Aside0 (w'.heap[g]? = some (.cells #[.int .i64 3, .int .u64 p, .int .u64 i, .bool false, .int .i64 r] 24 (0, 0))) ∧ Aside0 (Below g w w')) (first | exact ⟨c1, c2, ⟨B1'.out⟩, ⟨below_drew W1.out⟩⟩ | exact keepS (by assumption) hb2) (first | (go_at_call 18; refine (word_calls _ _).mono ?_; rintro e w2 ⟨rfl, hb2⟩))
  rename_i hHeld
  obtain ⟨d1, d2, BB, WW⟩ := hHeld
  clear c0 c1 c2 c3 c4 B1' W1 d1 d2
  obtain ⟨c0, c1, c2, c3, c4⟩ := box_cells BB.out
  clear c1 c2 c3
  go_wp2_with (go_at_call 18; refine (word_calls _ _).mono ?_; rintro e w3 ⟨rfl, hb3⟩)
  go_ret
  subst hg
  exact ⟨by rw [HP.out]; simp [leB_wrap, leB_mod, append_none], below_then WW.out (Nat.le_of_lt (blk_lt BB.out)) hb3⟩

set_option maxHeartbeats 4000000 in
set_option maxRecDepth 100000 in
theorem put_3_true (p i r : Int) (hm : mayB 3 p i true r = true) (hp0 : 0 ≤ p) (hp1 : p < 18446744073709551616) (hi0 : 0 ≤ i) (hi1 : i < 18446744073709551616) (hr0 : 0 ≤ r) (hr1 : r ≤ 2147483647) (w : World) :
    Calls Try.prog 12 #[.agg #[.int .i64 3, .int .u64 p, .int .u64 i, .bool true, .int .i64 r]] w fun x w' => x = .returned (.string (putB 3 p i true r)) ∧ Below w.heap.size w w' := by
  have hu24 := Try.underlying24
  have HM := Aside0.mk (fun w => (may_calls 3 p i r true w))
  rw [hm] at HM
  have HP := Aside0.mk (putB_of (v := 3) (by omega) hm)
  clear hm
  generalize hq : putB 3 p i true r = q at *
  clear hq
  have hsz := leB_size
  go_enter Try.func12, Try.ntmps12
  go_wp2_with fail
  refine (HM.out _).mono ?_
  rintro e w1 ⟨rfl, hb1⟩
  have B1 := (hb1.block w.heap.size (by simp)).trans (heap_alloc_new w _)
  have W1 : Aside0 (Below w.heap.size w w1) := ⟨((Below.refl w.heap.size w).alloc (Nat.le_refl _) _).trans (hb1.mono (by simp))⟩
  clear hb1
  generalize hg : w.heap.size = g at *
  obtain ⟨c0, c1, c2, c3, c4⟩ := box_cells B1
  have B1' := Aside0.mk B1
  clear B1
  go_wp2_with fail
  go_region_held3 (fun w' => w'.cell? ⟨g, 1, none⟩ = some (.int .u64 p) ∧ w'.cell? ⟨g, 2, none⟩ = some (.int .u64 i) ∧ Aside0 (w'.heap[g]? = some (.cells #[.int .i64 3, .int .u64 p, .int .u64 i, .bool true, .int .i64 r] 24 (0, 0))) ∧ Aside0 (Below g w w')) (first | exact ⟨c1, c2, ⟨B1'.out⟩, ⟨below_drew W1.out⟩⟩ | exact keepS (by assumption) hb2) (first | (go_at_call 18; refine (word_calls _ _).mono ?_; rintro e w2 ⟨rfl, hb2⟩))
  rename_i hHeld
  obtain ⟨d1, d2, BB, WW⟩ := hHeld
  clear c0 c1 c2 c3 c4 B1' W1 d1 d2
  obtain ⟨c0, c1, c2, c3, c4⟩ := box_cells BB.out
  clear c1 c2 c3
  go_wp2_with (go_at_call 18; refine (word_calls _ _).mono ?_; rintro e w3 ⟨rfl, hb3⟩)
  go_ret
  subst hg
  exact ⟨by rw [HP.out]; simp [leB_wrap, leB_mod, append_none], below_then WW.out (Nat.le_of_lt (blk_lt BB.out)) hb3⟩


theorem refmay_calls (v p i r : Int) (e : Bool) (w : World) : Calls Try.prog 11 #[.agg #[.int .i64 v, .int .u64 p, .int .u64 i, .bool e, .int .i64 r]] w fun x w' => x = .returned (.bool (mayB v p i e r)) ∧ Below w.heap.size w w' :=
  GB.gripsackref9_MayCaps.calls v p i e r (mayB v p i e r) w (by
    unfold GB.gripsackref9_MayCaps.f mayB
    by_cases h : v = 0
    · rw [if_pos h, if_pos h]; simp [h]
    rw [if_neg h, if_neg h]
    by_cases h2 : v = 2
    · rw [if_pos h2, if_pos h2]
    rw [if_neg h2, if_neg h2]
    by_cases h3 : v = 3
    · rw [if_pos h3, if_pos h3]; split <;> (simp_all; try omega)
    · rw [if_neg h3, if_neg h3])
theorem four_calls (n : Int) (w : World) : Calls Try.prog 19 #[.int .u64 n] w fun x w' => x = .returned (.string (leB n)) ∧ Below w.heap.size w w' :=
  GB.gripsackref9_four.calls n _ w rfl

set_option maxHeartbeats 4000000 in
set_option maxRecDepth 100000 in
theorem refput_2_false (p i r : Int) (hm : mayB 2 p i false r = true) (hp0 : 0 ≤ p) (hp1 : p < 18446744073709551616) (hi0 : 0 ≤ i) (hi1 : i < 18446744073709551616) (hr0 : 0 ≤ r) (hr1 : r ≤ 2147483647) (w : World) :
    Calls Try.prog 13 #[.agg #[.int .i64 2, .int .u64 p, .int .u64 i, .bool false, .int .i64 r]] w fun x w' => x = .returned (.string (putB 2 p i false r)) ∧ Below w.heap.size w w' := by
  have hu24 := Try.underlying24
  have HM := Aside0.mk (fun w => (refmay_calls 2 p i r false w))
  rw [hm] at HM
  have HP := Aside0.mk (putB_of (v := 2) (by omega) hm)
  clear hm
  generalize hq : putB 2 p i false r = q at *
  clear hq
  have hsz := leB_size
  go_enter Try.func13, Try.ntmps13
  go_wp2_with fail
  refine (HM.out _).mono ?_
  rintro e w1 ⟨rfl, hb1⟩
  have B1 := (hb1.block w.heap.size (by simp)).trans (heap_alloc_new w _)
  have W1 : Aside0 (Below w.heap.size w w1) := ⟨((Below.refl w.heap.size w).alloc (Nat.le_refl _) _).trans (hb1.mono (by simp))⟩
  clear hb1
  generalize hg : w.heap.size = g at *
  obtain ⟨c0, c1, c2, c3, c4⟩ := box_cells B1
  have B1' := Aside0.mk B1
  clear B1
  go_wp2_with fail
  go_region_held3 (fun w' => w'.cell? ⟨g, 1, none⟩ = some (.int .u64 p) ∧ w'.cell? ⟨g, 2, none⟩ = some (.int .u64 i) ∧ Aside0 (w'.heap[g]? = some (.cells #[.int .i64 2, .int .u64 p, .int .u64 i, .bool false, .int .i64 r] 24 (0, 0))) ∧ Aside0 (Below g w w')) (first | exact ⟨c1, c2, ⟨B1'.out⟩, ⟨below_drew W1.out⟩⟩ | exact keepS (by assumption) hb2) (first | (go_at_call 19; refine (four_calls _ _).mono ?_; rintro e w2 ⟨rfl, hb2⟩))
  rename_i hHeld
  obtain ⟨d1, d2, BB, WW⟩ := hHeld
  clear c0 c1 c2 c3 c4 B1' W1 d1 d2
  obtain ⟨c0, c1, c2, c3, c4⟩ := box_cells BB.out
  clear c1 c2 c3
  go_wp2_with (go_at_call 19; refine (four_calls _ _).mono ?_; rintro e w3 ⟨rfl, hb3⟩)
  go_ret
  subst hg
  exact ⟨by rw [HP.out]; simp [leB_wrap, leB_mod, append_none], WW.out⟩

set_option maxHeartbeats 4000000 in
set_option maxRecDepth 100000 in
theorem refput_2_true (p i r : Int) (hm : mayB 2 p i true r = true) (hp0 : 0 ≤ p) (hp1 : p < 18446744073709551616) (hi0 : 0 ≤ i) (hi1 : i < 18446744073709551616) (hr0 : 0 ≤ r) (hr1 : r ≤ 2147483647) (w : World) :
    Calls Try.prog 13 #[.agg #[.int .i64 2, .int .u64 p, .int .u64 i, .bool true, .int .i64 r]] w fun x w' => x = .returned (.string (putB 2 p i true r)) ∧ Below w.heap.size w w' := by
  have hu24 := Try.underlying24
  have HM := Aside0.mk (fun w => (refmay_calls 2 p i r true w))
  rw [hm] at HM
  have HP := Aside0.mk (putB_of (v := 2) (by omega) hm)
  clear hm
  generalize hq : putB 2 p i true r = q at *
  clear hq
  have hsz := leB_size
  go_enter Try.func13, Try.ntmps13
  go_wp2_with fail
  refine (HM.out _).mono ?_
  rintro e w1 ⟨rfl, hb1⟩
  have B1 := (hb1.block w.heap.size (by simp)).trans (heap_alloc_new w _)
  have W1 : Aside0 (Below w.heap.size w w1) := ⟨((Below.refl w.heap.size w).alloc (Nat.le_refl _) _).trans (hb1.mono (by simp))⟩
  clear hb1
  generalize hg : w.heap.size = g at *
  obtain ⟨c0, c1, c2, c3, c4⟩ := box_cells B1
  have B1' := Aside0.mk B1
  clear B1
  go_wp2_with fail
  go_region_held3 (fun w' => w'.cell? ⟨g, 1, none⟩ = some (.int .u64 p) ∧ w'.cell? ⟨g, 2, none⟩ = some (.int .u64 i) ∧ Aside0 (w'.heap[g]? = some (.cells #[.int .i64 2, .int .u64 p, .int .u64 i, .bool true, .int .i64 r] 24 (0, 0))) ∧ Aside0 (Below g w w')) (first | exact ⟨c1, c2, ⟨B1'.out⟩, ⟨below_drew W1.out⟩⟩ | exact keepS (by assumption) hb2) (first | (go_at_call 19; refine (four_calls _ _).mono ?_; rintro e w2 ⟨rfl, hb2⟩))
  rename_i hHeld
  obtain ⟨d1, d2, BB, WW⟩ := hHeld
  clear c0 c1 c2 c3 c4 B1' W1 d1 d2
  obtain ⟨c0, c1, c2, c3, c4⟩ := box_cells BB.out
  clear c1 c2 c3
  go_wp2_with (go_at_call 19; refine (four_calls _ _).mono ?_; rintro e w3 ⟨rfl, hb3⟩)
  go_ret
  subst hg
  exact ⟨by rw [HP.out]; simp [leB_wrap, leB_mod, append_none], WW.out⟩

set_option maxHeartbeats 4000000 in
set_option maxRecDepth 100000 in
theorem refput_3_false (p i r : Int) (hm : mayB 3 p i false r = true) (hp0 : 0 ≤ p) (hp1 : p < 18446744073709551616) (hi0 : 0 ≤ i) (hi1 : i < 18446744073709551616) (hr0 : 0 ≤ r) (hr1 : r ≤ 2147483647) (w : World) :
    Calls Try.prog 13 #[.agg #[.int .i64 3, .int .u64 p, .int .u64 i, .bool false, .int .i64 r]] w fun x w' => x = .returned (.string (putB 3 p i false r)) ∧ Below w.heap.size w w' := by
  have hu24 := Try.underlying24
  have HM := Aside0.mk (fun w => (refmay_calls 3 p i r false w))
  rw [hm] at HM
  have HP := Aside0.mk (putB_of (v := 3) (by omega) hm)
  clear hm
  generalize hq : putB 3 p i false r = q at *
  clear hq
  have hsz := leB_size
  go_enter Try.func13, Try.ntmps13
  go_wp2_with fail
  refine (HM.out _).mono ?_
  rintro e w1 ⟨rfl, hb1⟩
  have B1 := (hb1.block w.heap.size (by simp)).trans (heap_alloc_new w _)
  have W1 : Aside0 (Below w.heap.size w w1) := ⟨((Below.refl w.heap.size w).alloc (Nat.le_refl _) _).trans (hb1.mono (by simp))⟩
  clear hb1
  generalize hg : w.heap.size = g at *
  obtain ⟨c0, c1, c2, c3, c4⟩ := box_cells B1
  have B1' := Aside0.mk B1
  clear B1
  go_wp2_with fail
  go_region_held3 (fun w' => w'.cell? ⟨g, 1, none⟩ = some (.int .u64 p) ∧ w'.cell? ⟨g, 2, none⟩ = some (.int .u64 i) ∧ Aside0 (w'.heap[g]? = some (.cells #[.int .i64 3, .int .u64 p, .int .u64 i, .bool false, .int .i64 r] 24 (0, 0))) ∧ Aside0 (Below g w w')) (first | exact ⟨c1, c2, ⟨B1'.out⟩, ⟨below_drew W1.out⟩⟩ | exact keepS (by assumption) hb2) (first | (go_at_call 19; refine (four_calls _ _).mono ?_; rintro e w2 ⟨rfl, hb2⟩))
  rename_i hHeld
  obtain ⟨d1, d2, BB, WW⟩ := hHeld
  clear c0 c1 c2 c3 c4 B1' W1 d1 d2
  obtain ⟨c0, c1, c2, c3, c4⟩ := box_cells BB.out
  clear c1 c2 c3
  go_wp2_with (go_at_call 19; refine (four_calls _ _).mono ?_; rintro e w3 ⟨rfl, hb3⟩)
  go_ret
  subst hg
  exact ⟨by rw [HP.out]; simp [leB_wrap, leB_mod, append_none], below_then WW.out (Nat.le_of_lt (blk_lt BB.out)) hb3⟩

set_option maxHeartbeats 4000000 in
set_option maxRecDepth 100000 in
theorem refput_3_true (p i r : Int) (hm : mayB 3 p i true r = true) (hp0 : 0 ≤ p) (hp1 : p < 18446744073709551616) (hi0 : 0 ≤ i) (hi1 : i < 18446744073709551616) (hr0 : 0 ≤ r) (hr1 : r ≤ 2147483647) (w : World) :
    Calls Try.prog 13 #[.agg #[.int .i64 3, .int .u64 p, .int .u64 i, .bool true, .int .i64 r]] w fun x w' => x = .returned (.string (putB 3 p i true r)) ∧ Below w.heap.size w w' := by
  have hu24 := Try.underlying24
  have HM := Aside0.mk (fun w => (refmay_calls 3 p i r true w))
  rw [hm] at HM
  have HP := Aside0.mk (putB_of (v := 3) (by omega) hm)
  clear hm
  generalize hq : putB 3 p i true r = q at *
  clear hq
  have hsz := leB_size
  go_enter Try.func13, Try.ntmps13
  go_wp2_with fail
  refine (HM.out _).mono ?_
  rintro e w1 ⟨rfl, hb1⟩
  have B1 := (hb1.block w.heap.size (by simp)).trans (heap_alloc_new w _)
  have W1 : Aside0 (Below w.heap.size w w1) := ⟨((Below.refl w.heap.size w).alloc (Nat.le_refl _) _).trans (hb1.mono (by simp))⟩
  clear hb1
  generalize hg : w.heap.size = g at *
  obtain ⟨c0, c1, c2, c3, c4⟩ := box_cells B1
  have B1' := Aside0.mk B1
  clear B1
  go_wp2_with fail
  go_region_held3 (fun w' => w'.cell? ⟨g, 1, none⟩ = some (.int .u64 p) ∧ w'.cell? ⟨g, 2, none⟩ = some (.int .u64 i) ∧ Aside0 (w'.heap[g]? = some (.cells #[.int .i64 3, .int .u64 p, .int .u64 i, .bool true, .int .i64 r] 24 (0, 0))) ∧ Aside0 (Below g w w')) (first | exact ⟨c1, c2, ⟨B1'.out⟩, ⟨below_drew W1.out⟩⟩ | exact keepS (by assumption) hb2) (first | (go_at_call 19; refine (four_calls _ _).mono ?_; rintro e w2 ⟨rfl, hb2⟩))
  rename_i hHeld
  obtain ⟨d1, d2, BB, WW⟩ := hHeld
  clear c0 c1 c2 c3 c4 B1' W1 d1 d2
  obtain ⟨c0, c1, c2, c3, c4⟩ := box_cells BB.out
  clear c1 c2 c3
  go_wp2_with (go_at_call 19; refine (four_calls _ _).mono ?_; rintro e w3 ⟨rfl, hb3⟩)
  go_ret
  subst hg
  exact ⟨by rw [HP.out]; simp [leB_wrap, leB_mod, append_none], below_then WW.out (Nat.le_of_lt (blk_lt BB.out)) hb3⟩

end Go.Proofs.Ytaaeidlekmeaiaa
