-- By the session's own program (wip/gprint.py over the kit's print); Lean checks it.
import Derived.Test.YtljodbbmcgpcnaaGTextJoinsx0
namespace Go.Proofs.Ytljodbbmcgpcnaa.GTextJoins
open Go.RowKit Go.Proofs.YtljodbbmcgpcnaaW.PrintWords Go.Proofs.YtljodbbmcgpcnaaW.PrintLast Go.Proofs.YtljodbbmcgpcnaaW.PrintMore
attribute [local go_sem] max2_int min2_int max_two min_two max_three min_three max_four min_four   -- for this text's walks alone
set_option linter.unusedVariables false
set_option linter.unusedSimpArgs false

/-! ### text_long: function 19 -/
def text_long.f (a0 : Int) : Option (Int × Int × Int) := if a0 < 128 then (some (1, wrap64 (a0), 0)) else (if (a0 / 32) = 6 then (some (2, wrap64 (Go.bits .and .u8 a0 31), 128)) else (if (a0 / 16) = 14 then (some (3, wrap64 (Go.bits .and .u8 a0 15), 2048)) else (if (a0 / 8) = 30 then (some (4, wrap64 (Go.bits .and .u8 a0 7), 65536)) else (some (0, 0, 0)))))
set_option maxHeartbeats 8000000 in
set_option maxRecDepth 100000 in
theorem text_long.calls (a0 : Int) (r1 : Int) (r2 : Int) (r3 : Int) (w : World) (h : text_long.f a0 = some (r1, r2, r3)) :
    Calls Try.prog 19 #[.int .u8 a0] w fun e w' => e = .returned (.tuple #[.int .i64 r1, .int .i64 r2, .int .i64 r3]) ∧ Drawn0 w w' := by
  have H : (if a0 < 128 then (some (1, wrap64 (a0), 0)) else (if (a0 / 32) = 6 then (some (2, wrap64 (Go.bits .and .u8 a0 31), 128)) else (if (a0 / 16) = 14 then (some (3, wrap64 (Go.bits .and .u8 a0 15), 2048)) else (if (a0 / 8) = 30 then (some (4, wrap64 (Go.bits .and .u8 a0 7), 65536)) else (some (0, 0, 0)))))) = some (r1, r2, r3) := h
  clear h
  by_cases c2 : a0 < 128
  · rw [if_pos c2] at H
    have c2b0 : decide (a0 < 128) = true := decide_eq_true c2
    clear c2
    simp only [Option.some.injEq, Prod.mk.injEq] at H
    obtain ⟨rfl, rfl, rfl⟩ := H
    go_enter Try.func19, Try.ntmps19
    go_wp2
    go_ret3
    exact ⟨by first | rfl | (simp; done) | (simp [*]; done), by repeat (first | exact Drawn0.refl _ | apply Drawn0.step)⟩
  · rw [if_neg c2] at H
    have c2b0 : decide (a0 < 128) = false := decide_eq_false c2
    clear c2
    by_cases c3 : (a0 / 32) = 6
    · rw [if_pos c3] at H
      have c3b0 : ((a0 / 32) == 6) = true := beq_iff_eq.mpr c3
      have c3b1 : ((a0 / 32) != 6) = false := bne_eq_false_iff_eq.mpr c3
      clear c3
      simp only [Option.some.injEq, Prod.mk.injEq] at H
      obtain ⟨rfl, rfl, rfl⟩ := H
      go_enter Try.func19, Try.ntmps19
      go_wp2
      go_ret3
      exact ⟨by first | rfl | (simp; done) | (simp [*]; done), by repeat (first | exact Drawn0.refl _ | apply Drawn0.step)⟩
    · rw [if_neg c3] at H
      have c3b0 : ((a0 / 32) == 6) = false := beq_eq_false_iff_ne.mpr c3
      have c3b1 : ((a0 / 32) != 6) = true := bne_iff_ne.mpr c3
      by_cases c4 : (a0 / 16) = 14
      · rw [if_pos c4] at H
        have c4b0 : ((a0 / 16) == 14) = true := beq_iff_eq.mpr c4
        have c4b1 : ((a0 / 16) != 14) = false := bne_eq_false_iff_eq.mpr c4
        clear c4
        simp only [Option.some.injEq, Prod.mk.injEq] at H
        obtain ⟨rfl, rfl, rfl⟩ := H
        go_enter Try.func19, Try.ntmps19
        go_wp2
        go_ret3
        exact ⟨by first | rfl | (simp; done) | (simp [*]; done), by repeat (first | exact Drawn0.refl _ | apply Drawn0.step)⟩
      · rw [if_neg c4] at H
        have c4b0 : ((a0 / 16) == 14) = false := beq_eq_false_iff_ne.mpr c4
        have c4b1 : ((a0 / 16) != 14) = true := bne_iff_ne.mpr c4
        by_cases c5 : (a0 / 8) = 30
        · rw [if_pos c5] at H
          have c5b0 : ((a0 / 8) == 30) = true := beq_iff_eq.mpr c5
          have c5b1 : ((a0 / 8) != 30) = false := bne_eq_false_iff_eq.mpr c5
          clear c5
          simp only [Option.some.injEq, Prod.mk.injEq] at H
          obtain ⟨rfl, rfl, rfl⟩ := H
          go_enter Try.func19, Try.ntmps19
          go_wp2
          go_ret3
          exact ⟨by first | rfl | (simp; done) | (simp [*]; done), by repeat (first | exact Drawn0.refl _ | apply Drawn0.step)⟩
        · rw [if_neg c5] at H
          have c5b0 : ((a0 / 8) == 30) = false := beq_eq_false_iff_ne.mpr c5
          have c5b1 : ((a0 / 8) != 30) = true := bne_iff_ne.mpr c5
          simp only [Option.some.injEq, Prod.mk.injEq] at H
          obtain ⟨rfl, rfl, rfl⟩ := H
          go_enter Try.func19, Try.ntmps19
          go_wp2
          go_ret3
          exact ⟨by first | rfl | (simp; done) | (simp [*]; done), by repeat (first | exact Drawn0.refl _ | apply Drawn0.step)⟩

-- NOT PRINTED: function 18 (text_sign)

/-! ### text_Bad: function 10 -/
def text_Bad.f (a0 : ByteArray) : Option (Int) := (text_read.f a0).bind fun bt104 => (some bt104.1)
set_option maxHeartbeats 8000000 in
set_option maxRecDepth 100000 in
theorem text_Bad.calls (a0 : ByteArray) (r : Int) (w : World) (h : text_Bad.f a0 = some r) :
    Calls Try.prog 10 #[.string a0] w fun e w' => e = .returned (.int .i64 r) ∧ Below w.heap.size w w' := by
  have HB := Aside0.mk (Below.refl w.heap.size w)
  have H : ((text_read.f a0).bind fun bt104 => (some bt104.1)) = some r := h
  clear h
  replace H := Option.bind_eq_some_iff.mp H
  obtain ⟨⟨t104, t105⟩, A20, H⟩ := H
  replace H : (some t104) = some r := H
  have A2 := Aside0.mk A20
  clear A20
  obtain rfl := Option.some.inj H
  go_enter Try.func10, Try.ntmps10
  go_wp2_with (first | ((with_reducible refine gate_callee (f := 15) rfl ?_); refine goesL_ (some 7) rfl rfl Try.func15 (by kernel_rfl) rfl #[.string a0] rfl (by (try simp only [List.map_toArray, List.map_cons, List.map_nil]); first | done | rfl | (simp only [List.length_drop, List.length_take]; rfl)) ?_; (with_reducible refine (text_read.calls a0 t104 t105 _ A2.out).mono ?_); rintro e w3 ⟨rfl, hb⟩; refine ⟨_, rfl, ?_⟩; have n0_ := Aside0.mk (below_step (by repeat (first | (with_reducible first | exact HB.out | apply below_alloc | apply pw_below_drewN | apply below_drew1) | exact HB.out)) hb); clear HB; have HB := n0_; clear n0_; (try clear hb); (try clear hb2); (try clear hk); (try clear hi)))
  go_ret
  exact ⟨by first | rfl | (simp [errW_none, errW_some] <;> rfl) | (simp [*, errW_none, errW_some] <;> rfl), by repeat (first | (with_reducible first | exact HB.out | apply below_alloc | apply pw_below_drewN | apply below_drew1) | exact HB.out)⟩

/-! ### text_Valid: function 8 -/
def text_Valid.f (a0 : ByteArray) : Option (Bool) := (text_Bad.f a0).bind fun t106 => (some (decide (t106 < 0)))
set_option maxHeartbeats 8000000 in
set_option maxRecDepth 100000 in
theorem text_Valid.calls (a0 : ByteArray) (r : Bool) (w : World) (h : text_Valid.f a0 = some r) :
    Calls Try.prog 8 #[.string a0] w fun e w' => e = .returned (.bool r) ∧ Below w.heap.size w w' := by
  have HB := Aside0.mk (Below.refl w.heap.size w)
  have H : ((text_Bad.f a0).bind fun t106 => (some (decide (t106 < 0)))) = some r := h
  clear h
  replace H := Option.bind_eq_some_iff.mp H
  obtain ⟨t106, A20, H⟩ := H
  replace H : (some (decide (t106 < 0))) = some r := H
  have A2 := Aside0.mk A20
  clear A20
  obtain rfl := Option.some.inj H
  go_enter Try.func8, Try.ntmps8
  go_wp2_with (first | ((with_reducible refine gate_callee (f := 10) rfl ?_); refine goesL_ (some 4) rfl rfl Try.func10 (by kernel_rfl) rfl #[.string a0] rfl (by (try simp only [List.map_toArray, List.map_cons, List.map_nil]); first | done | rfl | (simp only [List.length_drop, List.length_take]; rfl)) ?_; (with_reducible refine (text_Bad.calls a0 t106 _ A2.out).mono ?_); rintro e w3 ⟨rfl, hb⟩; refine ⟨_, rfl, ?_⟩; have n0_ := Aside0.mk (below_step (by repeat (first | (with_reducible first | exact HB.out | apply below_alloc | apply pw_below_drewN | apply below_drew1) | exact HB.out)) hb); clear HB; have HB := n0_; clear n0_; (try clear hb); (try clear hb2); (try clear hk); (try clear hi)))
  go_ret
  exact ⟨by first | rfl | (simp [errW_none, errW_some] <;> rfl) | (simp [*, errW_none, errW_some] <;> rfl), by repeat (first | (with_reducible first | exact HB.out | apply below_alloc | apply pw_below_drewN | apply below_drew1) | exact HB.out)⟩

/-! ### text_Count: function 12 -/
def text_Count.f (a0 : ByteArray) : Option (Int) := (text_read.f a0).bind fun bt107 => (some bt107.2)
set_option maxHeartbeats 8000000 in
set_option maxRecDepth 100000 in
theorem text_Count.calls (a0 : ByteArray) (r : Int) (w : World) (h : text_Count.f a0 = some r) :
    Calls Try.prog 12 #[.string a0] w fun e w' => e = .returned (.int .i64 r) ∧ Below w.heap.size w w' := by
  have HB := Aside0.mk (Below.refl w.heap.size w)
  have H : ((text_read.f a0).bind fun bt107 => (some bt107.2)) = some r := h
  clear h
  replace H := Option.bind_eq_some_iff.mp H
  obtain ⟨⟨t107, t108⟩, A20, H⟩ := H
  replace H : (some t108) = some r := H
  have A2 := Aside0.mk A20
  clear A20
  obtain rfl := Option.some.inj H
  go_enter Try.func12, Try.ntmps12
  go_wp2_with (first | ((with_reducible refine gate_callee (f := 15) rfl ?_); refine goesL_ (some 7) rfl rfl Try.func15 (by kernel_rfl) rfl #[.string a0] rfl (by (try simp only [List.map_toArray, List.map_cons, List.map_nil]); first | done | rfl | (simp only [List.length_drop, List.length_take]; rfl)) ?_; (with_reducible refine (text_read.calls a0 t107 t108 _ A2.out).mono ?_); rintro e w3 ⟨rfl, hb⟩; refine ⟨_, rfl, ?_⟩; have n0_ := Aside0.mk (below_step (by repeat (first | (with_reducible first | exact HB.out | apply below_alloc | apply pw_below_drewN | apply below_drew1) | exact HB.out)) hb); clear HB; have HB := n0_; clear n0_; (try clear hb); (try clear hb2); (try clear hk); (try clear hi)))
  go_ret
  exact ⟨by first | rfl | (simp [errW_none, errW_some] <;> rfl) | (simp [*, errW_none, errW_some] <;> rfl), by repeat (first | (with_reducible first | exact HB.out | apply below_alloc | apply pw_below_drewN | apply below_drew1) | exact HB.out)⟩

/-! ### gripsacklaw5_awake: function 7 -/
def gripsacklaw5_awake.f  : Option (Bool) := (text_Bad.f (⟨#[255]⟩ : ByteArray)).bind fun t109 => (if t109 = 0 then ((text_Valid.f (⟨#[97, 195, 164]⟩ : ByteArray)).bind fun t110 => (if t110 = true then ((text_Count.f (⟨#[97, 195, 164]⟩ : ByteArray)).bind fun t111 => (some (t111 == 2))) else (some false))) else (some false))
set_option maxHeartbeats 8000000 in
set_option maxRecDepth 100000 in
theorem gripsacklaw5_awake.calls  (r : Bool) (w : World) (h : gripsacklaw5_awake.f  = some r) :
    Calls Try.prog 7 #[] w fun e w' => e = .returned (.bool r) ∧ Below w.heap.size w w' := by
  have HB := Aside0.mk (Below.refl w.heap.size w)
  have H : ((text_Bad.f (⟨#[255]⟩ : ByteArray)).bind fun t109 => (if t109 = 0 then ((text_Valid.f (⟨#[97, 195, 164]⟩ : ByteArray)).bind fun t110 => (if t110 = true then ((text_Count.f (⟨#[97, 195, 164]⟩ : ByteArray)).bind fun t111 => (some (t111 == 2))) else (some false))) else (some false))) = some r := h
  clear h
  replace H := Option.bind_eq_some_iff.mp H
  obtain ⟨t109, A10, H⟩ := H
  replace H : (if t109 = 0 then ((text_Valid.f (⟨#[97, 195, 164]⟩ : ByteArray)).bind fun t110 => (if t110 = true then ((text_Count.f (⟨#[97, 195, 164]⟩ : ByteArray)).bind fun t111 => (some (t111 == 2))) else (some false))) else (some false)) = some r := H
  have A1 := Aside0.mk A10
  clear A10
  by_cases c2 : t109 = 0
  · rw [if_pos c2] at H
    have c2b0 : (t109 == 0) = true := beq_iff_eq.mpr c2
    have c2b1 : (t109 != 0) = false := bne_eq_false_iff_eq.mpr c2
    clear c2
    replace H := Option.bind_eq_some_iff.mp H
    obtain ⟨t110, A30, H⟩ := H
    replace H : (if t110 = true then ((text_Count.f (⟨#[97, 195, 164]⟩ : ByteArray)).bind fun t111 => (some (t111 == 2))) else (some false)) = some r := H
    have A3 := Aside0.mk A30
    clear A30
    by_cases c4 : t110 = true
    · subst c4
      have H1 : ((text_Count.f (⟨#[97, 195, 164]⟩ : ByteArray)).bind fun t111 => (some (t111 == 2))) = some r := by rw [if_pos rfl] at H; exact H
      clear H
      have H := H1
      clear H1
      replace H := Option.bind_eq_some_iff.mp H
      obtain ⟨t111, A50, H⟩ := H
      replace H : (some (t111 == 2)) = some r := H
      have A5 := Aside0.mk A50
      clear A50
      obtain rfl := Option.some.inj H
      go_enter Try.func7, Try.ntmps7
      go_wp2_with (first | ((with_reducible refine gate_callee (f := 10) rfl ?_); refine goesL_ (some 1) rfl rfl Try.func10 (by kernel_rfl) rfl #[.string (⟨#[255]⟩ : ByteArray)] rfl (by (try simp only [List.map_toArray, List.map_cons, List.map_nil]); first | done | rfl | (simp only [List.length_drop, List.length_take]; rfl)) ?_; (with_reducible refine (text_Bad.calls (⟨#[255]⟩ : ByteArray) t109 _ A1.out).mono ?_); rintro e w6 ⟨rfl, hb⟩; refine ⟨_, rfl, ?_⟩; have n0_ := Aside0.mk (below_step (by repeat (first | (with_reducible first | exact HB.out | apply below_alloc | apply pw_below_drewN | apply below_drew1) | exact HB.out)) hb); clear HB; have HB := n0_; clear n0_; (try clear hb); (try clear hb2); (try clear hk); (try clear hi)) | (go_at_call 8; (with_reducible refine (text_Valid.calls (⟨#[97, 195, 164]⟩ : ByteArray) true _ A3.out).mono ?_); rintro e w7 ⟨rfl, hb⟩; have n0_ := Aside0.mk (below_step (by repeat (first | (with_reducible first | exact HB.out | apply below_alloc | apply pw_below_drewN | apply below_drew1) | exact HB.out)) hb); clear HB; have HB := n0_; clear n0_; (try clear hb); (try clear hb2); (try clear hk); (try clear hi)) | (go_at_call 12; (with_reducible refine (text_Count.calls (⟨#[97, 195, 164]⟩ : ByteArray) t111 _ A5.out).mono ?_); rintro e w8 ⟨rfl, hb⟩; have n0_ := Aside0.mk (below_step (by repeat (first | (with_reducible first | exact HB.out | apply below_alloc | apply pw_below_drewN | apply below_drew1) | exact HB.out)) hb); clear HB; have HB := n0_; clear n0_; (try clear hb); (try clear hb2); (try clear hk); (try clear hi)))
      go_ret
      exact ⟨by first | rfl | (simp [errW_none, errW_some] <;> rfl) | (simp [*, errW_none, errW_some] <;> rfl), by repeat (first | (with_reducible first | exact HB.out | apply below_alloc | apply pw_below_drewN | apply below_drew1) | exact HB.out)⟩
    · replace c4 := Bool.eq_false_iff.mpr c4
      subst c4
      have H1 : (some false) = some r := by rw [if_neg (show ¬ (false = true) by decide)] at H; exact H
      clear H
      have H := H1
      clear H1
      obtain rfl := Option.some.inj H
      go_enter Try.func7, Try.ntmps7
      go_wp2_with (first | ((with_reducible refine gate_callee (f := 10) rfl ?_); refine goesL_ (some 1) rfl rfl Try.func10 (by kernel_rfl) rfl #[.string (⟨#[255]⟩ : ByteArray)] rfl (by (try simp only [List.map_toArray, List.map_cons, List.map_nil]); first | done | rfl | (simp only [List.length_drop, List.length_take]; rfl)) ?_; (with_reducible refine (text_Bad.calls (⟨#[255]⟩ : ByteArray) t109 _ A1.out).mono ?_); rintro e w9 ⟨rfl, hb⟩; refine ⟨_, rfl, ?_⟩; have n0_ := Aside0.mk (below_step (by repeat (first | (with_reducible first | exact HB.out | apply below_alloc | apply pw_below_drewN | apply below_drew1) | exact HB.out)) hb); clear HB; have HB := n0_; clear n0_; (try clear hb); (try clear hb2); (try clear hk); (try clear hi)) | (go_at_call 8; (with_reducible refine (text_Valid.calls (⟨#[97, 195, 164]⟩ : ByteArray) false _ A3.out).mono ?_); rintro e w10 ⟨rfl, hb⟩; have n0_ := Aside0.mk (below_step (by repeat (first | (with_reducible first | exact HB.out | apply below_alloc | apply pw_below_drewN | apply below_drew1) | exact HB.out)) hb); clear HB; have HB := n0_; clear n0_; (try clear hb); (try clear hb2); (try clear hk); (try clear hi)))
      go_ret
      exact ⟨by first | rfl | (simp [errW_none, errW_some] <;> rfl) | (simp [*, errW_none, errW_some] <;> rfl), by repeat (first | (with_reducible first | exact HB.out | apply below_alloc | apply pw_below_drewN | apply below_drew1) | exact HB.out)⟩
  · rw [if_neg c2] at H
    have c2b0 : (t109 == 0) = false := beq_eq_false_iff_ne.mpr c2
    have c2b1 : (t109 != 0) = true := bne_iff_ne.mpr c2
    obtain rfl := Option.some.inj H
    go_enter Try.func7, Try.ntmps7
    go_wp2_with (first | ((with_reducible refine gate_callee (f := 10) rfl ?_); refine goesL_ (some 1) rfl rfl Try.func10 (by kernel_rfl) rfl #[.string (⟨#[255]⟩ : ByteArray)] rfl (by (try simp only [List.map_toArray, List.map_cons, List.map_nil]); first | done | rfl | (simp only [List.length_drop, List.length_take]; rfl)) ?_; (with_reducible refine (text_Bad.calls (⟨#[255]⟩ : ByteArray) t109 _ A1.out).mono ?_); rintro e w11 ⟨rfl, hb⟩; refine ⟨_, rfl, ?_⟩; have n0_ := Aside0.mk (below_step (by repeat (first | (with_reducible first | exact HB.out | apply below_alloc | apply pw_below_drewN | apply below_drew1) | exact HB.out)) hb); clear HB; have HB := n0_; clear n0_; (try clear hb); (try clear hb2); (try clear hk); (try clear hi)))
    go_ret
    exact ⟨by first | rfl | (simp [errW_none, errW_some] <;> rfl) | (simp [*, errW_none, errW_some] <;> rfl), by repeat (first | (with_reducible first | exact HB.out | apply below_alloc | apply pw_below_drewN | apply below_drew1) | exact HB.out)⟩

/-! ### gripsacklaw5_put: function 14 -/
def gripsacklaw5_put.f (a0 : Int) : Option (ByteArray) := if a0 < 128 then (some (strOfNums (([(a0) % 256] : List Int)))) else (if a0 < 2048 then (some (strOfNums (([(wrap64 (192 + (a0 / 64))) % 256, (wrap64 (128 + (Go.bits .and .i64 a0 63))) % 256] : List Int)))) else (if a0 < 65536 then (some (strOfNums (([(wrap64 (224 + (a0 / 4096))) % 256, (wrap64 (128 + (Go.bits .and .i64 (a0 / 64) 63))) % 256, (wrap64 (128 + (Go.bits .and .i64 a0 63))) % 256] : List Int)))) else (some (strOfNums (([(wrap64 (240 + (a0 / 262144))) % 256, (wrap64 (128 + (Go.bits .and .i64 (a0 / 4096) 63))) % 256, (wrap64 (128 + (Go.bits .and .i64 (a0 / 64) 63))) % 256, (wrap64 (128 + (Go.bits .and .i64 a0 63))) % 256] : List Int))))))
set_option maxHeartbeats 8000000 in
set_option maxRecDepth 100000 in
theorem gripsacklaw5_put.calls (a0 : Int) (r : ByteArray) (w : World) (h : gripsacklaw5_put.f a0 = some r) :
    Calls Try.prog 14 #[.int .i64 a0] w fun e w' => e = .returned (.string r) ∧ Below w.heap.size w w' := by
  have HB := Aside0.mk (Below.refl w.heap.size w)
  have H : (if a0 < 128 then (some (strOfNums (([(a0) % 256] : List Int)))) else (if a0 < 2048 then (some (strOfNums (([(wrap64 (192 + (a0 / 64))) % 256, (wrap64 (128 + (Go.bits .and .i64 a0 63))) % 256] : List Int)))) else (if a0 < 65536 then (some (strOfNums (([(wrap64 (224 + (a0 / 4096))) % 256, (wrap64 (128 + (Go.bits .and .i64 (a0 / 64) 63))) % 256, (wrap64 (128 + (Go.bits .and .i64 a0 63))) % 256] : List Int)))) else (some (strOfNums (([(wrap64 (240 + (a0 / 262144))) % 256, (wrap64 (128 + (Go.bits .and .i64 (a0 / 4096) 63))) % 256, (wrap64 (128 + (Go.bits .and .i64 (a0 / 64) 63))) % 256, (wrap64 (128 + (Go.bits .and .i64 a0 63))) % 256] : List Int))))))) = some r := h
  clear h
  by_cases c2 : a0 < 128
  · rw [if_pos c2] at H
    have c2b0 : decide (a0 < 128) = true := decide_eq_true c2
    clear c2
    obtain ⟨y112, hy112⟩ : ∃ y_ : List Int, y_ = (([(a0) % 256] : List Int)) := ⟨_, rfl⟩
    replace H : (some (strOfNums y112)) = some r := by first | (rw [hy112]; with_reducible exact H) | (have H2_ := (Option.bind_some _ _).symm.trans H; rw [hy112]; with_reducible exact H2_) | (have H2_ := (Option.bind_some _ _).symm.trans H; with_reducible exact H2_) | with_reducible exact H | (rw [hy112]; exact H) | exact H
    have Ny112 := Aside0.mk hy112
    clear hy112
    obtain rfl := Option.some.inj H
    go_enter Try.func14, Try.ntmps14
    go_wp2_with (first | ((with_reducible refine gate_dst (N := 8) rfl ?_); refine Kd.R_lit (Kd.int .u8) _ 5 ?hg (N := 8) ?hd (xs := ([(a0) % 256] : List Int)) (inner := [.int .u8 ((a0) % 256)]) (ok := fun _ => True) (okp := fun _ => True) ?hr ?hp (fun _ hk => hk) trivial (Below.refl _ _) (Nat.le_refl _) (by simp) ?_; (case hd => rfl); (case hg => rfl); (case hr => first | (go_simp; done) | (go_simp; rfl)); (case hp => exact (Reps.one (show Kd.M (Kd.int .u8) _ _ _ ((a0) % 256) [.int .u8 ((a0) % 256)] from rfl) (Reps.none _ _))); intro v113 w3 ho4 hb hg_ hnew_; clear hg_ hnew_; (first | rw [← Ny112.out] at ho4 | (simp only [Int.reduceToNat] at ho4; rw [← Ny112.out] at ho4)); have n0_ := Aside0.mk (Kd.R_lower ho4 (below_size (by repeat (first | (with_reducible first | exact HB.out | apply below_alloc | apply pw_below_drewN | apply below_drew1) | exact HB.out)))); have n1_ := Aside0.mk (below_step (by repeat (first | (with_reducible first | exact HB.out | apply below_alloc | apply pw_below_drewN | apply below_drew1) | exact HB.out)) hb); clear HB; have HO114 := n0_; have HB := n1_; clear n0_ n1_; clear hb ho4; have hcv5 := own_string (P := Try.prog) Try.underlying28 Try.underlying5 Try.underlying9 (Kd.own_of_R HO114.out)))
    go_ret
    exact ⟨by first | rfl | (simp [errW_none, errW_some] <;> rfl) | (simp [*, errW_none, errW_some] <;> rfl), by repeat (first | (with_reducible first | exact HB.out | apply below_alloc | apply pw_below_drewN | apply below_drew1) | exact HB.out)⟩
  · rw [if_neg c2] at H
    have c2b0 : decide (a0 < 128) = false := decide_eq_false c2
    clear c2
    by_cases c6 : a0 < 2048
    · rw [if_pos c6] at H
      have c6b0 : decide (a0 < 2048) = true := decide_eq_true c6
      clear c6
      obtain ⟨y115, hy115⟩ : ∃ y_ : List Int, y_ = (([(wrap64 (192 + (a0 / 64))) % 256, (wrap64 (128 + (Go.bits .and .i64 a0 63))) % 256] : List Int)) := ⟨_, rfl⟩
      replace H : (some (strOfNums y115)) = some r := by first | (rw [hy115]; with_reducible exact H) | (have H2_ := (Option.bind_some _ _).symm.trans H; rw [hy115]; with_reducible exact H2_) | (have H2_ := (Option.bind_some _ _).symm.trans H; with_reducible exact H2_) | with_reducible exact H | (rw [hy115]; exact H) | exact H
      have Ny115 := Aside0.mk hy115
      clear hy115
      obtain rfl := Option.some.inj H
      go_enter Try.func14, Try.ntmps14
      go_wp2_with (first | ((with_reducible refine gate_dst (N := 21) rfl ?_); refine Kd.R_lit (Kd.int .u8) _ 5 ?hg (N := 21) ?hd (xs := ([(wrap64 (192 + (a0 / 64))) % 256, (wrap64 (128 + (Go.bits .and .i64 a0 63))) % 256] : List Int)) (inner := [.int .u8 ((wrap64 (192 + (a0 / 64))) % 256), .int .u8 ((wrap64 (128 + (Go.bits .and .i64 a0 63))) % 256)]) (ok := fun _ => True) (okp := fun _ => True) ?hr ?hp (fun _ hk => hk) trivial (Below.refl _ _) (Nat.le_refl _) (by simp) ?_; (case hd => rfl); (case hg => rfl); (case hr => first | (go_simp; done) | (go_simp; rfl)); (case hp => exact (Reps.one (show Kd.M (Kd.int .u8) _ _ _ ((wrap64 (192 + (a0 / 64))) % 256) [.int .u8 ((wrap64 (192 + (a0 / 64))) % 256)] from rfl) (Reps.one (show Kd.M (Kd.int .u8) _ _ _ ((wrap64 (128 + (Go.bits .and .i64 a0 63))) % 256) [.int .u8 ((wrap64 (128 + (Go.bits .and .i64 a0 63))) % 256)] from rfl) (Reps.none _ _)))); intro v116 w7 ho8 hb hg_ hnew_; clear hg_ hnew_; (first | rw [← Ny115.out] at ho8 | (simp only [Int.reduceToNat] at ho8; rw [← Ny115.out] at ho8)); have n0_ := Aside0.mk (Kd.R_lower ho8 (below_size (by repeat (first | (with_reducible first | exact HB.out | apply below_alloc | apply pw_below_drewN | apply below_drew1) | exact HB.out)))); have n1_ := Aside0.mk (below_step (by repeat (first | (with_reducible first | exact HB.out | apply below_alloc | apply pw_below_drewN | apply below_drew1) | exact HB.out)) hb); clear HB; have HO117 := n0_; have HB := n1_; clear n0_ n1_; clear hb ho8; have hcv9 := own_string (P := Try.prog) Try.underlying28 Try.underlying5 Try.underlying9 (Kd.own_of_R HO117.out)))
      go_ret
      exact ⟨by first | rfl | (simp [errW_none, errW_some] <;> rfl) | (simp [*, errW_none, errW_some] <;> rfl), by repeat (first | (with_reducible first | exact HB.out | apply below_alloc | apply pw_below_drewN | apply below_drew1) | exact HB.out)⟩
    · rw [if_neg c6] at H
      have c6b0 : decide (a0 < 2048) = false := decide_eq_false c6
      clear c6
      by_cases c10 : a0 < 65536
      · rw [if_pos c10] at H
        have c10b0 : decide (a0 < 65536) = true := decide_eq_true c10
        clear c10
        obtain ⟨y118, hy118⟩ : ∃ y_ : List Int, y_ = (([(wrap64 (224 + (a0 / 4096))) % 256, (wrap64 (128 + (Go.bits .and .i64 (a0 / 64) 63))) % 256, (wrap64 (128 + (Go.bits .and .i64 a0 63))) % 256] : List Int)) := ⟨_, rfl⟩
        replace H : (some (strOfNums y118)) = some r := by first | (rw [hy118]; with_reducible exact H) | (have H2_ := (Option.bind_some _ _).symm.trans H; rw [hy118]; with_reducible exact H2_) | (have H2_ := (Option.bind_some _ _).symm.trans H; with_reducible exact H2_) | with_reducible exact H | (rw [hy118]; exact H) | exact H
        have Ny118 := Aside0.mk hy118
        clear hy118
        obtain rfl := Option.some.inj H
        go_enter Try.func14, Try.ntmps14
        go_wp2_with (first | ((with_reducible refine gate_dst (N := 39) rfl ?_); refine Kd.R_lit (Kd.int .u8) _ 5 ?hg (N := 39) ?hd (xs := ([(wrap64 (224 + (a0 / 4096))) % 256, (wrap64 (128 + (Go.bits .and .i64 (a0 / 64) 63))) % 256, (wrap64 (128 + (Go.bits .and .i64 a0 63))) % 256] : List Int)) (inner := [.int .u8 ((wrap64 (224 + (a0 / 4096))) % 256), .int .u8 ((wrap64 (128 + (Go.bits .and .i64 (a0 / 64) 63))) % 256), .int .u8 ((wrap64 (128 + (Go.bits .and .i64 a0 63))) % 256)]) (ok := fun _ => True) (okp := fun _ => True) ?hr ?hp (fun _ hk => hk) trivial (Below.refl _ _) (Nat.le_refl _) (by simp) ?_; (case hd => rfl); (case hg => rfl); (case hr => first | (go_simp; done) | (go_simp; rfl)); (case hp => exact (Reps.one (show Kd.M (Kd.int .u8) _ _ _ ((wrap64 (224 + (a0 / 4096))) % 256) [.int .u8 ((wrap64 (224 + (a0 / 4096))) % 256)] from rfl) (Reps.one (show Kd.M (Kd.int .u8) _ _ _ ((wrap64 (128 + (Go.bits .and .i64 (a0 / 64) 63))) % 256) [.int .u8 ((wrap64 (128 + (Go.bits .and .i64 (a0 / 64) 63))) % 256)] from rfl) (Reps.one (show Kd.M (Kd.int .u8) _ _ _ ((wrap64 (128 + (Go.bits .and .i64 a0 63))) % 256) [.int .u8 ((wrap64 (128 + (Go.bits .and .i64 a0 63))) % 256)] from rfl) (Reps.none _ _))))); intro v119 w11 ho12 hb hg_ hnew_; clear hg_ hnew_; (first | rw [← Ny118.out] at ho12 | (simp only [Int.reduceToNat] at ho12; rw [← Ny118.out] at ho12)); have n0_ := Aside0.mk (Kd.R_lower ho12 (below_size (by repeat (first | (with_reducible first | exact HB.out | apply below_alloc | apply pw_below_drewN | apply below_drew1) | exact HB.out)))); have n1_ := Aside0.mk (below_step (by repeat (first | (with_reducible first | exact HB.out | apply below_alloc | apply pw_below_drewN | apply below_drew1) | exact HB.out)) hb); clear HB; have HO120 := n0_; have HB := n1_; clear n0_ n1_; clear hb ho12; have hcv13 := own_string (P := Try.prog) Try.underlying28 Try.underlying5 Try.underlying9 (Kd.own_of_R HO120.out)))
        go_ret
        exact ⟨by first | rfl | (simp [errW_none, errW_some] <;> rfl) | (simp [*, errW_none, errW_some] <;> rfl), by repeat (first | (with_reducible first | exact HB.out | apply below_alloc | apply pw_below_drewN | apply below_drew1) | exact HB.out)⟩
      · rw [if_neg c10] at H
        have c10b0 : decide (a0 < 65536) = false := decide_eq_false c10
        clear c10
        obtain ⟨y121, hy121⟩ : ∃ y_ : List Int, y_ = (([(wrap64 (240 + (a0 / 262144))) % 256, (wrap64 (128 + (Go.bits .and .i64 (a0 / 4096) 63))) % 256, (wrap64 (128 + (Go.bits .and .i64 (a0 / 64) 63))) % 256, (wrap64 (128 + (Go.bits .and .i64 a0 63))) % 256] : List Int)) := ⟨_, rfl⟩
        replace H : (some (strOfNums y121)) = some r := by first | (rw [hy121]; with_reducible exact H) | (have H2_ := (Option.bind_some _ _).symm.trans H; rw [hy121]; with_reducible exact H2_) | (have H2_ := (Option.bind_some _ _).symm.trans H; with_reducible exact H2_) | with_reducible exact H | (rw [hy121]; exact H) | exact H
        have Ny121 := Aside0.mk hy121
        clear hy121
        obtain rfl := Option.some.inj H
        go_enter Try.func14, Try.ntmps14
        go_wp2_with (first | ((with_reducible refine gate_dst (N := 59) rfl ?_); refine Kd.R_lit (Kd.int .u8) _ 5 ?hg (N := 59) ?hd (xs := ([(wrap64 (240 + (a0 / 262144))) % 256, (wrap64 (128 + (Go.bits .and .i64 (a0 / 4096) 63))) % 256, (wrap64 (128 + (Go.bits .and .i64 (a0 / 64) 63))) % 256, (wrap64 (128 + (Go.bits .and .i64 a0 63))) % 256] : List Int)) (inner := [.int .u8 ((wrap64 (240 + (a0 / 262144))) % 256), .int .u8 ((wrap64 (128 + (Go.bits .and .i64 (a0 / 4096) 63))) % 256), .int .u8 ((wrap64 (128 + (Go.bits .and .i64 (a0 / 64) 63))) % 256), .int .u8 ((wrap64 (128 + (Go.bits .and .i64 a0 63))) % 256)]) (ok := fun _ => True) (okp := fun _ => True) ?hr ?hp (fun _ hk => hk) trivial (Below.refl _ _) (Nat.le_refl _) (by simp) ?_; (case hd => rfl); (case hg => rfl); (case hr => first | (go_simp; done) | (go_simp; rfl)); (case hp => exact (Reps.one (show Kd.M (Kd.int .u8) _ _ _ ((wrap64 (240 + (a0 / 262144))) % 256) [.int .u8 ((wrap64 (240 + (a0 / 262144))) % 256)] from rfl) (Reps.one (show Kd.M (Kd.int .u8) _ _ _ ((wrap64 (128 + (Go.bits .and .i64 (a0 / 4096) 63))) % 256) [.int .u8 ((wrap64 (128 + (Go.bits .and .i64 (a0 / 4096) 63))) % 256)] from rfl) (Reps.one (show Kd.M (Kd.int .u8) _ _ _ ((wrap64 (128 + (Go.bits .and .i64 (a0 / 64) 63))) % 256) [.int .u8 ((wrap64 (128 + (Go.bits .and .i64 (a0 / 64) 63))) % 256)] from rfl) (Reps.one (show Kd.M (Kd.int .u8) _ _ _ ((wrap64 (128 + (Go.bits .and .i64 a0 63))) % 256) [.int .u8 ((wrap64 (128 + (Go.bits .and .i64 a0 63))) % 256)] from rfl) (Reps.none _ _)))))); intro v122 w14 ho15 hb hg_ hnew_; clear hg_ hnew_; (first | rw [← Ny121.out] at ho15 | (simp only [Int.reduceToNat] at ho15; rw [← Ny121.out] at ho15)); have n0_ := Aside0.mk (Kd.R_lower ho15 (below_size (by repeat (first | (with_reducible first | exact HB.out | apply below_alloc | apply pw_below_drewN | apply below_drew1) | exact HB.out)))); have n1_ := Aside0.mk (below_step (by repeat (first | (with_reducible first | exact HB.out | apply below_alloc | apply pw_below_drewN | apply below_drew1) | exact HB.out)) hb); clear HB; have HO123 := n0_; have HB := n1_; clear n0_ n1_; clear hb ho15; have hcv16 := own_string (P := Try.prog) Try.underlying28 Try.underlying5 Try.underlying9 (Kd.own_of_R HO123.out)))
        go_ret
        exact ⟨by first | rfl | (simp [errW_none, errW_some] <;> rfl) | (simp [*, errW_none, errW_some] <;> rfl), by repeat (first | (with_reducible first | exact HB.out | apply below_alloc | apply pw_below_drewN | apply below_drew1) | exact HB.out)⟩

/-! ### gripsacklaw5_TextJoins: function 5 -/
mutual
def gripsacklaw5_TextJoins.j0 : Nat → List Int → List Int → Int → Bool → Option (Bool)
  | 0, _, _, _, _ => none
  | k + 1, x0, x1, x2, x23 => if x23 = true then ((gripsacklaw5_awake.f).bind fun t124 => (some t124)) else (gripsacklaw5_TextJoins.l0 k x0 x1 x2 (⟨#[]⟩ : ByteArray) (⟨#[]⟩ : ByteArray) 0 0)
def gripsacklaw5_TextJoins.l0 : Nat → List Int → List Int → Int → ByteArray → ByteArray → Int → Int → Option (Bool)
  | 0, _, _, _, _, _, _, _ => none
  | k + 1, x0, x1, x2, x7, x8, x9, x10 => if x10 < (x0.length : Int) then (if 0 ≤ x10 then (if (Int.tmod (wrap64 (rd x0 x10)) 1114112) < 55296 then ((gripsacklaw5_put.f (Int.tmod (wrap64 (rd x0 x10)) 1114112)).bind fun t126 => (if x7.size + t126.size ≤ 9223372036854775807 then (gripsacklaw5_TextJoins.l0 k x0 x1 x2 (x7 ++ t126) x8 (wrap64 (x9 + 1)) (wrap64 (x10 + 1))) else (none))) else (if (Int.tmod (wrap64 (rd x0 x10)) 1114112) > 57343 then ((gripsacklaw5_put.f (Int.tmod (wrap64 (rd x0 x10)) 1114112)).bind fun t127 => (if x7.size + t127.size ≤ 9223372036854775807 then (gripsacklaw5_TextJoins.l0 k x0 x1 x2 (x7 ++ t127) x8 (wrap64 (x9 + 1)) (wrap64 (x10 + 1))) else (none))) else (gripsacklaw5_TextJoins.l0 k x0 x1 x2 x7 x8 x9 (wrap64 (x10 + 1))))) else (none)) else (gripsacklaw5_TextJoins.l1 k x1 x2 x7 x8 x9 0)
def gripsacklaw5_TextJoins.l1 : Nat → List Int → Int → ByteArray → ByteArray → Int → Int → Option (Bool)
  | 0, _, _, _, _, _, _ => none
  | k + 1, x1, x2, x7, x8, x9, x12 => if x12 < (x1.length : Int) then (if 0 ≤ x12 then ((gripsacklaw5_put.f (Int.tmod (wrap64 (rd x1 x12)) 55296)).bind fun t129 => (if x8.size + t129.size ≤ 9223372036854775807 then (gripsacklaw5_TextJoins.l1 k x1 x2 x7 (x8 ++ t129) x9 (wrap64 (x12 + 1))) else (none))) else (none)) else (if (wrap64 ((x8.size : Int) + 1)) = 0 then (none) else (if 0 ≤ (Int.tmod (wrap64 (x2)) (wrap64 ((x8.size : Int) + 1))) then (if (Int.tmod (wrap64 (x2)) (wrap64 ((x8.size : Int) + 1))) ≤ (x8.size : Int) then ((text_Bad.f (x8.extract 0 ((Int.tmod (wrap64 (x2)) (wrap64 ((x8.size : Int) + 1))) : Int).toNat)).bind fun t130 => ((text_Valid.f x7).bind fun t131 => (if t131 = true then ((text_Valid.f x8).bind fun t132 => (if t132 = true then (if x7.size + x8.size ≤ 9223372036854775807 then ((text_Valid.f (x7 ++ x8)).bind fun t133 => (if t133 = true then ((text_Count.f (x7 ++ x8)).bind fun t134 => (if t134 = (wrap64 (x9 + (x1.length : Int))) then (if t130 < 0 then (if x7.size + 1 ≤ 9223372036854775807 then (if (x7 ++ (⟨#[255]⟩ : ByteArray)).size + x8.size ≤ 9223372036854775807 then ((text_Bad.f ((x7 ++ (⟨#[255]⟩ : ByteArray)) ++ x8)).bind fun t135 => (if t135 = (x7.size : Int) then ((gripsacklaw5_awake.f).bind fun t136 => (some t136)) else (some false))) else (none)) else (none)) else (if t130 < (Int.tmod (wrap64 (x2)) (wrap64 ((x8.size : Int) + 1))) then (if (wrap64 ((Int.tmod (wrap64 (x2)) (wrap64 ((x8.size : Int) + 1))) - t130)) < 4 then (if x7.size + 1 ≤ 9223372036854775807 then (if (x7 ++ (⟨#[255]⟩ : ByteArray)).size + x8.size ≤ 9223372036854775807 then ((text_Bad.f ((x7 ++ (⟨#[255]⟩ : ByteArray)) ++ x8)).bind fun t137 => (if t137 = (x7.size : Int) then ((gripsacklaw5_awake.f).bind fun t138 => (some t138)) else (some false))) else (none)) else (none)) else (some false)) else (some false))) else (some false))) else (some false))) else (none)) else (some false))) else (some false)))) else (none)) else (none)))
end
def gripsacklaw5_TextJoins.f (k : Nat) (l0 : List Int) (l1 : List Int) (a2 : Int) : Option (Bool) := if (l0.length : Int) > 50 then (gripsacklaw5_TextJoins.j0 k l0 l1 a2 true) else (gripsacklaw5_TextJoins.j0 k l0 l1 a2 (decide ((l1.length : Int) > 50)))
theorem gripsacklaw5_TextJoins.mono_l : ∀ k, (∀ y0 y1 y2 y3, LeO (gripsacklaw5_TextJoins.j0 k y0 y1 y2 y3) (gripsacklaw5_TextJoins.j0 (k + 1) y0 y1 y2 y3)) ∧ (∀ y0 y1 y2 y3 y4 y5 y6, LeO (gripsacklaw5_TextJoins.l0 k y0 y1 y2 y3 y4 y5 y6) (gripsacklaw5_TextJoins.l0 (k + 1) y0 y1 y2 y3 y4 y5 y6)) ∧ (∀ y0 y1 y2 y3 y4 y5, LeO (gripsacklaw5_TextJoins.l1 k y0 y1 y2 y3 y4 y5) (gripsacklaw5_TextJoins.l1 (k + 1) y0 y1 y2 y3 y4 y5))
  | 0 => ⟨fun _ _ _ _ r h => by simp [gripsacklaw5_TextJoins.j0] at h, fun _ _ _ _ _ _ _ r h => by simp [gripsacklaw5_TextJoins.l0] at h, fun _ _ _ _ _ _ r h => by simp [gripsacklaw5_TextJoins.l1] at h⟩
  | k + 1 => by
    obtain ⟨ih0, ih1, ih2⟩ := gripsacklaw5_TextJoins.mono_l k
    refine ⟨?_, ?_, ?_⟩
    · intro y0 y1 y2 y3
      unfold gripsacklaw5_TextJoins.j0
      repeat' first
      | (with_reducible exact ih0 _ _ _ _)
      | (with_reducible exact ih1 _ _ _ _ _ _ _)
      | (with_reducible exact ih2 _ _ _ _ _ _)
      | (with_reducible exact LeO.refl _)
      | (with_reducible exact LeO.none _)
      | (with_reducible refine LeO.ite ?_ ?_)
      | (with_reducible refine LeO.bind ?_ (fun _ => ?_))
      | exact ih0 _ _ _ _
      | exact ih1 _ _ _ _ _ _ _
      | exact ih2 _ _ _ _ _ _
      | exact LeO.none _
      | refine LeO.ite ?_ ?_
      | refine LeO.bind ?_ (fun _ => ?_)
    · intro y0 y1 y2 y3 y4 y5 y6
      unfold gripsacklaw5_TextJoins.l0
      repeat' first
      | (with_reducible exact ih0 _ _ _ _)
      | (with_reducible exact ih1 _ _ _ _ _ _ _)
      | (with_reducible exact ih2 _ _ _ _ _ _)
      | (with_reducible exact LeO.refl _)
      | (with_reducible exact LeO.none _)
      | (with_reducible refine LeO.ite ?_ ?_)
      | (with_reducible refine LeO.bind ?_ (fun _ => ?_))
      | exact ih0 _ _ _ _
      | exact ih1 _ _ _ _ _ _ _
      | exact ih2 _ _ _ _ _ _
      | exact LeO.none _
      | refine LeO.ite ?_ ?_
      | refine LeO.bind ?_ (fun _ => ?_)
    · intro y0 y1 y2 y3 y4 y5
      unfold gripsacklaw5_TextJoins.l1
      repeat' first
      | (with_reducible exact ih0 _ _ _ _)
      | (with_reducible exact ih1 _ _ _ _ _ _ _)
      | (with_reducible exact ih2 _ _ _ _ _ _)
      | (with_reducible exact LeO.refl _)
      | (with_reducible exact LeO.none _)
      | (with_reducible refine LeO.ite ?_ ?_)
      | (with_reducible refine LeO.bind ?_ (fun _ => ?_))
      | exact ih0 _ _ _ _
      | exact ih1 _ _ _ _ _ _ _
      | exact ih2 _ _ _ _ _ _
      | exact LeO.none _
      | refine LeO.ite ?_ ?_
      | refine LeO.bind ?_ (fun _ => ?_)
theorem gripsacklaw5_TextJoins.mono : ∀ a0 a1 a2 k, LeO (gripsacklaw5_TextJoins.f k a0 a1 a2) (gripsacklaw5_TextJoins.f (k + 1) a0 a1 a2) := by
  intro a0 a1 a2 k
  obtain ⟨ih0, ih1, ih2⟩ := gripsacklaw5_TextJoins.mono_l k
  unfold gripsacklaw5_TextJoins.f
  repeat' first
      | (with_reducible exact ih0 _ _ _ _)
      | (with_reducible exact ih1 _ _ _ _ _ _ _)
      | (with_reducible exact ih2 _ _ _ _ _ _)
      | (with_reducible exact LeO.refl _)
      | (with_reducible exact LeO.none _)
      | (with_reducible refine LeO.ite ?_ ?_)
      | (with_reducible refine LeO.bind ?_ (fun _ => ?_))
      | exact ih0 _ _ _ _
      | exact ih1 _ _ _ _ _ _ _
      | exact ih2 _ _ _ _ _ _
      | exact LeO.none _
      | refine LeO.ite ?_ ?_
      | refine LeO.bind ?_ (fun _ => ?_)
set_option maxHeartbeats 8000000 in
set_option maxRecDepth 100000 in
theorem gripsacklaw5_TextJoins.calls (k : Nat) (A0 : Option Addr) (c0 : Nat) (l0 : List Int) (A1 : Option Addr) (c1 : Nat) (l1 : List Int) (a2 : Int) (r : Bool) (w : World) (hr0 : Kd.C (Kd.int .u32) w A0 l0.length l0) (hc0 : l0.length ≤ c0) (hr1 : Kd.C (Kd.int .u32) w A1 l1.length l1) (hc1 : l1.length ≤ c1) (h : gripsacklaw5_TextJoins.f k l0 l1 a2 = some r) :
    Calls Try.prog 5 #[.slice A0 l0.length c0, .slice A1 l1.length c1, .int .u8 a2] w fun e w' => e = .returned (.bool r) ∧ Below w.heap.size w w' := by
  have HR0 := Aside0.mk hr0
  have HC0 := Aside0.mk hc0
  clear hr0 hc0
  have HR1 := Aside0.mk hr1
  have HC1 := Aside0.mk hc1
  clear hr1 hc1
  have HB := Aside0.mk (Below.refl w.heap.size w)
  have H : (if (l0.length : Int) > 50 then (gripsacklaw5_TextJoins.j0 k l0 l1 a2 true) else (gripsacklaw5_TextJoins.j0 k l0 l1 a2 (decide ((l1.length : Int) > 50)))) = some r := h
  clear h
  have HC4 := Aside0.mk H
  clear H
  go_enter Try.func5, Try.ntmps5
  go_upto_region 1 with (fail)
  go_cut [23] (fun v23 wc => ∃ (kq : Nat) (x23_3 : Bool), v23 = .bool x23_3 ∧ Aside0 (gripsacklaw5_TextJoins.j0 kq l0 l1 a2 x23_3 = some r) ∧ Aside0 (kq ≤ k) ∧ Aside0 (Below w.heap.size w wc))
  case first =>
    have H := HC4.out
    clear HC4
    by_cases c5 : (l0.length : Int) > 50
    · rw [if_pos c5] at H
      have c5b0 : decide (50 < (l0.length : Int)) = true := decide_eq_true c5
      have c5b1 : decide (50 < l0.length) = true := decide_eq_true (by omega)
      clear c5
      (first | rw [c5b0] | (simp only [i64_w, i32_w]; rw [c5b0]) | skip)
      have H' := Aside0.mk H
      clear H
      go_wp2
      go_meet
      case rel => exact ⟨_, (true), (by first | rfl | (simp; done) | (simp [*]; done)), H', ⟨by first | omega | exact Nat.le_refl _⟩, ⟨by repeat (first | (with_reducible first | exact HB.out | apply below_alloc | apply pw_below_drewN | apply below_drew1) | exact HB.out)⟩⟩
    · rw [if_neg c5] at H
      have c5b0 : decide (50 < (l0.length : Int)) = false := decide_eq_false c5
      have c5b1 : decide (50 < l0.length) = false := decide_eq_false (by omega)
      clear c5
      (first | rw [c5b0] | (simp only [i64_w, i32_w]; rw [c5b0]) | skip)
      have H' := Aside0.mk H
      clear H
      go_wp2
      go_meet
      case rel => exact ⟨_, (decide ((l1.length : Int) > 50)), (by first | rfl | (simp; done) | (simp [*]; done)), H', ⟨by first | omega | exact Nat.le_refl _⟩, ⟨by repeat (first | (with_reducible first | exact HB.out | apply below_alloc | apply pw_below_drewN | apply below_drew1) | exact HB.out)⟩⟩
  case rest =>
    clear HC4
    try clear c1
    try clear p2
    try clear c5
    try clear c5b0
    try clear c5b1
    obtain ⟨kq, x23_3, rfl, HA, HJ3, HB⟩ := hcut
    cases kq with
    | zero => exact absurd HA.out (by simp [gripsacklaw5_TextJoins.j0])
    | succ kj3 =>
      have H := HA.out
      clear HA
      simp only [gripsacklaw5_TextJoins.j0] at H
      by_cases c6 : x23_3 = true
      · subst c6
        have H1 : ((gripsacklaw5_awake.f).bind fun t124 => (some t124)) = some r := by rw [if_pos rfl] at H; exact H
        clear H
        have H := H1
        clear H1
        replace H := Option.bind_eq_some_iff.mp H
        obtain ⟨t124, A70, H⟩ := H
        replace H : (some t124) = some r := H
        have A7 := Aside0.mk A70
        clear A70
        obtain rfl := Option.some.inj H
        go_wp2_with (first | ((with_reducible refine gate_callee (f := 7) rfl ?_); refine goesL_ (some 24) rfl rfl Try.func7 (by kernel_rfl) rfl #[] rfl (by (try simp only [List.map_toArray, List.map_cons, List.map_nil]); first | done | rfl | (simp only [List.length_drop, List.length_take]; rfl)) ?_; (with_reducible refine (gripsacklaw5_awake.calls  t124 _ A7.out).mono ?_); rintro e w8 ⟨rfl, hb⟩; refine ⟨_, rfl, ?_⟩; have n0_ := Aside0.mk (below_step (by repeat (first | (with_reducible first | exact HB.out | apply below_alloc | apply pw_below_drewN | apply below_drew1) | exact HB.out)) hb); clear HB; have HB := n0_; clear n0_; (try clear hb); (try clear hb2); (try clear hk); (try clear hi)))
        go_ret
        exact ⟨by first | rfl | (simp [errW_none, errW_some] <;> rfl) | (simp [*, errW_none, errW_some] <;> rfl), by repeat (first | (with_reducible first | exact HB.out | apply below_alloc | apply pw_below_drewN | apply below_drew1) | exact HB.out)⟩
      · replace c6 := Bool.eq_false_iff.mpr c6
        subst c6
        have H1 : (gripsacklaw5_TextJoins.l0 kj3 l0 l1 a2 (⟨#[]⟩ : ByteArray) (⟨#[]⟩ : ByteArray) 0 0) = some r := by rw [if_neg (show ¬ (false = true) by decide)] at H; exact H
        clear H
        have H := H1
        clear H1
        have H' := Aside0.mk H
        clear H
        go_wp2
        go_loopg [7, 9, 10] kj3 (fun kq v7 v9 v10 w' => ∃ (x7_2 : ByteArray) (x9_2 : Int) (x10_2 : Int), v7 = .string x7_2 ∧ v9 = .int .i64 x9_2 ∧ v10 = .int .i64 x10_2 ∧ Aside0 (gripsacklaw5_TextJoins.l0 kq l0 l1 a2 x7_2 (⟨#[]⟩ : ByteArray) x9_2 x10_2 = some r) ∧ Aside0 (kq ≤ kj3) ∧ Aside0 (Below w.heap.size w w'))
        case atStart => exact ⟨((⟨#[]⟩ : ByteArray)), (0), (0), (by first | rfl | (simp; done) | (simp [*]; done)), (by first | rfl | (simp; done) | (simp [*]; done)), (by first | rfl | (simp; done) | (simp [*]; done)), H', ⟨Nat.le_refl _⟩, ⟨by repeat (first | (with_reducible first | exact HB.out | apply below_alloc | apply pw_below_drewN | apply below_drew1) | exact HB.out)⟩⟩
        case round =>
          clear H'
          try clear c1
          try clear p2
          try clear c5
          try clear c5b0
          try clear c5b1
          try clear c6
          try clear c7
          try clear p2
          obtain ⟨x7_2, x9_2, x10_2, rfl, rfl, rfl, HA, HK2, HB⟩ := hrel
          cases gk with
          | zero => exact absurd HA.out (by simp [gripsacklaw5_TextJoins.l0])
          | succ k2 =>
            have H := HA.out
            clear HA
            simp only [gripsacklaw5_TextJoins.l0] at H
            by_cases c9 : x10_2 < (l0.length : Int)
            · rw [if_pos c9] at H
              have c9b0 : decide (x10_2 < (l0.length : Int)) = true := decide_eq_true c9
              clear c9
              by_cases c10 : 0 ≤ x10_2
              · rw [if_pos c10] at H
                have c10b0 : decide (0 ≤ x10_2) = true := decide_eq_true c10
                clear c10
                by_cases c11 : (Int.tmod (wrap64 (rd l0 x10_2)) 1114112) < 55296
                · rw [if_pos c11] at H
                  have c11b0 : decide ((Int.tmod (wrap64 (rd l0 x10_2)) 1114112) < 55296) = true := decide_eq_true c11
                  clear c11
                  replace H := Option.bind_eq_some_iff.mp H
                  obtain ⟨t126, A120, H⟩ := H
                  replace H : (if x7_2.size + t126.size ≤ 9223372036854775807 then (gripsacklaw5_TextJoins.l0 k2 l0 l1 a2 (x7_2 ++ t126) (⟨#[]⟩ : ByteArray) (wrap64 (x9_2 + 1)) (wrap64 (x10_2 + 1))) else (none)) = some r := H
                  have A12 := Aside0.mk A120
                  clear A120
                  by_cases c13 : x7_2.size + t126.size ≤ 9223372036854775807
                  · rw [if_pos c13] at H
                    have c13b0 := eq_true c13
                    have c13b1 : decide (x7_2.size + t126.size ≤ 9223372036854775807) = true := decide_eq_true c13
                    try have c13b2 : (9223372036854775807 < x7_2.size + t126.size) = False := eq_false (Nat.not_lt.2 c13)
                    have H' := Aside0.mk H
                    clear H
                    have p125 : 0 ≤ (x10_2 : Int) := of_decide_eq_true (by first | (with_reducible assumption) | assumption)
                    have q125 : x10_2 < (l0.length : Int) := of_decide_eq_true (by first | (with_reducible assumption) | assumption)
                    obtain ⟨ad125, e125, hx125_0⟩ := Kd.at_int HR0.out x10_2 p125 q125
                    cases e125
                    replace hx125_0 := (HB.out.cell (World.block_lt_of_cell? w _ hx125_0)).trans hx125_0
                    replace p125 := eq_true p125
                    replace q125 := eq_true q125
                    go_wp2_with (first | ((with_reducible refine gate_callee (f := 14) rfl ?_); refine goesL_ (some 45) rfl rfl Try.func14 (by kernel_rfl) rfl #[.int .i64 (Int.tmod (wrap64 (rd l0 x10_2)) 1114112)] rfl (by (try simp only [List.map_toArray, List.map_cons, List.map_nil]); first | done | rfl | (simp only [List.length_drop, List.length_take]; rfl)) ?_; (with_reducible refine (gripsacklaw5_put.calls (Int.tmod (wrap64 (rd l0 x10_2)) 1114112) t126 _ A12.out).mono ?_); rintro e w14 ⟨rfl, hb⟩; refine ⟨_, rfl, ?_⟩; have n0_ := Aside0.mk (below_step (by repeat (first | (with_reducible first | exact HB.out | apply below_alloc | apply pw_below_drewN | apply below_drew1) | exact HB.out)) hb); clear HB; have HB := n0_; clear n0_; (try clear hb); (try clear hb2); (try clear hk); (try clear hi)))
                    go_roundg k2
                    case measure => have := HJ3.out; have := HK2.out; omega
                    case rel => exact ⟨(x7_2 ++ t126), (wrap64 (x9_2 + 1)), (wrap64 (x10_2 + 1)), (by first | rfl | (simp; done) | (simp [*]; done)), (by first | rfl | (simp; done) | (simp [*]; done)), (by first | rfl | (simp; done) | (simp [*]; done)), H', ⟨by have := HJ3.out; have := HK2.out; omega⟩, ⟨by repeat (first | (with_reducible first | exact HB.out | apply below_alloc | apply pw_below_drewN | apply below_drew1) | exact HB.out)⟩⟩
                  · rw [if_neg c13] at H
                    exact absurd H (by simp)
                · rw [if_neg c11] at H
                  have c11b0 : decide ((Int.tmod (wrap64 (rd l0 x10_2)) 1114112) < 55296) = false := decide_eq_false c11
                  clear c11
                  by_cases c15 : (Int.tmod (wrap64 (rd l0 x10_2)) 1114112) > 57343
                  · rw [if_pos c15] at H
                    have c15b0 : decide (57343 < (Int.tmod (wrap64 (rd l0 x10_2)) 1114112)) = true := decide_eq_true c15
                    clear c15
                    replace H := Option.bind_eq_some_iff.mp H
                    obtain ⟨t127, A160, H⟩ := H
                    replace H : (if x7_2.size + t127.size ≤ 9223372036854775807 then (gripsacklaw5_TextJoins.l0 k2 l0 l1 a2 (x7_2 ++ t127) (⟨#[]⟩ : ByteArray) (wrap64 (x9_2 + 1)) (wrap64 (x10_2 + 1))) else (none)) = some r := H
                    have A16 := Aside0.mk A160
                    clear A160
                    by_cases c17 : x7_2.size + t127.size ≤ 9223372036854775807
                    · rw [if_pos c17] at H
                      have c17b0 := eq_true c17
                      have c17b1 : decide (x7_2.size + t127.size ≤ 9223372036854775807) = true := decide_eq_true c17
                      try have c17b2 : (9223372036854775807 < x7_2.size + t127.size) = False := eq_false (Nat.not_lt.2 c17)
                      have H' := Aside0.mk H
                      clear H
                      have p125 : 0 ≤ (x10_2 : Int) := of_decide_eq_true (by first | (with_reducible assumption) | assumption)
                      have q125 : x10_2 < (l0.length : Int) := of_decide_eq_true (by first | (with_reducible assumption) | assumption)
                      obtain ⟨ad125, e125, hx125_0⟩ := Kd.at_int HR0.out x10_2 p125 q125
                      cases e125
                      replace hx125_0 := (HB.out.cell (World.block_lt_of_cell? w _ hx125_0)).trans hx125_0
                      replace p125 := eq_true p125
                      replace q125 := eq_true q125
                      go_wp2_with (first | ((with_reducible refine gate_callee (f := 14) rfl ?_); refine goesL_ (some 45) rfl rfl Try.func14 (by kernel_rfl) rfl #[.int .i64 (Int.tmod (wrap64 (rd l0 x10_2)) 1114112)] rfl (by (try simp only [List.map_toArray, List.map_cons, List.map_nil]); first | done | rfl | (simp only [List.length_drop, List.length_take]; rfl)) ?_; (with_reducible refine (gripsacklaw5_put.calls (Int.tmod (wrap64 (rd l0 x10_2)) 1114112) t127 _ A16.out).mono ?_); rintro e w18 ⟨rfl, hb⟩; refine ⟨_, rfl, ?_⟩; have n0_ := Aside0.mk (below_step (by repeat (first | (with_reducible first | exact HB.out | apply below_alloc | apply pw_below_drewN | apply below_drew1) | exact HB.out)) hb); clear HB; have HB := n0_; clear n0_; (try clear hb); (try clear hb2); (try clear hk); (try clear hi)))
                      go_roundg k2
                      case measure => have := HJ3.out; have := HK2.out; omega
                      case rel => exact ⟨(x7_2 ++ t127), (wrap64 (x9_2 + 1)), (wrap64 (x10_2 + 1)), (by first | rfl | (simp; done) | (simp [*]; done)), (by first | rfl | (simp; done) | (simp [*]; done)), (by first | rfl | (simp; done) | (simp [*]; done)), H', ⟨by have := HJ3.out; have := HK2.out; omega⟩, ⟨by repeat (first | (with_reducible first | exact HB.out | apply below_alloc | apply pw_below_drewN | apply below_drew1) | exact HB.out)⟩⟩
                    · rw [if_neg c17] at H
                      exact absurd H (by simp)
                  · rw [if_neg c15] at H
                    have c15b0 : decide (57343 < (Int.tmod (wrap64 (rd l0 x10_2)) 1114112)) = false := decide_eq_false c15
                    clear c15
                    have H' := Aside0.mk H
                    clear H
                    have p125 : 0 ≤ (x10_2 : Int) := of_decide_eq_true (by first | (with_reducible assumption) | assumption)
                    have q125 : x10_2 < (l0.length : Int) := of_decide_eq_true (by first | (with_reducible assumption) | assumption)
                    obtain ⟨ad125, e125, hx125_0⟩ := Kd.at_int HR0.out x10_2 p125 q125
                    cases e125
                    replace hx125_0 := (HB.out.cell (World.block_lt_of_cell? w _ hx125_0)).trans hx125_0
                    replace p125 := eq_true p125
                    replace q125 := eq_true q125
                    go_wp2
                    go_roundg k2
                    case measure => have := HJ3.out; have := HK2.out; omega
                    case rel => exact ⟨(x7_2), (x9_2), (wrap64 (x10_2 + 1)), (by first | rfl | (simp; done) | (simp [*]; done)), (by first | rfl | (simp; done) | (simp [*]; done)), (by first | rfl | (simp; done) | (simp [*]; done)), H', ⟨by have := HJ3.out; have := HK2.out; omega⟩, ⟨by repeat (first | (with_reducible first | exact HB.out | apply below_alloc | apply pw_below_drewN | apply below_drew1) | exact HB.out)⟩⟩
              · rw [if_neg c10] at H
                exact absurd H (by simp)
            · rw [if_neg c9] at H
              have c9b0 : decide (x10_2 < (l0.length : Int)) = false := decide_eq_false c9
              clear c9
              have H' := Aside0.mk H
              clear H
              go_wp2
              go_loopg [8, 12] k2 (fun kq v8 v12 w' => ∃ (x8_3 : ByteArray) (x12_3 : Int), v8 = .string x8_3 ∧ v12 = .int .i64 x12_3 ∧ Aside0 (gripsacklaw5_TextJoins.l1 kq l1 a2 x7_2 x8_3 x9_2 x12_3 = some r) ∧ Aside0 (kq ≤ k2) ∧ Aside0 (Below w.heap.size w w'))
              case atStart => exact ⟨((⟨#[]⟩ : ByteArray)), (0), (by first | rfl | (simp; done) | (simp [*]; done)), (by first | rfl | (simp; done) | (simp [*]; done)), H', ⟨Nat.le_refl _⟩, ⟨by repeat (first | (with_reducible first | exact HB.out | apply below_alloc | apply pw_below_drewN | apply below_drew1) | exact HB.out)⟩⟩
              case round =>
                clear H'
                try clear c1
                try clear p1
                try clear q1
                try clear hx1
                try clear p2
                try clear c5
                try clear c5b0
                try clear c5b1
                try clear c6
                try clear p6
                try clear c7
                try clear c9
                try clear c9b0
                try clear c10
                try clear c10b0
                try clear c11
                try clear c11b0
                try clear p12
                try clear q12
                try clear hx12
                try clear c13
                try clear c13b0
                try clear c13b1
                try clear c13b2
                try clear c14
                try clear c15
                try clear c15b0
                try clear c17
                try clear c17b0
                try clear c17b1
                try clear c17b2
                try clear hx125_0
                try clear p125
                try clear p2
                try clear q125
                obtain ⟨x8_3, x12_3, rfl, rfl, HA, HK3, HB⟩ := hrel
                cases gk with
                | zero => exact absurd HA.out (by simp [gripsacklaw5_TextJoins.l1])
                | succ k3 =>
                  have H := HA.out
                  clear HA
                  simp only [gripsacklaw5_TextJoins.l1] at H
                  by_cases c19 : x12_3 < (l1.length : Int)
                  · rw [if_pos c19] at H
                    have c19b0 : decide (x12_3 < (l1.length : Int)) = true := decide_eq_true c19
                    clear c19
                    by_cases c20 : 0 ≤ x12_3
                    · rw [if_pos c20] at H
                      have c20b0 : decide (0 ≤ x12_3) = true := decide_eq_true c20
                      clear c20
                      replace H := Option.bind_eq_some_iff.mp H
                      obtain ⟨t129, A210, H⟩ := H
                      replace H : (if x8_3.size + t129.size ≤ 9223372036854775807 then (gripsacklaw5_TextJoins.l1 k3 l1 a2 x7_2 (x8_3 ++ t129) x9_2 (wrap64 (x12_3 + 1))) else (none)) = some r := H
                      have A21 := Aside0.mk A210
                      clear A210
                      by_cases c22 : x8_3.size + t129.size ≤ 9223372036854775807
                      · rw [if_pos c22] at H
                        have c22b0 := eq_true c22
                        have c22b1 : decide (x8_3.size + t129.size ≤ 9223372036854775807) = true := decide_eq_true c22
                        try have c22b2 : (9223372036854775807 < x8_3.size + t129.size) = False := eq_false (Nat.not_lt.2 c22)
                        have H' := Aside0.mk H
                        clear H
                        have p128 : 0 ≤ (x12_3 : Int) := of_decide_eq_true (by first | (with_reducible assumption) | assumption)
                        have q128 : x12_3 < (l1.length : Int) := of_decide_eq_true (by first | (with_reducible assumption) | assumption)
                        obtain ⟨ad128, e128, hx128_0⟩ := Kd.at_int HR1.out x12_3 p128 q128
                        cases e128
                        replace hx128_0 := (HB.out.cell (World.block_lt_of_cell? w _ hx128_0)).trans hx128_0
                        replace p128 := eq_true p128
                        replace q128 := eq_true q128
                        go_wp2_with (first | ((with_reducible refine gate_callee (f := 14) rfl ?_); refine goesL_ (some 63) rfl rfl Try.func14 (by kernel_rfl) rfl #[.int .i64 (Int.tmod (wrap64 (rd l1 x12_3)) 55296)] rfl (by (try simp only [List.map_toArray, List.map_cons, List.map_nil]); first | done | rfl | (simp only [List.length_drop, List.length_take]; rfl)) ?_; (with_reducible refine (gripsacklaw5_put.calls (Int.tmod (wrap64 (rd l1 x12_3)) 55296) t129 _ A21.out).mono ?_); rintro e w23 ⟨rfl, hb⟩; refine ⟨_, rfl, ?_⟩; have n0_ := Aside0.mk (below_step (by repeat (first | (with_reducible first | exact HB.out | apply below_alloc | apply pw_below_drewN | apply below_drew1) | exact HB.out)) hb); clear HB; have HB := n0_; clear n0_; (try clear hb); (try clear hb2); (try clear hk); (try clear hi)))
                        go_roundg k3
                        case measure => have := HJ3.out; have := HK2.out; have := HK3.out; omega
                        case rel => exact ⟨(x8_3 ++ t129), (wrap64 (x12_3 + 1)), (by first | rfl | (simp; done) | (simp [*]; done)), (by first | rfl | (simp; done) | (simp [*]; done)), H', ⟨by have := HJ3.out; have := HK2.out; have := HK3.out; omega⟩, ⟨by repeat (first | (with_reducible first | exact HB.out | apply below_alloc | apply pw_below_drewN | apply below_drew1) | exact HB.out)⟩⟩
                      · rw [if_neg c22] at H
                        exact absurd H (by simp)
                    · rw [if_neg c20] at H
                      exact absurd H (by simp)
                  · rw [if_neg c19] at H
                    have c19b0 : decide (x12_3 < (l1.length : Int)) = false := decide_eq_false c19
                    clear c19
                    by_cases c24 : (wrap64 ((x8_3.size : Int) + 1)) = 0
                    · rw [if_pos c24] at H
                      exact absurd H (by simp)
                    · rw [if_neg c24] at H
                      have c24b0 : ((wrap64 ((x8_3.size : Int) + 1)) == 0) = false := beq_eq_false_iff_ne.mpr c24
                      have c24b1 : ((wrap64 ((x8_3.size : Int) + 1)) != 0) = true := bne_iff_ne.mpr c24
                      obtain ⟨ji25, hji25⟩ : ∃ j_ : Int, (Int.tmod (wrap64 (a2)) (wrap64 ((x8_3.size : Int) + 1))) = j_ := ⟨_, rfl⟩
                      replace H : (if 0 ≤ (ji25) then (if (ji25) ≤ (x8_3.size : Int) then ((text_Bad.f (x8_3.extract 0 ((ji25) : Int).toNat)).bind fun t130 => ((text_Valid.f x7_2).bind fun t131 => (if t131 = true then ((text_Valid.f x8_3).bind fun t132 => (if t132 = true then (if x7_2.size + x8_3.size ≤ 9223372036854775807 then ((text_Valid.f (x7_2 ++ x8_3)).bind fun t133 => (if t133 = true then ((text_Count.f (x7_2 ++ x8_3)).bind fun t134 => (if t134 = (wrap64 (x9_2 + (l1.length : Int))) then (if t130 < 0 then (if x7_2.size + 1 ≤ 9223372036854775807 then (if (x7_2 ++ (⟨#[255]⟩ : ByteArray)).size + x8_3.size ≤ 9223372036854775807 then ((text_Bad.f ((x7_2 ++ (⟨#[255]⟩ : ByteArray)) ++ x8_3)).bind fun t135 => (if t135 = (x7_2.size : Int) then ((gripsacklaw5_awake.f).bind fun t136 => (some t136)) else (some false))) else (none)) else (none)) else (if t130 < (ji25) then (if (wrap64 ((ji25) - t130)) < 4 then (if x7_2.size + 1 ≤ 9223372036854775807 then (if (x7_2 ++ (⟨#[255]⟩ : ByteArray)).size + x8_3.size ≤ 9223372036854775807 then ((text_Bad.f ((x7_2 ++ (⟨#[255]⟩ : ByteArray)) ++ x8_3)).bind fun t137 => (if t137 = (x7_2.size : Int) then ((gripsacklaw5_awake.f).bind fun t138 => (some t138)) else (some false))) else (none)) else (none)) else (some false)) else (some false))) else (some false))) else (some false))) else (none)) else (some false))) else (some false)))) else (none)) else (none)) = some r := by first | (rw [hji25] at H; exact H) | (simp only [hji25] at H ⊢; exact H)
                      by_cases c26 : 0 ≤ (ji25)
                      · rw [if_pos c26] at H
                        have c26b0 := eq_true c26
                        have c26b1 : decide (0 ≤ (ji25)) = true := decide_eq_true c26
                        clear c26
                        by_cases c27 : (ji25) ≤ (x8_3.size : Int)
                        · rw [if_pos c27] at H
                          have c27b0 := eq_true c27
                          have c27b1 : decide ((ji25) ≤ (x8_3.size : Int)) = true := decide_eq_true c27
                          clear c27
                          replace H := Option.bind_eq_some_iff.mp H
                          obtain ⟨t130, A280, H⟩ := H
                          replace H : ((text_Valid.f x7_2).bind fun t131 => (if t131 = true then ((text_Valid.f x8_3).bind fun t132 => (if t132 = true then (if x7_2.size + x8_3.size ≤ 9223372036854775807 then ((text_Valid.f (x7_2 ++ x8_3)).bind fun t133 => (if t133 = true then ((text_Count.f (x7_2 ++ x8_3)).bind fun t134 => (if t134 = (wrap64 (x9_2 + (l1.length : Int))) then (if t130 < 0 then (if x7_2.size + 1 ≤ 9223372036854775807 then (if (x7_2 ++ (⟨#[255]⟩ : ByteArray)).size + x8_3.size ≤ 9223372036854775807 then ((text_Bad.f ((x7_2 ++ (⟨#[255]⟩ : ByteArray)) ++ x8_3)).bind fun t135 => (if t135 = (x7_2.size : Int) then ((gripsacklaw5_awake.f).bind fun t136 => (some t136)) else (some false))) else (none)) else (none)) else (if t130 < (ji25) then (if (wrap64 ((ji25) - t130)) < 4 then (if x7_2.size + 1 ≤ 9223372036854775807 then (if (x7_2 ++ (⟨#[255]⟩ : ByteArray)).size + x8_3.size ≤ 9223372036854775807 then ((text_Bad.f ((x7_2 ++ (⟨#[255]⟩ : ByteArray)) ++ x8_3)).bind fun t137 => (if t137 = (x7_2.size : Int) then ((gripsacklaw5_awake.f).bind fun t138 => (some t138)) else (some false))) else (none)) else (none)) else (some false)) else (some false))) else (some false))) else (some false))) else (none)) else (some false))) else (some false))) = some r := H
                          have A28 := Aside0.mk A280
                          clear A280
                          replace H := Option.bind_eq_some_iff.mp H
                          obtain ⟨t131, A290, H⟩ := H
                          replace H : (if t131 = true then ((text_Valid.f x8_3).bind fun t132 => (if t132 = true then (if x7_2.size + x8_3.size ≤ 9223372036854775807 then ((text_Valid.f (x7_2 ++ x8_3)).bind fun t133 => (if t133 = true then ((text_Count.f (x7_2 ++ x8_3)).bind fun t134 => (if t134 = (wrap64 (x9_2 + (l1.length : Int))) then (if t130 < 0 then (if x7_2.size + 1 ≤ 9223372036854775807 then (if (x7_2 ++ (⟨#[255]⟩ : ByteArray)).size + x8_3.size ≤ 9223372036854775807 then ((text_Bad.f ((x7_2 ++ (⟨#[255]⟩ : ByteArray)) ++ x8_3)).bind fun t135 => (if t135 = (x7_2.size : Int) then ((gripsacklaw5_awake.f).bind fun t136 => (some t136)) else (some false))) else (none)) else (none)) else (if t130 < (ji25) then (if (wrap64 ((ji25) - t130)) < 4 then (if x7_2.size + 1 ≤ 9223372036854775807 then (if (x7_2 ++ (⟨#[255]⟩ : ByteArray)).size + x8_3.size ≤ 9223372036854775807 then ((text_Bad.f ((x7_2 ++ (⟨#[255]⟩ : ByteArray)) ++ x8_3)).bind fun t137 => (if t137 = (x7_2.size : Int) then ((gripsacklaw5_awake.f).bind fun t138 => (some t138)) else (some false))) else (none)) else (none)) else (some false)) else (some false))) else (some false))) else (some false))) else (none)) else (some false))) else (some false)) = some r := H
                          have A29 := Aside0.mk A290
                          clear A290
                          by_cases c30 : t131 = true
                          · subst c30
                            have H1 : ((text_Valid.f x8_3).bind fun t132 => (if t132 = true then (if x7_2.size + x8_3.size ≤ 9223372036854775807 then ((text_Valid.f (x7_2 ++ x8_3)).bind fun t133 => (if t133 = true then ((text_Count.f (x7_2 ++ x8_3)).bind fun t134 => (if t134 = (wrap64 (x9_2 + (l1.length : Int))) then (if t130 < 0 then (if x7_2.size + 1 ≤ 9223372036854775807 then (if (x7_2 ++ (⟨#[255]⟩ : ByteArray)).size + x8_3.size ≤ 9223372036854775807 then ((text_Bad.f ((x7_2 ++ (⟨#[255]⟩ : ByteArray)) ++ x8_3)).bind fun t135 => (if t135 = (x7_2.size : Int) then ((gripsacklaw5_awake.f).bind fun t136 => (some t136)) else (some false))) else (none)) else (none)) else (if t130 < (ji25) then (if (wrap64 ((ji25) - t130)) < 4 then (if x7_2.size + 1 ≤ 9223372036854775807 then (if (x7_2 ++ (⟨#[255]⟩ : ByteArray)).size + x8_3.size ≤ 9223372036854775807 then ((text_Bad.f ((x7_2 ++ (⟨#[255]⟩ : ByteArray)) ++ x8_3)).bind fun t137 => (if t137 = (x7_2.size : Int) then ((gripsacklaw5_awake.f).bind fun t138 => (some t138)) else (some false))) else (none)) else (none)) else (some false)) else (some false))) else (some false))) else (some false))) else (none)) else (some false))) = some r := by rw [if_pos rfl] at H; exact H
                            clear H
                            have H := H1
                            clear H1
                            replace H := Option.bind_eq_some_iff.mp H
                            obtain ⟨t132, A310, H⟩ := H
                            replace H : (if t132 = true then (if x7_2.size + x8_3.size ≤ 9223372036854775807 then ((text_Valid.f (x7_2 ++ x8_3)).bind fun t133 => (if t133 = true then ((text_Count.f (x7_2 ++ x8_3)).bind fun t134 => (if t134 = (wrap64 (x9_2 + (l1.length : Int))) then (if t130 < 0 then (if x7_2.size + 1 ≤ 9223372036854775807 then (if (x7_2 ++ (⟨#[255]⟩ : ByteArray)).size + x8_3.size ≤ 9223372036854775807 then ((text_Bad.f ((x7_2 ++ (⟨#[255]⟩ : ByteArray)) ++ x8_3)).bind fun t135 => (if t135 = (x7_2.size : Int) then ((gripsacklaw5_awake.f).bind fun t136 => (some t136)) else (some false))) else (none)) else (none)) else (if t130 < (ji25) then (if (wrap64 ((ji25) - t130)) < 4 then (if x7_2.size + 1 ≤ 9223372036854775807 then (if (x7_2 ++ (⟨#[255]⟩ : ByteArray)).size + x8_3.size ≤ 9223372036854775807 then ((text_Bad.f ((x7_2 ++ (⟨#[255]⟩ : ByteArray)) ++ x8_3)).bind fun t137 => (if t137 = (x7_2.size : Int) then ((gripsacklaw5_awake.f).bind fun t138 => (some t138)) else (some false))) else (none)) else (none)) else (some false)) else (some false))) else (some false))) else (some false))) else (none)) else (some false)) = some r := H
                            have A31 := Aside0.mk A310
                            clear A310
                            by_cases c32 : t132 = true
                            · subst c32
                              have H1 : (if x7_2.size + x8_3.size ≤ 9223372036854775807 then ((text_Valid.f (x7_2 ++ x8_3)).bind fun t133 => (if t133 = true then ((text_Count.f (x7_2 ++ x8_3)).bind fun t134 => (if t134 = (wrap64 (x9_2 + (l1.length : Int))) then (if t130 < 0 then (if x7_2.size + 1 ≤ 9223372036854775807 then (if (x7_2 ++ (⟨#[255]⟩ : ByteArray)).size + x8_3.size ≤ 9223372036854775807 then ((text_Bad.f ((x7_2 ++ (⟨#[255]⟩ : ByteArray)) ++ x8_3)).bind fun t135 => (if t135 = (x7_2.size : Int) then ((gripsacklaw5_awake.f).bind fun t136 => (some t136)) else (some false))) else (none)) else (none)) else (if t130 < (ji25) then (if (wrap64 ((ji25) - t130)) < 4 then (if x7_2.size + 1 ≤ 9223372036854775807 then (if (x7_2 ++ (⟨#[255]⟩ : ByteArray)).size + x8_3.size ≤ 9223372036854775807 then ((text_Bad.f ((x7_2 ++ (⟨#[255]⟩ : ByteArray)) ++ x8_3)).bind fun t137 => (if t137 = (x7_2.size : Int) then ((gripsacklaw5_awake.f).bind fun t138 => (some t138)) else (some false))) else (none)) else (none)) else (some false)) else (some false))) else (some false))) else (some false))) else (none)) = some r := by rw [if_pos rfl] at H; exact H
                              clear H
                              have H := H1
                              clear H1
                              by_cases c33 : x7_2.size + x8_3.size ≤ 9223372036854775807
                              · rw [if_pos c33] at H
                                have c33b0 := eq_true c33
                                have c33b1 : decide (x7_2.size + x8_3.size ≤ 9223372036854775807) = true := decide_eq_true c33
                                try have c33b2 : (9223372036854775807 < x7_2.size + x8_3.size) = False := eq_false (Nat.not_lt.2 c33)
                                replace H := Option.bind_eq_some_iff.mp H
                                obtain ⟨t133, A340, H⟩ := H
                                replace H : (if t133 = true then ((text_Count.f (x7_2 ++ x8_3)).bind fun t134 => (if t134 = (wrap64 (x9_2 + (l1.length : Int))) then (if t130 < 0 then (if x7_2.size + 1 ≤ 9223372036854775807 then (if (x7_2 ++ (⟨#[255]⟩ : ByteArray)).size + x8_3.size ≤ 9223372036854775807 then ((text_Bad.f ((x7_2 ++ (⟨#[255]⟩ : ByteArray)) ++ x8_3)).bind fun t135 => (if t135 = (x7_2.size : Int) then ((gripsacklaw5_awake.f).bind fun t136 => (some t136)) else (some false))) else (none)) else (none)) else (if t130 < (ji25) then (if (wrap64 ((ji25) - t130)) < 4 then (if x7_2.size + 1 ≤ 9223372036854775807 then (if (x7_2 ++ (⟨#[255]⟩ : ByteArray)).size + x8_3.size ≤ 9223372036854775807 then ((text_Bad.f ((x7_2 ++ (⟨#[255]⟩ : ByteArray)) ++ x8_3)).bind fun t137 => (if t137 = (x7_2.size : Int) then ((gripsacklaw5_awake.f).bind fun t138 => (some t138)) else (some false))) else (none)) else (none)) else (some false)) else (some false))) else (some false))) else (some false)) = some r := H
                                have A34 := Aside0.mk A340
                                clear A340
                                by_cases c35 : t133 = true
                                · subst c35
                                  have H1 : ((text_Count.f (x7_2 ++ x8_3)).bind fun t134 => (if t134 = (wrap64 (x9_2 + (l1.length : Int))) then (if t130 < 0 then (if x7_2.size + 1 ≤ 9223372036854775807 then (if (x7_2 ++ (⟨#[255]⟩ : ByteArray)).size + x8_3.size ≤ 9223372036854775807 then ((text_Bad.f ((x7_2 ++ (⟨#[255]⟩ : ByteArray)) ++ x8_3)).bind fun t135 => (if t135 = (x7_2.size : Int) then ((gripsacklaw5_awake.f).bind fun t136 => (some t136)) else (some false))) else (none)) else (none)) else (if t130 < (ji25) then (if (wrap64 ((ji25) - t130)) < 4 then (if x7_2.size + 1 ≤ 9223372036854775807 then (if (x7_2 ++ (⟨#[255]⟩ : ByteArray)).size + x8_3.size ≤ 9223372036854775807 then ((text_Bad.f ((x7_2 ++ (⟨#[255]⟩ : ByteArray)) ++ x8_3)).bind fun t137 => (if t137 = (x7_2.size : Int) then ((gripsacklaw5_awake.f).bind fun t138 => (some t138)) else (some false))) else (none)) else (none)) else (some false)) else (some false))) else (some false))) = some r := by rw [if_pos rfl] at H; exact H
                                  clear H
                                  have H := H1
                                  clear H1
                                  replace H := Option.bind_eq_some_iff.mp H
                                  obtain ⟨t134, A360, H⟩ := H
                                  replace H : (if t134 = (wrap64 (x9_2 + (l1.length : Int))) then (if t130 < 0 then (if x7_2.size + 1 ≤ 9223372036854775807 then (if (x7_2 ++ (⟨#[255]⟩ : ByteArray)).size + x8_3.size ≤ 9223372036854775807 then ((text_Bad.f ((x7_2 ++ (⟨#[255]⟩ : ByteArray)) ++ x8_3)).bind fun t135 => (if t135 = (x7_2.size : Int) then ((gripsacklaw5_awake.f).bind fun t136 => (some t136)) else (some false))) else (none)) else (none)) else (if t130 < (ji25) then (if (wrap64 ((ji25) - t130)) < 4 then (if x7_2.size + 1 ≤ 9223372036854775807 then (if (x7_2 ++ (⟨#[255]⟩ : ByteArray)).size + x8_3.size ≤ 9223372036854775807 then ((text_Bad.f ((x7_2 ++ (⟨#[255]⟩ : ByteArray)) ++ x8_3)).bind fun t137 => (if t137 = (x7_2.size : Int) then ((gripsacklaw5_awake.f).bind fun t138 => (some t138)) else (some false))) else (none)) else (none)) else (some false)) else (some false))) else (some false)) = some r := H
                                  have A36 := Aside0.mk A360
                                  clear A360
                                  by_cases c37 : t134 = (wrap64 (x9_2 + (l1.length : Int)))
                                  · rw [if_pos c37] at H
                                    have c37b0 : (t134 == (wrap64 (x9_2 + (l1.length : Int)))) = true := beq_iff_eq.mpr c37
                                    have c37b1 : (t134 != (wrap64 (x9_2 + (l1.length : Int)))) = false := bne_eq_false_iff_eq.mpr c37
                                    clear c37
                                    by_cases c38 : t130 < 0
                                    · rw [if_pos c38] at H
                                      have c38b0 : decide (t130 < 0) = true := decide_eq_true c38
                                      clear c38
                                      by_cases c39 : x7_2.size + 1 ≤ 9223372036854775807
                                      · rw [if_pos c39] at H
                                        have c39b0 := eq_true c39
                                        have c39b1 : decide (x7_2.size + 1 ≤ 9223372036854775807) = true := decide_eq_true c39
                                        try have c39b2 : (9223372036854775807 < x7_2.size + 1) = False := eq_false (Nat.not_lt.2 c39)
                                        by_cases c40 : (x7_2 ++ (⟨#[255]⟩ : ByteArray)).size + x8_3.size ≤ 9223372036854775807
                                        · rw [if_pos c40] at H
                                          have c40b0 := eq_true c40
                                          have c40b1 : decide ((x7_2 ++ (⟨#[255]⟩ : ByteArray)).size + x8_3.size ≤ 9223372036854775807) = true := decide_eq_true c40
                                          try have c40b2 : (9223372036854775807 < (x7_2 ++ (⟨#[255]⟩ : ByteArray)).size + x8_3.size) = False := eq_false (Nat.not_lt.2 c40)
                                          replace H := Option.bind_eq_some_iff.mp H
                                          obtain ⟨t135, A410, H⟩ := H
                                          replace H : (if t135 = (x7_2.size : Int) then ((gripsacklaw5_awake.f).bind fun t136 => (some t136)) else (some false)) = some r := H
                                          have A41 := Aside0.mk A410
                                          clear A410
                                          by_cases c42 : t135 = (x7_2.size : Int)
                                          · rw [if_pos c42] at H
                                            have c42b0 : (t135 == (x7_2.size : Int)) = true := beq_iff_eq.mpr c42
                                            have c42b1 : (t135 != (x7_2.size : Int)) = false := bne_eq_false_iff_eq.mpr c42
                                            clear c42
                                            replace H := Option.bind_eq_some_iff.mp H
                                            obtain ⟨t136, A430, H⟩ := H
                                            replace H : (some t136) = some r := H
                                            have A43 := Aside0.mk A430
                                            clear A430
                                            obtain rfl := Option.some.inj H
                                            go_wp2_with (first | ((with_reducible refine gate_callee (f := 10) rfl ?_); refine goesL_ (some 74) rfl rfl Try.func10 (by kernel_rfl) rfl #[.string (x8_3.extract 0 ((ji25) : Int).toNat)] rfl (by (try simp only [List.map_toArray, List.map_cons, List.map_nil]); first | done | (simp only [hji25]; rfl) | rfl | (simp only [List.length_drop, List.length_take]; rfl)) ?_; (with_reducible refine (text_Bad.calls (x8_3.extract 0 ((ji25) : Int).toNat) t130 _ A28.out).mono ?_); rintro e w44 ⟨rfl, hb⟩; refine ⟨_, rfl, ?_⟩; have n0_ := Aside0.mk (below_step (by repeat (first | (with_reducible first | exact HB.out | apply below_alloc | apply pw_below_drewN | apply below_drew1) | exact HB.out)) hb); clear HB; have HB := n0_; clear n0_; (try clear hb); (try clear hb2); (try clear hk); (try clear hi)) | ((with_reducible refine gate_callee (f := 8) rfl ?_); refine goesL_ (some 76) rfl rfl Try.func8 (by kernel_rfl) rfl #[.string x7_2] rfl (by (try simp only [List.map_toArray, List.map_cons, List.map_nil]); first | done | rfl | (simp only [List.length_drop, List.length_take]; rfl)) ?_; (with_reducible refine (text_Valid.calls x7_2 true _ A29.out).mono ?_); rintro e w45 ⟨rfl, hb⟩; refine ⟨_, rfl, ?_⟩; have n0_ := Aside0.mk (below_step (by repeat (first | (with_reducible first | exact HB.out | apply below_alloc | apply pw_below_drewN | apply below_drew1) | exact HB.out)) hb); clear HB; have HB := n0_; clear n0_; (try clear hb); (try clear hb2); (try clear hk); (try clear hi)) | (go_at_call 8; (with_reducible refine (text_Valid.calls x8_3 true _ A31.out).mono ?_); rintro e w46 ⟨rfl, hb⟩; have n0_ := Aside0.mk (below_step (by repeat (first | (with_reducible first | exact HB.out | apply below_alloc | apply pw_below_drewN | apply below_drew1) | exact HB.out)) hb); clear HB; have HB := n0_; clear n0_; (try clear hb); (try clear hb2); (try clear hk); (try clear hi)) | (go_at_call 8; (with_reducible refine (text_Valid.calls (x7_2 ++ x8_3) true _ A34.out).mono ?_); rintro e w47 ⟨rfl, hb⟩; have n0_ := Aside0.mk (below_step (by repeat (first | (with_reducible first | exact HB.out | apply below_alloc | apply pw_below_drewN | apply below_drew1) | exact HB.out)) hb); clear HB; have HB := n0_; clear n0_; (try clear hb); (try clear hb2); (try clear hk); (try clear hi)) | (go_at_call 12; (with_reducible refine (text_Count.calls (x7_2 ++ x8_3) t134 _ A36.out).mono ?_); rintro e w48 ⟨rfl, hb⟩; have n0_ := Aside0.mk (below_step (by repeat (first | (with_reducible first | exact HB.out | apply below_alloc | apply pw_below_drewN | apply below_drew1) | exact HB.out)) hb); clear HB; have HB := n0_; clear n0_; (try clear hb); (try clear hb2); (try clear hk); (try clear hi)) | (go_at_call 10; (with_reducible refine (text_Bad.calls ((x7_2 ++ (⟨#[255]⟩ : ByteArray)) ++ x8_3) t135 _ A41.out).mono ?_); rintro e w49 ⟨rfl, hb⟩; have n0_ := Aside0.mk (below_step (by repeat (first | (with_reducible first | exact HB.out | apply below_alloc | apply pw_below_drewN | apply below_drew1) | exact HB.out)) hb); clear HB; have HB := n0_; clear n0_; (try clear hb); (try clear hb2); (try clear hk); (try clear hi)) | (go_at_call 7; (with_reducible refine (gripsacklaw5_awake.calls  t136 _ A43.out).mono ?_); rintro e w50 ⟨rfl, hb⟩; have n0_ := Aside0.mk (below_step (by repeat (first | (with_reducible first | exact HB.out | apply below_alloc | apply pw_below_drewN | apply below_drew1) | exact HB.out)) hb); clear HB; have HB := n0_; clear n0_; (try clear hb); (try clear hb2); (try clear hk); (try clear hi)))
                                            go_ret
                                            exact ⟨by first | rfl | (simp [errW_none, errW_some] <;> rfl) | (simp only [← hji25]; first | rfl | (simp [errW_none, errW_some] <;> rfl)) | (simp [*, errW_none, errW_some] <;> rfl), by repeat (first | (with_reducible first | exact HB.out | apply below_alloc | apply pw_below_drewN | apply below_drew1) | exact HB.out)⟩
                                          · rw [if_neg c42] at H
                                            have c42b0 : (t135 == (x7_2.size : Int)) = false := beq_eq_false_iff_ne.mpr c42
                                            have c42b1 : (t135 != (x7_2.size : Int)) = true := bne_iff_ne.mpr c42
                                            obtain rfl := Option.some.inj H
                                            go_wp2_with (first | ((with_reducible refine gate_callee (f := 10) rfl ?_); refine goesL_ (some 74) rfl rfl Try.func10 (by kernel_rfl) rfl #[.string (x8_3.extract 0 ((ji25) : Int).toNat)] rfl (by (try simp only [List.map_toArray, List.map_cons, List.map_nil]); first | done | (simp only [hji25]; rfl) | rfl | (simp only [List.length_drop, List.length_take]; rfl)) ?_; (with_reducible refine (text_Bad.calls (x8_3.extract 0 ((ji25) : Int).toNat) t130 _ A28.out).mono ?_); rintro e w51 ⟨rfl, hb⟩; refine ⟨_, rfl, ?_⟩; have n0_ := Aside0.mk (below_step (by repeat (first | (with_reducible first | exact HB.out | apply below_alloc | apply pw_below_drewN | apply below_drew1) | exact HB.out)) hb); clear HB; have HB := n0_; clear n0_; (try clear hb); (try clear hb2); (try clear hk); (try clear hi)) | ((with_reducible refine gate_callee (f := 8) rfl ?_); refine goesL_ (some 76) rfl rfl Try.func8 (by kernel_rfl) rfl #[.string x7_2] rfl (by (try simp only [List.map_toArray, List.map_cons, List.map_nil]); first | done | rfl | (simp only [List.length_drop, List.length_take]; rfl)) ?_; (with_reducible refine (text_Valid.calls x7_2 true _ A29.out).mono ?_); rintro e w52 ⟨rfl, hb⟩; refine ⟨_, rfl, ?_⟩; have n0_ := Aside0.mk (below_step (by repeat (first | (with_reducible first | exact HB.out | apply below_alloc | apply pw_below_drewN | apply below_drew1) | exact HB.out)) hb); clear HB; have HB := n0_; clear n0_; (try clear hb); (try clear hb2); (try clear hk); (try clear hi)) | (go_at_call 8; (with_reducible refine (text_Valid.calls x8_3 true _ A31.out).mono ?_); rintro e w53 ⟨rfl, hb⟩; have n0_ := Aside0.mk (below_step (by repeat (first | (with_reducible first | exact HB.out | apply below_alloc | apply pw_below_drewN | apply below_drew1) | exact HB.out)) hb); clear HB; have HB := n0_; clear n0_; (try clear hb); (try clear hb2); (try clear hk); (try clear hi)) | (go_at_call 8; (with_reducible refine (text_Valid.calls (x7_2 ++ x8_3) true _ A34.out).mono ?_); rintro e w54 ⟨rfl, hb⟩; have n0_ := Aside0.mk (below_step (by repeat (first | (with_reducible first | exact HB.out | apply below_alloc | apply pw_below_drewN | apply below_drew1) | exact HB.out)) hb); clear HB; have HB := n0_; clear n0_; (try clear hb); (try clear hb2); (try clear hk); (try clear hi)) | (go_at_call 12; (with_reducible refine (text_Count.calls (x7_2 ++ x8_3) t134 _ A36.out).mono ?_); rintro e w55 ⟨rfl, hb⟩; have n0_ := Aside0.mk (below_step (by repeat (first | (with_reducible first | exact HB.out | apply below_alloc | apply pw_below_drewN | apply below_drew1) | exact HB.out)) hb); clear HB; have HB := n0_; clear n0_; (try clear hb); (try clear hb2); (try clear hk); (try clear hi)) | (go_at_call 10; (with_reducible refine (text_Bad.calls ((x7_2 ++ (⟨#[255]⟩ : ByteArray)) ++ x8_3) t135 _ A41.out).mono ?_); rintro e w56 ⟨rfl, hb⟩; have n0_ := Aside0.mk (below_step (by repeat (first | (with_reducible first | exact HB.out | apply below_alloc | apply pw_below_drewN | apply below_drew1) | exact HB.out)) hb); clear HB; have HB := n0_; clear n0_; (try clear hb); (try clear hb2); (try clear hk); (try clear hi)))
                                            go_ret
                                            exact ⟨by first | rfl | (simp [errW_none, errW_some] <;> rfl) | (simp only [← hji25]; first | rfl | (simp [errW_none, errW_some] <;> rfl)) | (simp [*, errW_none, errW_some] <;> rfl), by repeat (first | (with_reducible first | exact HB.out | apply below_alloc | apply pw_below_drewN | apply below_drew1) | exact HB.out)⟩
                                        · rw [if_neg c40] at H
                                          exact absurd H (by simp)
                                      · rw [if_neg c39] at H
                                        exact absurd H (by simp)
                                    · rw [if_neg c38] at H
                                      have c38b0 : decide (t130 < 0) = false := decide_eq_false c38
                                      clear c38
                                      by_cases c57 : t130 < (ji25)
                                      · rw [if_pos c57] at H
                                        have c57b0 : decide (t130 < (ji25)) = true := decide_eq_true c57
                                        clear c57
                                        by_cases c58 : (wrap64 ((ji25) - t130)) < 4
                                        · rw [if_pos c58] at H
                                          have c58b0 : decide ((wrap64 ((ji25) - t130)) < 4) = true := decide_eq_true c58
                                          clear c58
                                          by_cases c59 : x7_2.size + 1 ≤ 9223372036854775807
                                          · rw [if_pos c59] at H
                                            have c59b0 := eq_true c59
                                            have c59b1 : decide (x7_2.size + 1 ≤ 9223372036854775807) = true := decide_eq_true c59
                                            try have c59b2 : (9223372036854775807 < x7_2.size + 1) = False := eq_false (Nat.not_lt.2 c59)
                                            by_cases c60 : (x7_2 ++ (⟨#[255]⟩ : ByteArray)).size + x8_3.size ≤ 9223372036854775807
                                            · rw [if_pos c60] at H
                                              have c60b0 := eq_true c60
                                              have c60b1 : decide ((x7_2 ++ (⟨#[255]⟩ : ByteArray)).size + x8_3.size ≤ 9223372036854775807) = true := decide_eq_true c60
                                              try have c60b2 : (9223372036854775807 < (x7_2 ++ (⟨#[255]⟩ : ByteArray)).size + x8_3.size) = False := eq_false (Nat.not_lt.2 c60)
                                              replace H := Option.bind_eq_some_iff.mp H
                                              obtain ⟨t137, A610, H⟩ := H
                                              replace H : (if t137 = (x7_2.size : Int) then ((gripsacklaw5_awake.f).bind fun t138 => (some t138)) else (some false)) = some r := H
                                              have A61 := Aside0.mk A610
                                              clear A610
                                              by_cases c62 : t137 = (x7_2.size : Int)
                                              · rw [if_pos c62] at H
                                                have c62b0 : (t137 == (x7_2.size : Int)) = true := beq_iff_eq.mpr c62
                                                have c62b1 : (t137 != (x7_2.size : Int)) = false := bne_eq_false_iff_eq.mpr c62
                                                clear c62
                                                replace H := Option.bind_eq_some_iff.mp H
                                                obtain ⟨t138, A630, H⟩ := H
                                                replace H : (some t138) = some r := H
                                                have A63 := Aside0.mk A630
                                                clear A630
                                                obtain rfl := Option.some.inj H
                                                go_wp2_with (first | ((with_reducible refine gate_callee (f := 10) rfl ?_); refine goesL_ (some 74) rfl rfl Try.func10 (by kernel_rfl) rfl #[.string (x8_3.extract 0 ((ji25) : Int).toNat)] rfl (by (try simp only [List.map_toArray, List.map_cons, List.map_nil]); first | done | (simp only [hji25]; rfl) | rfl | (simp only [List.length_drop, List.length_take]; rfl)) ?_; (with_reducible refine (text_Bad.calls (x8_3.extract 0 ((ji25) : Int).toNat) t130 _ A28.out).mono ?_); rintro e w64 ⟨rfl, hb⟩; refine ⟨_, rfl, ?_⟩; have n0_ := Aside0.mk (below_step (by repeat (first | (with_reducible first | exact HB.out | apply below_alloc | apply pw_below_drewN | apply below_drew1) | exact HB.out)) hb); clear HB; have HB := n0_; clear n0_; (try clear hb); (try clear hb2); (try clear hk); (try clear hi)) | ((with_reducible refine gate_callee (f := 8) rfl ?_); refine goesL_ (some 76) rfl rfl Try.func8 (by kernel_rfl) rfl #[.string x7_2] rfl (by (try simp only [List.map_toArray, List.map_cons, List.map_nil]); first | done | rfl | (simp only [List.length_drop, List.length_take]; rfl)) ?_; (with_reducible refine (text_Valid.calls x7_2 true _ A29.out).mono ?_); rintro e w65 ⟨rfl, hb⟩; refine ⟨_, rfl, ?_⟩; have n0_ := Aside0.mk (below_step (by repeat (first | (with_reducible first | exact HB.out | apply below_alloc | apply pw_below_drewN | apply below_drew1) | exact HB.out)) hb); clear HB; have HB := n0_; clear n0_; (try clear hb); (try clear hb2); (try clear hk); (try clear hi)) | (go_at_call 8; (with_reducible refine (text_Valid.calls x8_3 true _ A31.out).mono ?_); rintro e w66 ⟨rfl, hb⟩; have n0_ := Aside0.mk (below_step (by repeat (first | (with_reducible first | exact HB.out | apply below_alloc | apply pw_below_drewN | apply below_drew1) | exact HB.out)) hb); clear HB; have HB := n0_; clear n0_; (try clear hb); (try clear hb2); (try clear hk); (try clear hi)) | (go_at_call 8; (with_reducible refine (text_Valid.calls (x7_2 ++ x8_3) true _ A34.out).mono ?_); rintro e w67 ⟨rfl, hb⟩; have n0_ := Aside0.mk (below_step (by repeat (first | (with_reducible first | exact HB.out | apply below_alloc | apply pw_below_drewN | apply below_drew1) | exact HB.out)) hb); clear HB; have HB := n0_; clear n0_; (try clear hb); (try clear hb2); (try clear hk); (try clear hi)) | (go_at_call 12; (with_reducible refine (text_Count.calls (x7_2 ++ x8_3) t134 _ A36.out).mono ?_); rintro e w68 ⟨rfl, hb⟩; have n0_ := Aside0.mk (below_step (by repeat (first | (with_reducible first | exact HB.out | apply below_alloc | apply pw_below_drewN | apply below_drew1) | exact HB.out)) hb); clear HB; have HB := n0_; clear n0_; (try clear hb); (try clear hb2); (try clear hk); (try clear hi)) | (go_at_call 10; (with_reducible refine (text_Bad.calls ((x7_2 ++ (⟨#[255]⟩ : ByteArray)) ++ x8_3) t137 _ A61.out).mono ?_); rintro e w69 ⟨rfl, hb⟩; have n0_ := Aside0.mk (below_step (by repeat (first | (with_reducible first | exact HB.out | apply below_alloc | apply pw_below_drewN | apply below_drew1) | exact HB.out)) hb); clear HB; have HB := n0_; clear n0_; (try clear hb); (try clear hb2); (try clear hk); (try clear hi)) | (go_at_call 7; (with_reducible refine (gripsacklaw5_awake.calls  t138 _ A63.out).mono ?_); rintro e w70 ⟨rfl, hb⟩; have n0_ := Aside0.mk (below_step (by repeat (first | (with_reducible first | exact HB.out | apply below_alloc | apply pw_below_drewN | apply below_drew1) | exact HB.out)) hb); clear HB; have HB := n0_; clear n0_; (try clear hb); (try clear hb2); (try clear hk); (try clear hi)))
                                                go_ret
                                                exact ⟨by first | rfl | (simp [errW_none, errW_some] <;> rfl) | (simp only [← hji25]; first | rfl | (simp [errW_none, errW_some] <;> rfl)) | (simp [*, errW_none, errW_some] <;> rfl), by repeat (first | (with_reducible first | exact HB.out | apply below_alloc | apply pw_below_drewN | apply below_drew1) | exact HB.out)⟩
                                              · rw [if_neg c62] at H
                                                have c62b0 : (t137 == (x7_2.size : Int)) = false := beq_eq_false_iff_ne.mpr c62
                                                have c62b1 : (t137 != (x7_2.size : Int)) = true := bne_iff_ne.mpr c62
                                                obtain rfl := Option.some.inj H
                                                go_wp2_with (first | ((with_reducible refine gate_callee (f := 10) rfl ?_); refine goesL_ (some 74) rfl rfl Try.func10 (by kernel_rfl) rfl #[.string (x8_3.extract 0 ((ji25) : Int).toNat)] rfl (by (try simp only [List.map_toArray, List.map_cons, List.map_nil]); first | done | (simp only [hji25]; rfl) | rfl | (simp only [List.length_drop, List.length_take]; rfl)) ?_; (with_reducible refine (text_Bad.calls (x8_3.extract 0 ((ji25) : Int).toNat) t130 _ A28.out).mono ?_); rintro e w71 ⟨rfl, hb⟩; refine ⟨_, rfl, ?_⟩; have n0_ := Aside0.mk (below_step (by repeat (first | (with_reducible first | exact HB.out | apply below_alloc | apply pw_below_drewN | apply below_drew1) | exact HB.out)) hb); clear HB; have HB := n0_; clear n0_; (try clear hb); (try clear hb2); (try clear hk); (try clear hi)) | ((with_reducible refine gate_callee (f := 8) rfl ?_); refine goesL_ (some 76) rfl rfl Try.func8 (by kernel_rfl) rfl #[.string x7_2] rfl (by (try simp only [List.map_toArray, List.map_cons, List.map_nil]); first | done | rfl | (simp only [List.length_drop, List.length_take]; rfl)) ?_; (with_reducible refine (text_Valid.calls x7_2 true _ A29.out).mono ?_); rintro e w72 ⟨rfl, hb⟩; refine ⟨_, rfl, ?_⟩; have n0_ := Aside0.mk (below_step (by repeat (first | (with_reducible first | exact HB.out | apply below_alloc | apply pw_below_drewN | apply below_drew1) | exact HB.out)) hb); clear HB; have HB := n0_; clear n0_; (try clear hb); (try clear hb2); (try clear hk); (try clear hi)) | (go_at_call 8; (with_reducible refine (text_Valid.calls x8_3 true _ A31.out).mono ?_); rintro e w73 ⟨rfl, hb⟩; have n0_ := Aside0.mk (below_step (by repeat (first | (with_reducible first | exact HB.out | apply below_alloc | apply pw_below_drewN | apply below_drew1) | exact HB.out)) hb); clear HB; have HB := n0_; clear n0_; (try clear hb); (try clear hb2); (try clear hk); (try clear hi)) | (go_at_call 8; (with_reducible refine (text_Valid.calls (x7_2 ++ x8_3) true _ A34.out).mono ?_); rintro e w74 ⟨rfl, hb⟩; have n0_ := Aside0.mk (below_step (by repeat (first | (with_reducible first | exact HB.out | apply below_alloc | apply pw_below_drewN | apply below_drew1) | exact HB.out)) hb); clear HB; have HB := n0_; clear n0_; (try clear hb); (try clear hb2); (try clear hk); (try clear hi)) | (go_at_call 12; (with_reducible refine (text_Count.calls (x7_2 ++ x8_3) t134 _ A36.out).mono ?_); rintro e w75 ⟨rfl, hb⟩; have n0_ := Aside0.mk (below_step (by repeat (first | (with_reducible first | exact HB.out | apply below_alloc | apply pw_below_drewN | apply below_drew1) | exact HB.out)) hb); clear HB; have HB := n0_; clear n0_; (try clear hb); (try clear hb2); (try clear hk); (try clear hi)) | (go_at_call 10; (with_reducible refine (text_Bad.calls ((x7_2 ++ (⟨#[255]⟩ : ByteArray)) ++ x8_3) t137 _ A61.out).mono ?_); rintro e w76 ⟨rfl, hb⟩; have n0_ := Aside0.mk (below_step (by repeat (first | (with_reducible first | exact HB.out | apply below_alloc | apply pw_below_drewN | apply below_drew1) | exact HB.out)) hb); clear HB; have HB := n0_; clear n0_; (try clear hb); (try clear hb2); (try clear hk); (try clear hi)))
                                                go_ret
                                                exact ⟨by first | rfl | (simp [errW_none, errW_some] <;> rfl) | (simp only [← hji25]; first | rfl | (simp [errW_none, errW_some] <;> rfl)) | (simp [*, errW_none, errW_some] <;> rfl), by repeat (first | (with_reducible first | exact HB.out | apply below_alloc | apply pw_below_drewN | apply below_drew1) | exact HB.out)⟩
                                            · rw [if_neg c60] at H
                                              exact absurd H (by simp)
                                          · rw [if_neg c59] at H
                                            exact absurd H (by simp)
                                        · rw [if_neg c58] at H
                                          have c58b0 : decide ((wrap64 ((ji25) - t130)) < 4) = false := decide_eq_false c58
                                          clear c58
                                          obtain rfl := Option.some.inj H
                                          go_wp2_with (first | ((with_reducible refine gate_callee (f := 10) rfl ?_); refine goesL_ (some 74) rfl rfl Try.func10 (by kernel_rfl) rfl #[.string (x8_3.extract 0 ((ji25) : Int).toNat)] rfl (by (try simp only [List.map_toArray, List.map_cons, List.map_nil]); first | done | (simp only [hji25]; rfl) | rfl | (simp only [List.length_drop, List.length_take]; rfl)) ?_; (with_reducible refine (text_Bad.calls (x8_3.extract 0 ((ji25) : Int).toNat) t130 _ A28.out).mono ?_); rintro e w77 ⟨rfl, hb⟩; refine ⟨_, rfl, ?_⟩; have n0_ := Aside0.mk (below_step (by repeat (first | (with_reducible first | exact HB.out | apply below_alloc | apply pw_below_drewN | apply below_drew1) | exact HB.out)) hb); clear HB; have HB := n0_; clear n0_; (try clear hb); (try clear hb2); (try clear hk); (try clear hi)) | ((with_reducible refine gate_callee (f := 8) rfl ?_); refine goesL_ (some 76) rfl rfl Try.func8 (by kernel_rfl) rfl #[.string x7_2] rfl (by (try simp only [List.map_toArray, List.map_cons, List.map_nil]); first | done | rfl | (simp only [List.length_drop, List.length_take]; rfl)) ?_; (with_reducible refine (text_Valid.calls x7_2 true _ A29.out).mono ?_); rintro e w78 ⟨rfl, hb⟩; refine ⟨_, rfl, ?_⟩; have n0_ := Aside0.mk (below_step (by repeat (first | (with_reducible first | exact HB.out | apply below_alloc | apply pw_below_drewN | apply below_drew1) | exact HB.out)) hb); clear HB; have HB := n0_; clear n0_; (try clear hb); (try clear hb2); (try clear hk); (try clear hi)) | (go_at_call 8; (with_reducible refine (text_Valid.calls x8_3 true _ A31.out).mono ?_); rintro e w79 ⟨rfl, hb⟩; have n0_ := Aside0.mk (below_step (by repeat (first | (with_reducible first | exact HB.out | apply below_alloc | apply pw_below_drewN | apply below_drew1) | exact HB.out)) hb); clear HB; have HB := n0_; clear n0_; (try clear hb); (try clear hb2); (try clear hk); (try clear hi)) | (go_at_call 8; (with_reducible refine (text_Valid.calls (x7_2 ++ x8_3) true _ A34.out).mono ?_); rintro e w80 ⟨rfl, hb⟩; have n0_ := Aside0.mk (below_step (by repeat (first | (with_reducible first | exact HB.out | apply below_alloc | apply pw_below_drewN | apply below_drew1) | exact HB.out)) hb); clear HB; have HB := n0_; clear n0_; (try clear hb); (try clear hb2); (try clear hk); (try clear hi)) | (go_at_call 12; (with_reducible refine (text_Count.calls (x7_2 ++ x8_3) t134 _ A36.out).mono ?_); rintro e w81 ⟨rfl, hb⟩; have n0_ := Aside0.mk (below_step (by repeat (first | (with_reducible first | exact HB.out | apply below_alloc | apply pw_below_drewN | apply below_drew1) | exact HB.out)) hb); clear HB; have HB := n0_; clear n0_; (try clear hb); (try clear hb2); (try clear hk); (try clear hi)))
                                          go_ret
                                          exact ⟨by first | rfl | (simp [errW_none, errW_some] <;> rfl) | (simp only [← hji25]; first | rfl | (simp [errW_none, errW_some] <;> rfl)) | (simp [*, errW_none, errW_some] <;> rfl), by repeat (first | (with_reducible first | exact HB.out | apply below_alloc | apply pw_below_drewN | apply below_drew1) | exact HB.out)⟩
                                      · rw [if_neg c57] at H
                                        have c57b0 : decide (t130 < (ji25)) = false := decide_eq_false c57
                                        clear c57
                                        obtain rfl := Option.some.inj H
                                        go_wp2_with (first | ((with_reducible refine gate_callee (f := 10) rfl ?_); refine goesL_ (some 74) rfl rfl Try.func10 (by kernel_rfl) rfl #[.string (x8_3.extract 0 ((ji25) : Int).toNat)] rfl (by (try simp only [List.map_toArray, List.map_cons, List.map_nil]); first | done | (simp only [hji25]; rfl) | rfl | (simp only [List.length_drop, List.length_take]; rfl)) ?_; (with_reducible refine (text_Bad.calls (x8_3.extract 0 ((ji25) : Int).toNat) t130 _ A28.out).mono ?_); rintro e w82 ⟨rfl, hb⟩; refine ⟨_, rfl, ?_⟩; have n0_ := Aside0.mk (below_step (by repeat (first | (with_reducible first | exact HB.out | apply below_alloc | apply pw_below_drewN | apply below_drew1) | exact HB.out)) hb); clear HB; have HB := n0_; clear n0_; (try clear hb); (try clear hb2); (try clear hk); (try clear hi)) | ((with_reducible refine gate_callee (f := 8) rfl ?_); refine goesL_ (some 76) rfl rfl Try.func8 (by kernel_rfl) rfl #[.string x7_2] rfl (by (try simp only [List.map_toArray, List.map_cons, List.map_nil]); first | done | rfl | (simp only [List.length_drop, List.length_take]; rfl)) ?_; (with_reducible refine (text_Valid.calls x7_2 true _ A29.out).mono ?_); rintro e w83 ⟨rfl, hb⟩; refine ⟨_, rfl, ?_⟩; have n0_ := Aside0.mk (below_step (by repeat (first | (with_reducible first | exact HB.out | apply below_alloc | apply pw_below_drewN | apply below_drew1) | exact HB.out)) hb); clear HB; have HB := n0_; clear n0_; (try clear hb); (try clear hb2); (try clear hk); (try clear hi)) | (go_at_call 8; (with_reducible refine (text_Valid.calls x8_3 true _ A31.out).mono ?_); rintro e w84 ⟨rfl, hb⟩; have n0_ := Aside0.mk (below_step (by repeat (first | (with_reducible first | exact HB.out | apply below_alloc | apply pw_below_drewN | apply below_drew1) | exact HB.out)) hb); clear HB; have HB := n0_; clear n0_; (try clear hb); (try clear hb2); (try clear hk); (try clear hi)) | (go_at_call 8; (with_reducible refine (text_Valid.calls (x7_2 ++ x8_3) true _ A34.out).mono ?_); rintro e w85 ⟨rfl, hb⟩; have n0_ := Aside0.mk (below_step (by repeat (first | (with_reducible first | exact HB.out | apply below_alloc | apply pw_below_drewN | apply below_drew1) | exact HB.out)) hb); clear HB; have HB := n0_; clear n0_; (try clear hb); (try clear hb2); (try clear hk); (try clear hi)) | (go_at_call 12; (with_reducible refine (text_Count.calls (x7_2 ++ x8_3) t134 _ A36.out).mono ?_); rintro e w86 ⟨rfl, hb⟩; have n0_ := Aside0.mk (below_step (by repeat (first | (with_reducible first | exact HB.out | apply below_alloc | apply pw_below_drewN | apply below_drew1) | exact HB.out)) hb); clear HB; have HB := n0_; clear n0_; (try clear hb); (try clear hb2); (try clear hk); (try clear hi)))
                                        go_ret
                                        exact ⟨by first | rfl | (simp [errW_none, errW_some] <;> rfl) | (simp only [← hji25]; first | rfl | (simp [errW_none, errW_some] <;> rfl)) | (simp [*, errW_none, errW_some] <;> rfl), by repeat (first | (with_reducible first | exact HB.out | apply below_alloc | apply pw_below_drewN | apply below_drew1) | exact HB.out)⟩
                                  · rw [if_neg c37] at H
                                    have c37b0 : (t134 == (wrap64 (x9_2 + (l1.length : Int)))) = false := beq_eq_false_iff_ne.mpr c37
                                    have c37b1 : (t134 != (wrap64 (x9_2 + (l1.length : Int)))) = true := bne_iff_ne.mpr c37
                                    obtain rfl := Option.some.inj H
                                    go_wp2_with (first | ((with_reducible refine gate_callee (f := 10) rfl ?_); refine goesL_ (some 74) rfl rfl Try.func10 (by kernel_rfl) rfl #[.string (x8_3.extract 0 ((ji25) : Int).toNat)] rfl (by (try simp only [List.map_toArray, List.map_cons, List.map_nil]); first | done | (simp only [hji25]; rfl) | rfl | (simp only [List.length_drop, List.length_take]; rfl)) ?_; (with_reducible refine (text_Bad.calls (x8_3.extract 0 ((ji25) : Int).toNat) t130 _ A28.out).mono ?_); rintro e w87 ⟨rfl, hb⟩; refine ⟨_, rfl, ?_⟩; have n0_ := Aside0.mk (below_step (by repeat (first | (with_reducible first | exact HB.out | apply below_alloc | apply pw_below_drewN | apply below_drew1) | exact HB.out)) hb); clear HB; have HB := n0_; clear n0_; (try clear hb); (try clear hb2); (try clear hk); (try clear hi)) | ((with_reducible refine gate_callee (f := 8) rfl ?_); refine goesL_ (some 76) rfl rfl Try.func8 (by kernel_rfl) rfl #[.string x7_2] rfl (by (try simp only [List.map_toArray, List.map_cons, List.map_nil]); first | done | rfl | (simp only [List.length_drop, List.length_take]; rfl)) ?_; (with_reducible refine (text_Valid.calls x7_2 true _ A29.out).mono ?_); rintro e w88 ⟨rfl, hb⟩; refine ⟨_, rfl, ?_⟩; have n0_ := Aside0.mk (below_step (by repeat (first | (with_reducible first | exact HB.out | apply below_alloc | apply pw_below_drewN | apply below_drew1) | exact HB.out)) hb); clear HB; have HB := n0_; clear n0_; (try clear hb); (try clear hb2); (try clear hk); (try clear hi)) | (go_at_call 8; (with_reducible refine (text_Valid.calls x8_3 true _ A31.out).mono ?_); rintro e w89 ⟨rfl, hb⟩; have n0_ := Aside0.mk (below_step (by repeat (first | (with_reducible first | exact HB.out | apply below_alloc | apply pw_below_drewN | apply below_drew1) | exact HB.out)) hb); clear HB; have HB := n0_; clear n0_; (try clear hb); (try clear hb2); (try clear hk); (try clear hi)) | (go_at_call 8; (with_reducible refine (text_Valid.calls (x7_2 ++ x8_3) true _ A34.out).mono ?_); rintro e w90 ⟨rfl, hb⟩; have n0_ := Aside0.mk (below_step (by repeat (first | (with_reducible first | exact HB.out | apply below_alloc | apply pw_below_drewN | apply below_drew1) | exact HB.out)) hb); clear HB; have HB := n0_; clear n0_; (try clear hb); (try clear hb2); (try clear hk); (try clear hi)) | (go_at_call 12; (with_reducible refine (text_Count.calls (x7_2 ++ x8_3) t134 _ A36.out).mono ?_); rintro e w91 ⟨rfl, hb⟩; have n0_ := Aside0.mk (below_step (by repeat (first | (with_reducible first | exact HB.out | apply below_alloc | apply pw_below_drewN | apply below_drew1) | exact HB.out)) hb); clear HB; have HB := n0_; clear n0_; (try clear hb); (try clear hb2); (try clear hk); (try clear hi)))
                                    go_ret
                                    exact ⟨by first | rfl | (simp [errW_none, errW_some] <;> rfl) | (simp only [← hji25]; first | rfl | (simp [errW_none, errW_some] <;> rfl)) | (simp [*, errW_none, errW_some] <;> rfl), by repeat (first | (with_reducible first | exact HB.out | apply below_alloc | apply pw_below_drewN | apply below_drew1) | exact HB.out)⟩
                                · replace c35 := Bool.eq_false_iff.mpr c35
                                  subst c35
                                  have H1 : (some false) = some r := by rw [if_neg (show ¬ (false = true) by decide)] at H; exact H
                                  clear H
                                  have H := H1
                                  clear H1
                                  obtain rfl := Option.some.inj H
                                  go_wp2_with (first | ((with_reducible refine gate_callee (f := 10) rfl ?_); refine goesL_ (some 74) rfl rfl Try.func10 (by kernel_rfl) rfl #[.string (x8_3.extract 0 ((ji25) : Int).toNat)] rfl (by (try simp only [List.map_toArray, List.map_cons, List.map_nil]); first | done | (simp only [hji25]; rfl) | rfl | (simp only [List.length_drop, List.length_take]; rfl)) ?_; (with_reducible refine (text_Bad.calls (x8_3.extract 0 ((ji25) : Int).toNat) t130 _ A28.out).mono ?_); rintro e w92 ⟨rfl, hb⟩; refine ⟨_, rfl, ?_⟩; have n0_ := Aside0.mk (below_step (by repeat (first | (with_reducible first | exact HB.out | apply below_alloc | apply pw_below_drewN | apply below_drew1) | exact HB.out)) hb); clear HB; have HB := n0_; clear n0_; (try clear hb); (try clear hb2); (try clear hk); (try clear hi)) | ((with_reducible refine gate_callee (f := 8) rfl ?_); refine goesL_ (some 76) rfl rfl Try.func8 (by kernel_rfl) rfl #[.string x7_2] rfl (by (try simp only [List.map_toArray, List.map_cons, List.map_nil]); first | done | rfl | (simp only [List.length_drop, List.length_take]; rfl)) ?_; (with_reducible refine (text_Valid.calls x7_2 true _ A29.out).mono ?_); rintro e w93 ⟨rfl, hb⟩; refine ⟨_, rfl, ?_⟩; have n0_ := Aside0.mk (below_step (by repeat (first | (with_reducible first | exact HB.out | apply below_alloc | apply pw_below_drewN | apply below_drew1) | exact HB.out)) hb); clear HB; have HB := n0_; clear n0_; (try clear hb); (try clear hb2); (try clear hk); (try clear hi)) | (go_at_call 8; (with_reducible refine (text_Valid.calls x8_3 true _ A31.out).mono ?_); rintro e w94 ⟨rfl, hb⟩; have n0_ := Aside0.mk (below_step (by repeat (first | (with_reducible first | exact HB.out | apply below_alloc | apply pw_below_drewN | apply below_drew1) | exact HB.out)) hb); clear HB; have HB := n0_; clear n0_; (try clear hb); (try clear hb2); (try clear hk); (try clear hi)) | (go_at_call 8; (with_reducible refine (text_Valid.calls (x7_2 ++ x8_3) false _ A34.out).mono ?_); rintro e w95 ⟨rfl, hb⟩; have n0_ := Aside0.mk (below_step (by repeat (first | (with_reducible first | exact HB.out | apply below_alloc | apply pw_below_drewN | apply below_drew1) | exact HB.out)) hb); clear HB; have HB := n0_; clear n0_; (try clear hb); (try clear hb2); (try clear hk); (try clear hi)))
                                  go_ret
                                  exact ⟨by first | rfl | (simp [errW_none, errW_some] <;> rfl) | (simp only [← hji25]; first | rfl | (simp [errW_none, errW_some] <;> rfl)) | (simp [*, errW_none, errW_some] <;> rfl), by repeat (first | (with_reducible first | exact HB.out | apply below_alloc | apply pw_below_drewN | apply below_drew1) | exact HB.out)⟩
                              · rw [if_neg c33] at H
                                exact absurd H (by simp)
                            · replace c32 := Bool.eq_false_iff.mpr c32
                              subst c32
                              have H1 : (some false) = some r := by rw [if_neg (show ¬ (false = true) by decide)] at H; exact H
                              clear H
                              have H := H1
                              clear H1
                              obtain rfl := Option.some.inj H
                              go_wp2_with (first | ((with_reducible refine gate_callee (f := 10) rfl ?_); refine goesL_ (some 74) rfl rfl Try.func10 (by kernel_rfl) rfl #[.string (x8_3.extract 0 ((ji25) : Int).toNat)] rfl (by (try simp only [List.map_toArray, List.map_cons, List.map_nil]); first | done | (simp only [hji25]; rfl) | rfl | (simp only [List.length_drop, List.length_take]; rfl)) ?_; (with_reducible refine (text_Bad.calls (x8_3.extract 0 ((ji25) : Int).toNat) t130 _ A28.out).mono ?_); rintro e w96 ⟨rfl, hb⟩; refine ⟨_, rfl, ?_⟩; have n0_ := Aside0.mk (below_step (by repeat (first | (with_reducible first | exact HB.out | apply below_alloc | apply pw_below_drewN | apply below_drew1) | exact HB.out)) hb); clear HB; have HB := n0_; clear n0_; (try clear hb); (try clear hb2); (try clear hk); (try clear hi)) | ((with_reducible refine gate_callee (f := 8) rfl ?_); refine goesL_ (some 76) rfl rfl Try.func8 (by kernel_rfl) rfl #[.string x7_2] rfl (by (try simp only [List.map_toArray, List.map_cons, List.map_nil]); first | done | rfl | (simp only [List.length_drop, List.length_take]; rfl)) ?_; (with_reducible refine (text_Valid.calls x7_2 true _ A29.out).mono ?_); rintro e w97 ⟨rfl, hb⟩; refine ⟨_, rfl, ?_⟩; have n0_ := Aside0.mk (below_step (by repeat (first | (with_reducible first | exact HB.out | apply below_alloc | apply pw_below_drewN | apply below_drew1) | exact HB.out)) hb); clear HB; have HB := n0_; clear n0_; (try clear hb); (try clear hb2); (try clear hk); (try clear hi)) | (go_at_call 8; (with_reducible refine (text_Valid.calls x8_3 false _ A31.out).mono ?_); rintro e w98 ⟨rfl, hb⟩; have n0_ := Aside0.mk (below_step (by repeat (first | (with_reducible first | exact HB.out | apply below_alloc | apply pw_below_drewN | apply below_drew1) | exact HB.out)) hb); clear HB; have HB := n0_; clear n0_; (try clear hb); (try clear hb2); (try clear hk); (try clear hi)))
                              go_ret
                              exact ⟨by first | rfl | (simp [errW_none, errW_some] <;> rfl) | (simp only [← hji25]; first | rfl | (simp [errW_none, errW_some] <;> rfl)) | (simp [*, errW_none, errW_some] <;> rfl), by repeat (first | (with_reducible first | exact HB.out | apply below_alloc | apply pw_below_drewN | apply below_drew1) | exact HB.out)⟩
                          · replace c30 := Bool.eq_false_iff.mpr c30
                            subst c30
                            have H1 : (some false) = some r := by rw [if_neg (show ¬ (false = true) by decide)] at H; exact H
                            clear H
                            have H := H1
                            clear H1
                            obtain rfl := Option.some.inj H
                            go_wp2_with (first | ((with_reducible refine gate_callee (f := 10) rfl ?_); refine goesL_ (some 74) rfl rfl Try.func10 (by kernel_rfl) rfl #[.string (x8_3.extract 0 ((ji25) : Int).toNat)] rfl (by (try simp only [List.map_toArray, List.map_cons, List.map_nil]); first | done | (simp only [hji25]; rfl) | rfl | (simp only [List.length_drop, List.length_take]; rfl)) ?_; (with_reducible refine (text_Bad.calls (x8_3.extract 0 ((ji25) : Int).toNat) t130 _ A28.out).mono ?_); rintro e w99 ⟨rfl, hb⟩; refine ⟨_, rfl, ?_⟩; have n0_ := Aside0.mk (below_step (by repeat (first | (with_reducible first | exact HB.out | apply below_alloc | apply pw_below_drewN | apply below_drew1) | exact HB.out)) hb); clear HB; have HB := n0_; clear n0_; (try clear hb); (try clear hb2); (try clear hk); (try clear hi)) | ((with_reducible refine gate_callee (f := 8) rfl ?_); refine goesL_ (some 76) rfl rfl Try.func8 (by kernel_rfl) rfl #[.string x7_2] rfl (by (try simp only [List.map_toArray, List.map_cons, List.map_nil]); first | done | rfl | (simp only [List.length_drop, List.length_take]; rfl)) ?_; (with_reducible refine (text_Valid.calls x7_2 false _ A29.out).mono ?_); rintro e w100 ⟨rfl, hb⟩; refine ⟨_, rfl, ?_⟩; have n0_ := Aside0.mk (below_step (by repeat (first | (with_reducible first | exact HB.out | apply below_alloc | apply pw_below_drewN | apply below_drew1) | exact HB.out)) hb); clear HB; have HB := n0_; clear n0_; (try clear hb); (try clear hb2); (try clear hk); (try clear hi)))
                            go_ret
                            exact ⟨by first | rfl | (simp [errW_none, errW_some] <;> rfl) | (simp only [← hji25]; first | rfl | (simp [errW_none, errW_some] <;> rfl)) | (simp [*, errW_none, errW_some] <;> rfl), by repeat (first | (with_reducible first | exact HB.out | apply below_alloc | apply pw_below_drewN | apply below_drew1) | exact HB.out)⟩
                        · rw [if_neg c27] at H
                          exact absurd H (by simp)
                      · rw [if_neg c26] at H
                        exact absurd H (by simp)

/-- THE ONE PURE STATEMENT of gripsacklaw5_TextJoins: yours. -/
def gripsacklaw5_TextJoins.Pure : Prop := ∀ (l0 : List Int) (l1 : List Int) (a2 : Int), l0.length ≤ maxLen → l0.length * 4 ≤ 140737488351232 → (∀ x ∈ l0, (Lit.int .u32 x).wf = true) → l1.length ≤ maxLen → l1.length * 4 ≤ 140737488351232 → (∀ x ∈ l1, (Lit.int .u32 x).wf = true) → (Lit.int .u8 a2).wf = true → ∃ k, gripsacklaw5_TextJoins.f k l0 l1 a2 = some true
theorem gripsacklaw5_TextJoins.walk (P : gripsacklaw5_TextJoins.Pure) (a0 : Option Addr) (len0 cap0 : Nat) (z0 : List Int) (a1 : Option Addr) (len1 cap1 : Nat) (z1 : List Int) (a2 : Int) (w : World) (w0 : (a0 = none ∧ len0 = 0 ∧ cap0 = 0 ∧ z0 = []) ∨ ∃ x, a0 = some x ∧ len0 ≤ cap0 ∧ cap0 ≤ maxLen ∧ z0.length = cap0 ∧ (∀ i, i < z0.length → w.cell? (x.add i) = some (.int .u32 (z0.getD i 0))) ∧ ∀ n ∈ z0, (Lit.int .u32 n).wf = true) (y0 : len0 * 4 ≤ 140737488351232) (w1 : (a1 = none ∧ len1 = 0 ∧ cap1 = 0 ∧ z1 = []) ∨ ∃ x, a1 = some x ∧ len1 ≤ cap1 ∧ cap1 ≤ maxLen ∧ z1.length = cap1 ∧ (∀ i, i < z1.length → w.cell? (x.add i) = some (.int .u32 (z1.getD i 0))) ∧ ∀ n ∈ z1, (Lit.int .u32 n).wf = true) (y1 : len1 * 4 ≤ 140737488351232) (w2 : (Lit.int .u8 a2).wf = true) :
    Calls Try.prog 5 #[.slice a0 len0 cap0, .slice a1 len1 cap1, .int .u8 a2] w fun e w' => e = .returned (.bool true) ∧ Below w.heap.size w w' := by
  obtain ⟨l0, rfl, hr0, hm0, hw0, hc0⟩ := ReadsInt.ofRowC w0
  obtain ⟨l1, rfl, hr1, hm1, hw1, hc1⟩ := ReadsInt.ofRowC w1
  obtain ⟨k, h⟩ := P l0 l1 a2 hm0 y0 hw0 hm1 y1 hw1 w2
  refine (gripsacklaw5_TextJoins.calls k _ _ l0 _ _ l1 a2 true w (Kd.C_of_reads (d := (0 : Int)) (h1 := fun _ => rfl) hr0) hc0 (Kd.C_of_reads (d := (0 : Int)) (h1 := fun _ => rfl) hr1) hc1 h).mono ?_
  rintro e w' ⟨rfl, hd⟩
  exact ⟨rfl, hd⟩

end Go.Proofs.Ytljodbbmcgpcnaa.GTextJoins
