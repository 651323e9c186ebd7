-- By the session's own program (wip/gprint.py over the kit's print); Lean checks it.
import Derived.Test.YtljodbbmcgpcnaaGTextSignsx0
namespace Go.Proofs.Ytljodbbmcgpcnaa.GTextSigns
open Go.RowKit Go.Proofs.YtljodbbmcgpcnaaW.PrintWords Go.Proofs.YtljodbbmcgpcnaaW.PrintLast Go.Proofs.YtljodbbmcgpcnaaW.PrintMore
attribute [local go_sem] max2_int min2_int max_two min_two max_three min_three max_four min_four   -- for this text's walks alone
set_option linter.unusedVariables false
set_option linter.unusedSimpArgs false

/-! ### text_long: function 19 -/
def text_long.f (a0 : Int) : Option (Int × Int × Int) := if a0 < 128 then (some (1, wrap64 (a0), 0)) else (if (a0 / 32) = 6 then (some (2, wrap64 (Go.bits .and .u8 a0 31), 128)) else (if (a0 / 16) = 14 then (some (3, wrap64 (Go.bits .and .u8 a0 15), 2048)) else (if (a0 / 8) = 30 then (some (4, wrap64 (Go.bits .and .u8 a0 7), 65536)) else (some (0, 0, 0)))))
set_option maxHeartbeats 8000000 in
set_option maxRecDepth 100000 in
theorem text_long.calls (a0 : Int) (r1 : Int) (r2 : Int) (r3 : Int) (w : World) (h : text_long.f a0 = some (r1, r2, r3)) :
    Calls Try.prog 19 #[.int .u8 a0] w fun e w' => e = .returned (.tuple #[.int .i64 r1, .int .i64 r2, .int .i64 r3]) ∧ Drawn0 w w' := by
  have H : (if a0 < 128 then (some (1, wrap64 (a0), 0)) else (if (a0 / 32) = 6 then (some (2, wrap64 (Go.bits .and .u8 a0 31), 128)) else (if (a0 / 16) = 14 then (some (3, wrap64 (Go.bits .and .u8 a0 15), 2048)) else (if (a0 / 8) = 30 then (some (4, wrap64 (Go.bits .and .u8 a0 7), 65536)) else (some (0, 0, 0)))))) = some (r1, r2, r3) := h
  clear h
  by_cases c2 : a0 < 128
  · rw [if_pos c2] at H
    have c2b0 : decide (a0 < 128) = true := decide_eq_true c2
    clear c2
    simp only [Option.some.injEq, Prod.mk.injEq] at H
    obtain ⟨rfl, rfl, rfl⟩ := H
    go_enter Try.func19, Try.ntmps19
    go_wp2
    go_ret3
    exact ⟨by first | rfl | (simp; done) | (simp [*]; done), by repeat (first | exact Drawn0.refl _ | apply Drawn0.step)⟩
  · rw [if_neg c2] at H
    have c2b0 : decide (a0 < 128) = false := decide_eq_false c2
    clear c2
    by_cases c3 : (a0 / 32) = 6
    · rw [if_pos c3] at H
      have c3b0 : ((a0 / 32) == 6) = true := beq_iff_eq.mpr c3
      have c3b1 : ((a0 / 32) != 6) = false := bne_eq_false_iff_eq.mpr c3
      clear c3
      simp only [Option.some.injEq, Prod.mk.injEq] at H
      obtain ⟨rfl, rfl, rfl⟩ := H
      go_enter Try.func19, Try.ntmps19
      go_wp2
      go_ret3
      exact ⟨by first | rfl | (simp; done) | (simp [*]; done), by repeat (first | exact Drawn0.refl _ | apply Drawn0.step)⟩
    · rw [if_neg c3] at H
      have c3b0 : ((a0 / 32) == 6) = false := beq_eq_false_iff_ne.mpr c3
      have c3b1 : ((a0 / 32) != 6) = true := bne_iff_ne.mpr c3
      by_cases c4 : (a0 / 16) = 14
      · rw [if_pos c4] at H
        have c4b0 : ((a0 / 16) == 14) = true := beq_iff_eq.mpr c4
        have c4b1 : ((a0 / 16) != 14) = false := bne_eq_false_iff_eq.mpr c4
        clear c4
        simp only [Option.some.injEq, Prod.mk.injEq] at H
        obtain ⟨rfl, rfl, rfl⟩ := H
        go_enter Try.func19, Try.ntmps19
        go_wp2
        go_ret3
        exact ⟨by first | rfl | (simp; done) | (simp [*]; done), by repeat (first | exact Drawn0.refl _ | apply Drawn0.step)⟩
      · rw [if_neg c4] at H
        have c4b0 : ((a0 / 16) == 14) = false := beq_eq_false_iff_ne.mpr c4
        have c4b1 : ((a0 / 16) != 14) = true := bne_iff_ne.mpr c4
        by_cases c5 : (a0 / 8) = 30
        · rw [if_pos c5] at H
          have c5b0 : ((a0 / 8) == 30) = true := beq_iff_eq.mpr c5
          have c5b1 : ((a0 / 8) != 30) = false := bne_eq_false_iff_eq.mpr c5
          clear c5
          simp only [Option.some.injEq, Prod.mk.injEq] at H
          obtain ⟨rfl, rfl, rfl⟩ := H
          go_enter Try.func19, Try.ntmps19
          go_wp2
          go_ret3
          exact ⟨by first | rfl | (simp; done) | (simp [*]; done), by repeat (first | exact Drawn0.refl _ | apply Drawn0.step)⟩
        · rw [if_neg c5] at H
          have c5b0 : ((a0 / 8) == 30) = false := beq_eq_false_iff_ne.mpr c5
          have c5b1 : ((a0 / 8) != 30) = true := bne_iff_ne.mpr c5
          simp only [Option.some.injEq, Prod.mk.injEq] at H
          obtain ⟨rfl, rfl, rfl⟩ := H
          go_enter Try.func19, Try.ntmps19
          go_wp2
          go_ret3
          exact ⟨by first | rfl | (simp; done) | (simp [*]; done), by repeat (first | exact Drawn0.refl _ | apply Drawn0.step)⟩

-- NOT PRINTED: function 18 (text_sign)

/-! ### text_Bad: function 10 -/
def text_Bad.f (a0 : ByteArray) : Option (Int) := (text_read.f a0).bind fun bt104 => (some bt104.1)
set_option maxHeartbeats 8000000 in
set_option maxRecDepth 100000 in
theorem text_Bad.calls (a0 : ByteArray) (r : Int) (w : World) (h : text_Bad.f a0 = some r) :
    Calls Try.prog 10 #[.string a0] w fun e w' => e = .returned (.int .i64 r) ∧ Below w.heap.size w w' := by
  have HB := Aside0.mk (Below.refl w.heap.size w)
  have H : ((text_read.f a0).bind fun bt104 => (some bt104.1)) = some r := h
  clear h
  replace H := Option.bind_eq_some_iff.mp H
  obtain ⟨⟨t104, t105⟩, A20, H⟩ := H
  replace H : (some t104) = some r := H
  have A2 := Aside0.mk A20
  clear A20
  obtain rfl := Option.some.inj H
  go_enter Try.func10, Try.ntmps10
  go_wp2_with (first | ((with_reducible refine gate_callee (f := 15) rfl ?_); refine goesL_ (some 7) rfl rfl Try.func15 (by kernel_rfl) rfl #[.string a0] rfl (by (try simp only [List.map_toArray, List.map_cons, List.map_nil]); first | done | rfl | (simp only [List.length_drop, List.length_take]; rfl)) ?_; (with_reducible refine (text_read.calls a0 t104 t105 _ A2.out).mono ?_); rintro e w3 ⟨rfl, hb⟩; refine ⟨_, rfl, ?_⟩; have n0_ := Aside0.mk (below_step (by repeat (first | (with_reducible first | exact HB.out | apply below_alloc | apply pw_below_drewN | apply below_drew1) | exact HB.out)) hb); clear HB; have HB := n0_; clear n0_; (try clear hb); (try clear hb2); (try clear hk); (try clear hi)))
  go_ret
  exact ⟨by first | rfl | (simp [errW_none, errW_some] <;> rfl) | (simp [*, errW_none, errW_some] <;> rfl), by repeat (first | (with_reducible first | exact HB.out | apply below_alloc | apply pw_below_drewN | apply below_drew1) | exact HB.out)⟩

/-! ### text_Valid: function 8 -/
def text_Valid.f (a0 : ByteArray) : Option (Bool) := (text_Bad.f a0).bind fun t106 => (some (decide (t106 < 0)))
set_option maxHeartbeats 8000000 in
set_option maxRecDepth 100000 in
theorem text_Valid.calls (a0 : ByteArray) (r : Bool) (w : World) (h : text_Valid.f a0 = some r) :
    Calls Try.prog 8 #[.string a0] w fun e w' => e = .returned (.bool r) ∧ Below w.heap.size w w' := by
  have HB := Aside0.mk (Below.refl w.heap.size w)
  have H : ((text_Bad.f a0).bind fun t106 => (some (decide (t106 < 0)))) = some r := h
  clear h
  replace H := Option.bind_eq_some_iff.mp H
  obtain ⟨t106, A20, H⟩ := H
  replace H : (some (decide (t106 < 0))) = some r := H
  have A2 := Aside0.mk A20
  clear A20
  obtain rfl := Option.some.inj H
  go_enter Try.func8, Try.ntmps8
  go_wp2_with (first | ((with_reducible refine gate_callee (f := 10) rfl ?_); refine goesL_ (some 4) rfl rfl Try.func10 (by kernel_rfl) rfl #[.string a0] rfl (by (try simp only [List.map_toArray, List.map_cons, List.map_nil]); first | done | rfl | (simp only [List.length_drop, List.length_take]; rfl)) ?_; (with_reducible refine (text_Bad.calls a0 t106 _ A2.out).mono ?_); rintro e w3 ⟨rfl, hb⟩; refine ⟨_, rfl, ?_⟩; have n0_ := Aside0.mk (below_step (by repeat (first | (with_reducible first | exact HB.out | apply below_alloc | apply pw_below_drewN | apply below_drew1) | exact HB.out)) hb); clear HB; have HB := n0_; clear n0_; (try clear hb); (try clear hb2); (try clear hk); (try clear hi)))
  go_ret
  exact ⟨by first | rfl | (simp [errW_none, errW_some] <;> rfl) | (simp [*, errW_none, errW_some] <;> rfl), by repeat (first | (with_reducible first | exact HB.out | apply below_alloc | apply pw_below_drewN | apply below_drew1) | exact HB.out)⟩

/-! ### text_Count: function 12 -/
def text_Count.f (a0 : ByteArray) : Option (Int) := (text_read.f a0).bind fun bt107 => (some bt107.2)
set_option maxHeartbeats 8000000 in
set_option maxRecDepth 100000 in
theorem text_Count.calls (a0 : ByteArray) (r : Int) (w : World) (h : text_Count.f a0 = some r) :
    Calls Try.prog 12 #[.string a0] w fun e w' => e = .returned (.int .i64 r) ∧ Below w.heap.size w w' := by
  have HB := Aside0.mk (Below.refl w.heap.size w)
  have H : ((text_read.f a0).bind fun bt107 => (some bt107.2)) = some r := h
  clear h
  replace H := Option.bind_eq_some_iff.mp H
  obtain ⟨⟨t107, t108⟩, A20, H⟩ := H
  replace H : (some t108) = some r := H
  have A2 := Aside0.mk A20
  clear A20
  obtain rfl := Option.some.inj H
  go_enter Try.func12, Try.ntmps12
  go_wp2_with (first | ((with_reducible refine gate_callee (f := 15) rfl ?_); refine goesL_ (some 7) rfl rfl Try.func15 (by kernel_rfl) rfl #[.string a0] rfl (by (try simp only [List.map_toArray, List.map_cons, List.map_nil]); first | done | rfl | (simp only [List.length_drop, List.length_take]; rfl)) ?_; (with_reducible refine (text_read.calls a0 t107 t108 _ A2.out).mono ?_); rintro e w3 ⟨rfl, hb⟩; refine ⟨_, rfl, ?_⟩; have n0_ := Aside0.mk (below_step (by repeat (first | (with_reducible first | exact HB.out | apply below_alloc | apply pw_below_drewN | apply below_drew1) | exact HB.out)) hb); clear HB; have HB := n0_; clear n0_; (try clear hb); (try clear hb2); (try clear hk); (try clear hi)))
  go_ret
  exact ⟨by first | rfl | (simp [errW_none, errW_some] <;> rfl) | (simp [*, errW_none, errW_some] <;> rfl), by repeat (first | (with_reducible first | exact HB.out | apply below_alloc | apply pw_below_drewN | apply below_drew1) | exact HB.out)⟩

/-! ### gripsacklaw5_awake: function 7 -/
def gripsacklaw5_awake.f  : Option (Bool) := (text_Bad.f (⟨#[255]⟩ : ByteArray)).bind fun t109 => (if t109 = 0 then ((text_Valid.f (⟨#[97, 195, 164]⟩ : ByteArray)).bind fun t110 => (if t110 = true then ((text_Count.f (⟨#[97, 195, 164]⟩ : ByteArray)).bind fun t111 => (some (t111 == 2))) else (some false))) else (some false))
set_option maxHeartbeats 8000000 in
set_option maxRecDepth 100000 in
theorem gripsacklaw5_awake.calls  (r : Bool) (w : World) (h : gripsacklaw5_awake.f  = some r) :
    Calls Try.prog 7 #[] w fun e w' => e = .returned (.bool r) ∧ Below w.heap.size w w' := by
  have HB := Aside0.mk (Below.refl w.heap.size w)
  have H : ((text_Bad.f (⟨#[255]⟩ : ByteArray)).bind fun t109 => (if t109 = 0 then ((text_Valid.f (⟨#[97, 195, 164]⟩ : ByteArray)).bind fun t110 => (if t110 = true then ((text_Count.f (⟨#[97, 195, 164]⟩ : ByteArray)).bind fun t111 => (some (t111 == 2))) else (some false))) else (some false))) = some r := h
  clear h
  replace H := Option.bind_eq_some_iff.mp H
  obtain ⟨t109, A10, H⟩ := H
  replace H : (if t109 = 0 then ((text_Valid.f (⟨#[97, 195, 164]⟩ : ByteArray)).bind fun t110 => (if t110 = true then ((text_Count.f (⟨#[97, 195, 164]⟩ : ByteArray)).bind fun t111 => (some (t111 == 2))) else (some false))) else (some false)) = some r := H
  have A1 := Aside0.mk A10
  clear A10
  by_cases c2 : t109 = 0
  · rw [if_pos c2] at H
    have c2b0 : (t109 == 0) = true := beq_iff_eq.mpr c2
    have c2b1 : (t109 != 0) = false := bne_eq_false_iff_eq.mpr c2
    clear c2
    replace H := Option.bind_eq_some_iff.mp H
    obtain ⟨t110, A30, H⟩ := H
    replace H : (if t110 = true then ((text_Count.f (⟨#[97, 195, 164]⟩ : ByteArray)).bind fun t111 => (some (t111 == 2))) else (some false)) = some r := H
    have A3 := Aside0.mk A30
    clear A30
    by_cases c4 : t110 = true
    · subst c4
      have H1 : ((text_Count.f (⟨#[97, 195, 164]⟩ : ByteArray)).bind fun t111 => (some (t111 == 2))) = some r := by rw [if_pos rfl] at H; exact H
      clear H
      have H := H1
      clear H1
      replace H := Option.bind_eq_some_iff.mp H
      obtain ⟨t111, A50, H⟩ := H
      replace H : (some (t111 == 2)) = some r := H
      have A5 := Aside0.mk A50
      clear A50
      obtain rfl := Option.some.inj H
      go_enter Try.func7, Try.ntmps7
      go_wp2_with (first | ((with_reducible refine gate_callee (f := 10) rfl ?_); refine goesL_ (some 1) rfl rfl Try.func10 (by kernel_rfl) rfl #[.string (⟨#[255]⟩ : ByteArray)] rfl (by (try simp only [List.map_toArray, List.map_cons, List.map_nil]); first | done | rfl | (simp only [List.length_drop, List.length_take]; rfl)) ?_; (with_reducible refine (text_Bad.calls (⟨#[255]⟩ : ByteArray) t109 _ A1.out).mono ?_); rintro e w6 ⟨rfl, hb⟩; refine ⟨_, rfl, ?_⟩; have n0_ := Aside0.mk (below_step (by repeat (first | (with_reducible first | exact HB.out | apply below_alloc | apply pw_below_drewN | apply below_drew1) | exact HB.out)) hb); clear HB; have HB := n0_; clear n0_; (try clear hb); (try clear hb2); (try clear hk); (try clear hi)) | (go_at_call 8; (with_reducible refine (text_Valid.calls (⟨#[97, 195, 164]⟩ : ByteArray) true _ A3.out).mono ?_); rintro e w7 ⟨rfl, hb⟩; have n0_ := Aside0.mk (below_step (by repeat (first | (with_reducible first | exact HB.out | apply below_alloc | apply pw_below_drewN | apply below_drew1) | exact HB.out)) hb); clear HB; have HB := n0_; clear n0_; (try clear hb); (try clear hb2); (try clear hk); (try clear hi)) | (go_at_call 12; (with_reducible refine (text_Count.calls (⟨#[97, 195, 164]⟩ : ByteArray) t111 _ A5.out).mono ?_); rintro e w8 ⟨rfl, hb⟩; have n0_ := Aside0.mk (below_step (by repeat (first | (with_reducible first | exact HB.out | apply below_alloc | apply pw_below_drewN | apply below_drew1) | exact HB.out)) hb); clear HB; have HB := n0_; clear n0_; (try clear hb); (try clear hb2); (try clear hk); (try clear hi)))
      go_ret
      exact ⟨by first | rfl | (simp [errW_none, errW_some] <;> rfl) | (simp [*, errW_none, errW_some] <;> rfl), by repeat (first | (with_reducible first | exact HB.out | apply below_alloc | apply pw_below_drewN | apply below_drew1) | exact HB.out)⟩
    · replace c4 := Bool.eq_false_iff.mpr c4
      subst c4
      have H1 : (some false) = some r := by rw [if_neg (show ¬ (false = true) by decide)] at H; exact H
      clear H
      have H := H1
      clear H1
      obtain rfl := Option.some.inj H
      go_enter Try.func7, Try.ntmps7
      go_wp2_with (first | ((with_reducible refine gate_callee (f := 10) rfl ?_); refine goesL_ (some 1) rfl rfl Try.func10 (by kernel_rfl) rfl #[.string (⟨#[255]⟩ : ByteArray)] rfl (by (try simp only [List.map_toArray, List.map_cons, List.map_nil]); first | done | rfl | (simp only [List.length_drop, List.length_take]; rfl)) ?_; (with_reducible refine (text_Bad.calls (⟨#[255]⟩ : ByteArray) t109 _ A1.out).mono ?_); rintro e w9 ⟨rfl, hb⟩; refine ⟨_, rfl, ?_⟩; have n0_ := Aside0.mk (below_step (by repeat (first | (with_reducible first | exact HB.out | apply below_alloc | apply pw_below_drewN | apply below_drew1) | exact HB.out)) hb); clear HB; have HB := n0_; clear n0_; (try clear hb); (try clear hb2); (try clear hk); (try clear hi)) | (go_at_call 8; (with_reducible refine (text_Valid.calls (⟨#[97, 195, 164]⟩ : ByteArray) false _ A3.out).mono ?_); rintro e w10 ⟨rfl, hb⟩; have n0_ := Aside0.mk (below_step (by repeat (first | (with_reducible first | exact HB.out | apply below_alloc | apply pw_below_drewN | apply below_drew1) | exact HB.out)) hb); clear HB; have HB := n0_; clear n0_; (try clear hb); (try clear hb2); (try clear hk); (try clear hi)))
      go_ret
      exact ⟨by first | rfl | (simp [errW_none, errW_some] <;> rfl) | (simp [*, errW_none, errW_some] <;> rfl), by repeat (first | (with_reducible first | exact HB.out | apply below_alloc | apply pw_below_drewN | apply below_drew1) | exact HB.out)⟩
  · rw [if_neg c2] at H
    have c2b0 : (t109 == 0) = false := beq_eq_false_iff_ne.mpr c2
    have c2b1 : (t109 != 0) = true := bne_iff_ne.mpr c2
    obtain rfl := Option.some.inj H
    go_enter Try.func7, Try.ntmps7
    go_wp2_with (first | ((with_reducible refine gate_callee (f := 10) rfl ?_); refine goesL_ (some 1) rfl rfl Try.func10 (by kernel_rfl) rfl #[.string (⟨#[255]⟩ : ByteArray)] rfl (by (try simp only [List.map_toArray, List.map_cons, List.map_nil]); first | done | rfl | (simp only [List.length_drop, List.length_take]; rfl)) ?_; (with_reducible refine (text_Bad.calls (⟨#[255]⟩ : ByteArray) t109 _ A1.out).mono ?_); rintro e w11 ⟨rfl, hb⟩; refine ⟨_, rfl, ?_⟩; have n0_ := Aside0.mk (below_step (by repeat (first | (with_reducible first | exact HB.out | apply below_alloc | apply pw_below_drewN | apply below_drew1) | exact HB.out)) hb); clear HB; have HB := n0_; clear n0_; (try clear hb); (try clear hb2); (try clear hk); (try clear hi)))
    go_ret
    exact ⟨by first | rfl | (simp [errW_none, errW_some] <;> rfl) | (simp [*, errW_none, errW_some] <;> rfl), by repeat (first | (with_reducible first | exact HB.out | apply below_alloc | apply pw_below_drewN | apply below_drew1) | exact HB.out)⟩

/-! ### gripsacklaw5_put: function 14 -/
def gripsacklaw5_put.f (a0 : Int) : Option (ByteArray) := if a0 < 128 then (some (strOfNums (([(a0) % 256] : List Int)))) else (if a0 < 2048 then (some (strOfNums (([(wrap64 (192 + (a0 / 64))) % 256, (wrap64 (128 + (Go.bits .and .i64 a0 63))) % 256] : List Int)))) else (if a0 < 65536 then (some (strOfNums (([(wrap64 (224 + (a0 / 4096))) % 256, (wrap64 (128 + (Go.bits .and .i64 (a0 / 64) 63))) % 256, (wrap64 (128 + (Go.bits .and .i64 a0 63))) % 256] : List Int)))) else (some (strOfNums (([(wrap64 (240 + (a0 / 262144))) % 256, (wrap64 (128 + (Go.bits .and .i64 (a0 / 4096) 63))) % 256, (wrap64 (128 + (Go.bits .and .i64 (a0 / 64) 63))) % 256, (wrap64 (128 + (Go.bits .and .i64 a0 63))) % 256] : List Int))))))
set_option maxHeartbeats 8000000 in
set_option maxRecDepth 100000 in
theorem gripsacklaw5_put.calls (a0 : Int) (r : ByteArray) (w : World) (h : gripsacklaw5_put.f a0 = some r) :
    Calls Try.prog 14 #[.int .i64 a0] w fun e w' => e = .returned (.string r) ∧ Below w.heap.size w w' := by
  have HB := Aside0.mk (Below.refl w.heap.size w)
  have H : (if a0 < 128 then (some (strOfNums (([(a0) % 256] : List Int)))) else (if a0 < 2048 then (some (strOfNums (([(wrap64 (192 + (a0 / 64))) % 256, (wrap64 (128 + (Go.bits .and .i64 a0 63))) % 256] : List Int)))) else (if a0 < 65536 then (some (strOfNums (([(wrap64 (224 + (a0 / 4096))) % 256, (wrap64 (128 + (Go.bits .and .i64 (a0 / 64) 63))) % 256, (wrap64 (128 + (Go.bits .and .i64 a0 63))) % 256] : List Int)))) else (some (strOfNums (([(wrap64 (240 + (a0 / 262144))) % 256, (wrap64 (128 + (Go.bits .and .i64 (a0 / 4096) 63))) % 256, (wrap64 (128 + (Go.bits .and .i64 (a0 / 64) 63))) % 256, (wrap64 (128 + (Go.bits .and .i64 a0 63))) % 256] : List Int))))))) = some r := h
  clear h
  by_cases c2 : a0 < 128
  · rw [if_pos c2] at H
    have c2b0 : decide (a0 < 128) = true := decide_eq_true c2
    clear c2
    obtain ⟨y112, hy112⟩ : ∃ y_ : List Int, y_ = (([(a0) % 256] : List Int)) := ⟨_, rfl⟩
    replace H : (some (strOfNums y112)) = some r := by first | (rw [hy112]; with_reducible exact H) | (have H2_ := (Option.bind_some _ _).symm.trans H; rw [hy112]; with_reducible exact H2_) | (have H2_ := (Option.bind_some _ _).symm.trans H; with_reducible exact H2_) | with_reducible exact H | (rw [hy112]; exact H) | exact H
    have Ny112 := Aside0.mk hy112
    clear hy112
    obtain rfl := Option.some.inj H
    go_enter Try.func14, Try.ntmps14
    go_wp2_with (first | ((with_reducible refine gate_dst (N := 8) rfl ?_); refine Kd.R_lit (Kd.int .u8) _ 5 ?hg (N := 8) ?hd (xs := ([(a0) % 256] : List Int)) (inner := [.int .u8 ((a0) % 256)]) (ok := fun _ => True) (okp := fun _ => True) ?hr ?hp (fun _ hk => hk) trivial (Below.refl _ _) (Nat.le_refl _) (by simp) ?_; (case hd => rfl); (case hg => rfl); (case hr => first | (go_simp; done) | (go_simp; rfl)); (case hp => exact (Reps.one (show Kd.M (Kd.int .u8) _ _ _ ((a0) % 256) [.int .u8 ((a0) % 256)] from rfl) (Reps.none _ _))); intro v113 w3 ho4 hb hg_ hnew_; clear hg_ hnew_; (first | rw [← Ny112.out] at ho4 | (simp only [Int.reduceToNat] at ho4; rw [← Ny112.out] at ho4)); have n0_ := Aside0.mk (Kd.R_lower ho4 (below_size (by repeat (first | (with_reducible first | exact HB.out | apply below_alloc | apply pw_below_drewN | apply below_drew1) | exact HB.out)))); have n1_ := Aside0.mk (below_step (by repeat (first | (with_reducible first | exact HB.out | apply below_alloc | apply pw_below_drewN | apply below_drew1) | exact HB.out)) hb); clear HB; have HO114 := n0_; have HB := n1_; clear n0_ n1_; clear hb ho4; have hcv5 := own_string (P := Try.prog) Try.underlying28 Try.underlying5 Try.underlying9 (Kd.own_of_R HO114.out)))
    go_ret
    exact ⟨by first | rfl | (simp [errW_none, errW_some] <;> rfl) | (simp [*, errW_none, errW_some] <;> rfl), by repeat (first | (with_reducible first | exact HB.out | apply below_alloc | apply pw_below_drewN | apply below_drew1) | exact HB.out)⟩
  · rw [if_neg c2] at H
    have c2b0 : decide (a0 < 128) = false := decide_eq_false c2
    clear c2
    by_cases c6 : a0 < 2048
    · rw [if_pos c6] at H
      have c6b0 : decide (a0 < 2048) = true := decide_eq_true c6
      clear c6
      obtain ⟨y115, hy115⟩ : ∃ y_ : List Int, y_ = (([(wrap64 (192 + (a0 / 64))) % 256, (wrap64 (128 + (Go.bits .and .i64 a0 63))) % 256] : List Int)) := ⟨_, rfl⟩
      replace H : (some (strOfNums y115)) = some r := by first | (rw [hy115]; with_reducible exact H) | (have H2_ := (Option.bind_some _ _).symm.trans H; rw [hy115]; with_reducible exact H2_) | (have H2_ := (Option.bind_some _ _).symm.trans H; with_reducible exact H2_) | with_reducible exact H | (rw [hy115]; exact H) | exact H
      have Ny115 := Aside0.mk hy115
      clear hy115
      obtain rfl := Option.some.inj H
      go_enter Try.func14, Try.ntmps14
      go_wp2_with (first | ((with_reducible refine gate_dst (N := 21) rfl ?_); refine Kd.R_lit (Kd.int .u8) _ 5 ?hg (N := 21) ?hd (xs := ([(wrap64 (192 + (a0 / 64))) % 256, (wrap64 (128 + (Go.bits .and .i64 a0 63))) % 256] : List Int)) (inner := [.int .u8 ((wrap64 (192 + (a0 / 64))) % 256), .int .u8 ((wrap64 (128 + (Go.bits .and .i64 a0 63))) % 256)]) (ok := fun _ => True) (okp := fun _ => True) ?hr ?hp (fun _ hk => hk) trivial (Below.refl _ _) (Nat.le_refl _) (by simp) ?_; (case hd => rfl); (case hg => rfl); (case hr => first | (go_simp; done) | (go_simp; rfl)); (case hp => exact (Reps.one (show Kd.M (Kd.int .u8) _ _ _ ((wrap64 (192 + (a0 / 64))) % 256) [.int .u8 ((wrap64 (192 + (a0 / 64))) % 256)] from rfl) (Reps.one (show Kd.M (Kd.int .u8) _ _ _ ((wrap64 (128 + (Go.bits .and .i64 a0 63))) % 256) [.int .u8 ((wrap64 (128 + (Go.bits .and .i64 a0 63))) % 256)] from rfl) (Reps.none _ _)))); intro v116 w7 ho8 hb hg_ hnew_; clear hg_ hnew_; (first | rw [← Ny115.out] at ho8 | (simp only [Int.reduceToNat] at ho8; rw [← Ny115.out] at ho8)); have n0_ := Aside0.mk (Kd.R_lower ho8 (below_size (by repeat (first | (with_reducible first | exact HB.out | apply below_alloc | apply pw_below_drewN | apply below_drew1) | exact HB.out)))); have n1_ := Aside0.mk (below_step (by repeat (first | (with_reducible first | exact HB.out | apply below_alloc | apply pw_below_drewN | apply below_drew1) | exact HB.out)) hb); clear HB; have HO117 := n0_; have HB := n1_; clear n0_ n1_; clear hb ho8; have hcv9 := own_string (P := Try.prog) Try.underlying28 Try.underlying5 Try.underlying9 (Kd.own_of_R HO117.out)))
      go_ret
      exact ⟨by first | rfl | (simp [errW_none, errW_some] <;> rfl) | (simp [*, errW_none, errW_some] <;> rfl), by repeat (first | (with_reducible first | exact HB.out | apply below_alloc | apply pw_below_drewN | apply below_drew1) | exact HB.out)⟩
    · rw [if_neg c6] at H
      have c6b0 : decide (a0 < 2048) = false := decide_eq_false c6
      clear c6
      by_cases c10 : a0 < 65536
      · rw [if_pos c10] at H
        have c10b0 : decide (a0 < 65536) = true := decide_eq_true c10
        clear c10
        obtain ⟨y118, hy118⟩ : ∃ y_ : List Int, y_ = (([(wrap64 (224 + (a0 / 4096))) % 256, (wrap64 (128 + (Go.bits .and .i64 (a0 / 64) 63))) % 256, (wrap64 (128 + (Go.bits .and .i64 a0 63))) % 256] : List Int)) := ⟨_, rfl⟩
        replace H : (some (strOfNums y118)) = some r := by first | (rw [hy118]; with_reducible exact H) | (have H2_ := (Option.bind_some _ _).symm.trans H; rw [hy118]; with_reducible exact H2_) | (have H2_ := (Option.bind_some _ _).symm.trans H; with_reducible exact H2_) | with_reducible exact H | (rw [hy118]; exact H) | exact H
        have Ny118 := Aside0.mk hy118
        clear hy118
        obtain rfl := Option.some.inj H
        go_enter Try.func14, Try.ntmps14
        go_wp2_with (first | ((with_reducible refine gate_dst (N := 39) rfl ?_); refine Kd.R_lit (Kd.int .u8) _ 5 ?hg (N := 39) ?hd (xs := ([(wrap64 (224 + (a0 / 4096))) % 256, (wrap64 (128 + (Go.bits .and .i64 (a0 / 64) 63))) % 256, (wrap64 (128 + (Go.bits .and .i64 a0 63))) % 256] : List Int)) (inner := [.int .u8 ((wrap64 (224 + (a0 / 4096))) % 256), .int .u8 ((wrap64 (128 + (Go.bits .and .i64 (a0 / 64) 63))) % 256), .int .u8 ((wrap64 (128 + (Go.bits .and .i64 a0 63))) % 256)]) (ok := fun _ => True) (okp := fun _ => True) ?hr ?hp (fun _ hk => hk) trivial (Below.refl _ _) (Nat.le_refl _) (by simp) ?_; (case hd => rfl); (case hg => rfl); (case hr => first | (go_simp; done) | (go_simp; rfl)); (case hp => exact (Reps.one (show Kd.M (Kd.int .u8) _ _ _ ((wrap64 (224 + (a0 / 4096))) % 256) [.int .u8 ((wrap64 (224 + (a0 / 4096))) % 256)] from rfl) (Reps.one (show Kd.M (Kd.int .u8) _ _ _ ((wrap64 (128 + (Go.bits .and .i64 (a0 / 64) 63))) % 256) [.int .u8 ((wrap64 (128 + (Go.bits .and .i64 (a0 / 64) 63))) % 256)] from rfl) (Reps.one (show Kd.M (Kd.int .u8) _ _ _ ((wrap64 (128 + (Go.bits .and .i64 a0 63))) % 256) [.int .u8 ((wrap64 (128 + (Go.bits .and .i64 a0 63))) % 256)] from rfl) (Reps.none _ _))))); intro v119 w11 ho12 hb hg_ hnew_; clear hg_ hnew_; (first | rw [← Ny118.out] at ho12 | (simp only [Int.reduceToNat] at ho12; rw [← Ny118.out] at ho12)); have n0_ := Aside0.mk (Kd.R_lower ho12 (below_size (by repeat (first | (with_reducible first | exact HB.out | apply below_alloc | apply pw_below_drewN | apply below_drew1) | exact HB.out)))); have n1_ := Aside0.mk (below_step (by repeat (first | (with_reducible first | exact HB.out | apply below_alloc | apply pw_below_drewN | apply below_drew1) | exact HB.out)) hb); clear HB; have HO120 := n0_; have HB := n1_; clear n0_ n1_; clear hb ho12; have hcv13 := own_string (P := Try.prog) Try.underlying28 Try.underlying5 Try.underlying9 (Kd.own_of_R HO120.out)))
        go_ret
        exact ⟨by first | rfl | (simp [errW_none, errW_some] <;> rfl) | (simp [*, errW_none, errW_some] <;> rfl), by repeat (first | (with_reducible first | exact HB.out | apply below_alloc | apply pw_below_drewN | apply below_drew1) | exact HB.out)⟩
      · rw [if_neg c10] at H
        have c10b0 : decide (a0 < 65536) = false := decide_eq_false c10
        clear c10
        obtain ⟨y121, hy121⟩ : ∃ y_ : List Int, y_ = (([(wrap64 (240 + (a0 / 262144))) % 256, (wrap64 (128 + (Go.bits .and .i64 (a0 / 4096) 63))) % 256, (wrap64 (128 + (Go.bits .and .i64 (a0 / 64) 63))) % 256, (wrap64 (128 + (Go.bits .and .i64 a0 63))) % 256] : List Int)) := ⟨_, rfl⟩
        replace H : (some (strOfNums y121)) = some r := by first | (rw [hy121]; with_reducible exact H) | (have H2_ := (Option.bind_some _ _).symm.trans H; rw [hy121]; with_reducible exact H2_) | (have H2_ := (Option.bind_some _ _).symm.trans H; with_reducible exact H2_) | with_reducible exact H | (rw [hy121]; exact H) | exact H
        have Ny121 := Aside0.mk hy121
        clear hy121
        obtain rfl := Option.some.inj H
        go_enter Try.func14, Try.ntmps14
        go_wp2_with (first | ((with_reducible refine gate_dst (N := 59) rfl ?_); refine Kd.R_lit (Kd.int .u8) _ 5 ?hg (N := 59) ?hd (xs := ([(wrap64 (240 + (a0 / 262144))) % 256, (wrap64 (128 + (Go.bits .and .i64 (a0 / 4096) 63))) % 256, (wrap64 (128 + (Go.bits .and .i64 (a0 / 64) 63))) % 256, (wrap64 (128 + (Go.bits .and .i64 a0 63))) % 256] : List Int)) (inner := [.int .u8 ((wrap64 (240 + (a0 / 262144))) % 256), .int .u8 ((wrap64 (128 + (Go.bits .and .i64 (a0 / 4096) 63))) % 256), .int .u8 ((wrap64 (128 + (Go.bits .and .i64 (a0 / 64) 63))) % 256), .int .u8 ((wrap64 (128 + (Go.bits .and .i64 a0 63))) % 256)]) (ok := fun _ => True) (okp := fun _ => True) ?hr ?hp (fun _ hk => hk) trivial (Below.refl _ _) (Nat.le_refl _) (by simp) ?_; (case hd => rfl); (case hg => rfl); (case hr => first | (go_simp; done) | (go_simp; rfl)); (case hp => exact (Reps.one (show Kd.M (Kd.int .u8) _ _ _ ((wrap64 (240 + (a0 / 262144))) % 256) [.int .u8 ((wrap64 (240 + (a0 / 262144))) % 256)] from rfl) (Reps.one (show Kd.M (Kd.int .u8) _ _ _ ((wrap64 (128 + (Go.bits .and .i64 (a0 / 4096) 63))) % 256) [.int .u8 ((wrap64 (128 + (Go.bits .and .i64 (a0 / 4096) 63))) % 256)] from rfl) (Reps.one (show Kd.M (Kd.int .u8) _ _ _ ((wrap64 (128 + (Go.bits .and .i64 (a0 / 64) 63))) % 256) [.int .u8 ((wrap64 (128 + (Go.bits .and .i64 (a0 / 64) 63))) % 256)] from rfl) (Reps.one (show Kd.M (Kd.int .u8) _ _ _ ((wrap64 (128 + (Go.bits .and .i64 a0 63))) % 256) [.int .u8 ((wrap64 (128 + (Go.bits .and .i64 a0 63))) % 256)] from rfl) (Reps.none _ _)))))); intro v122 w14 ho15 hb hg_ hnew_; clear hg_ hnew_; (first | rw [← Ny121.out] at ho15 | (simp only [Int.reduceToNat] at ho15; rw [← Ny121.out] at ho15)); have n0_ := Aside0.mk (Kd.R_lower ho15 (below_size (by repeat (first | (with_reducible first | exact HB.out | apply below_alloc | apply pw_below_drewN | apply below_drew1) | exact HB.out)))); have n1_ := Aside0.mk (below_step (by repeat (first | (with_reducible first | exact HB.out | apply below_alloc | apply pw_below_drewN | apply below_drew1) | exact HB.out)) hb); clear HB; have HO123 := n0_; have HB := n1_; clear n0_ n1_; clear hb ho15; have hcv16 := own_string (P := Try.prog) Try.underlying28 Try.underlying5 Try.underlying9 (Kd.own_of_R HO123.out)))
        go_ret
        exact ⟨by first | rfl | (simp [errW_none, errW_some] <;> rfl) | (simp [*, errW_none, errW_some] <;> rfl), by repeat (first | (with_reducible first | exact HB.out | apply below_alloc | apply pw_below_drewN | apply below_drew1) | exact HB.out)⟩

/-! ### gripsacklaw5_TextSigns: function 4 -/
def gripsacklaw5_TextSigns.j0 : Nat → Int → ByteArray → Bool → Option (Bool)
  | 0, _, _, _ => none
  | k + 1, x3, x4, x5 => (some (([(wrap64 (128 + (Go.bits .and .i64 (x3 / 64) 31))) % 256, (wrap64 (128 + (Go.bits .and .i64 x3 63))) % 256] : List Int) : List Int)).bind fun y125 => (if 1 + (strOfNums y125).size ≤ 9223372036854775807 then ((some (([(wrap64 (192 + (Go.bits .and .i64 (x3 / 64) 1))) % 256, (wrap64 (128 + (Go.bits .and .i64 x3 63))) % 256] : List Int) : List Int)).bind fun y128 => ((text_Valid.f x4).bind fun t131 => (if (t131 == x5) = true then (if x5 = true then ((text_Count.f x4).bind fun t132 => (if t132 = 1 then ((text_Valid.f ((⟨#[224]⟩ : ByteArray) ++ (strOfNums y125))).bind fun t133 => (if t133 = true then (some false) else ((text_Valid.f (strOfNums y128)).bind fun t134 => (if t134 = true then (some false) else ((gripsacklaw5_awake.f).bind fun t135 => (some t135)))))) else (some false))) else ((text_Valid.f ((⟨#[224]⟩ : ByteArray) ++ (strOfNums y125))).bind fun t136 => (if t136 = true then (some false) else ((text_Valid.f (strOfNums y128)).bind fun t137 => (if t137 = true then (some false) else ((gripsacklaw5_awake.f).bind fun t138 => (some t138))))))) else (some false)))) else (none))
def gripsacklaw5_TextSigns.f (k : Nat) (a0 : Int) : Option (Bool) := (gripsacklaw5_put.f (Int.tmod (wrap64 (a0)) 2097152)).bind fun t124 => (if (Int.tmod (wrap64 (a0)) 2097152) ≤ 1114111 then (if (Int.tmod (wrap64 (a0)) 2097152) < 55296 then (gripsacklaw5_TextSigns.j0 k (Int.tmod (wrap64 (a0)) 2097152) t124 true) else (gripsacklaw5_TextSigns.j0 k (Int.tmod (wrap64 (a0)) 2097152) t124 (decide ((Int.tmod (wrap64 (a0)) 2097152) > 57343)))) else (gripsacklaw5_TextSigns.j0 k (Int.tmod (wrap64 (a0)) 2097152) t124 false))
theorem gripsacklaw5_TextSigns.mono_l : ∀ k, (∀ y0 y1 y2, LeO (gripsacklaw5_TextSigns.j0 k y0 y1 y2) (gripsacklaw5_TextSigns.j0 (k + 1) y0 y1 y2))
  | 0 => fun _ _ _ r h => by simp [gripsacklaw5_TextSigns.j0] at h
  | k + 1 => by
    have ih0 := gripsacklaw5_TextSigns.mono_l k
    · intro y0 y1 y2
      unfold gripsacklaw5_TextSigns.j0
      repeat' first
      | (with_reducible exact ih0 _ _ _)
      | (with_reducible exact LeO.refl _)
      | (with_reducible exact LeO.none _)
      | (with_reducible refine LeO.ite ?_ ?_)
      | (with_reducible refine LeO.bind ?_ (fun _ => ?_))
      | exact ih0 _ _ _
      | exact LeO.none _
      | refine LeO.ite ?_ ?_
      | refine LeO.bind ?_ (fun _ => ?_)
theorem gripsacklaw5_TextSigns.mono : ∀ a0 k, LeO (gripsacklaw5_TextSigns.f k a0) (gripsacklaw5_TextSigns.f (k + 1) a0) := by
  intro a0 k
  have ih0 := gripsacklaw5_TextSigns.mono_l k
  unfold gripsacklaw5_TextSigns.f
  repeat' first
      | (with_reducible exact ih0 _ _ _)
      | (with_reducible exact LeO.refl _)
      | (with_reducible exact LeO.none _)
      | (with_reducible refine LeO.ite ?_ ?_)
      | (with_reducible refine LeO.bind ?_ (fun _ => ?_))
      | exact ih0 _ _ _
      | exact LeO.none _
      | refine LeO.ite ?_ ?_
      | refine LeO.bind ?_ (fun _ => ?_)
set_option maxHeartbeats 8000000 in
set_option maxRecDepth 100000 in
theorem gripsacklaw5_TextSigns.calls (k : Nat) (a0 : Int) (r : Bool) (w : World) (h : gripsacklaw5_TextSigns.f k a0 = some r) :
    Calls Try.prog 4 #[.int .u32 a0] w fun e w' => e = .returned (.bool r) ∧ Below w.heap.size w w' := by
  have HB := Aside0.mk (Below.refl w.heap.size w)
  have H : ((gripsacklaw5_put.f (Int.tmod (wrap64 (a0)) 2097152)).bind fun t124 => (if (Int.tmod (wrap64 (a0)) 2097152) ≤ 1114111 then (if (Int.tmod (wrap64 (a0)) 2097152) < 55296 then (gripsacklaw5_TextSigns.j0 k (Int.tmod (wrap64 (a0)) 2097152) t124 true) else (gripsacklaw5_TextSigns.j0 k (Int.tmod (wrap64 (a0)) 2097152) t124 (decide ((Int.tmod (wrap64 (a0)) 2097152) > 57343)))) else (gripsacklaw5_TextSigns.j0 k (Int.tmod (wrap64 (a0)) 2097152) t124 false))) = some r := h
  clear h
  replace H := Option.bind_eq_some_iff.mp H
  obtain ⟨t124, A20, H⟩ := H
  replace H : (if (Int.tmod (wrap64 (a0)) 2097152) ≤ 1114111 then (if (Int.tmod (wrap64 (a0)) 2097152) < 55296 then (gripsacklaw5_TextSigns.j0 k (Int.tmod (wrap64 (a0)) 2097152) t124 true) else (gripsacklaw5_TextSigns.j0 k (Int.tmod (wrap64 (a0)) 2097152) t124 (decide ((Int.tmod (wrap64 (a0)) 2097152) > 57343)))) else (gripsacklaw5_TextSigns.j0 k (Int.tmod (wrap64 (a0)) 2097152) t124 false)) = some r := H
  have A2 := Aside0.mk A20
  clear A20
  have HC3 := Aside0.mk H
  clear H
  go_enter Try.func4, Try.ntmps4
  go_upto_region 3 with (first | ((with_reducible refine gate_callee (f := 14) rfl ?_); refine goesL_ (some 12) rfl rfl Try.func14 (by kernel_rfl) rfl #[.int .i64 (Int.tmod (wrap64 (a0)) 2097152)] rfl (by (try simp only [List.map_toArray, List.map_cons, List.map_nil]); first | done | rfl | (simp only [List.length_drop, List.length_take]; rfl)) ?_; (with_reducible refine (gripsacklaw5_put.calls (Int.tmod (wrap64 (a0)) 2097152) t124 _ A2.out).mono ?_); rintro e w4 ⟨rfl, hb⟩; refine ⟨_, rfl, ?_⟩; have n0_ := Aside0.mk (below_step (by repeat (first | (with_reducible first | exact HB.out | apply below_alloc | apply pw_below_drewN | apply below_drew1) | exact HB.out)) hb); clear HB; have HB := n0_; clear n0_; (try clear hb); (try clear hb2); (try clear hk); (try clear hi)))
  (try simp only [Act.put, List.setIfInBounds_toArray, List.set_cons_zero, List.set_cons_succ])
  go_cut [5] (fun v5 wc => ∃ (kq : Nat) (x5_2 : Bool), v5 = .bool x5_2 ∧ Aside0 (gripsacklaw5_TextSigns.j0 kq (Int.tmod (wrap64 (a0)) 2097152) t124 x5_2 = some r) ∧ Aside0 (kq ≤ k) ∧ Aside0 (Below w.heap.size w wc))
  case first =>
    have H := HC3.out
    clear HC3
    by_cases c5 : (Int.tmod (wrap64 (a0)) 2097152) ≤ 1114111
    · rw [if_pos c5] at H
      have c5b0 : decide ((Int.tmod (wrap64 (a0)) 2097152) ≤ 1114111) = true := decide_eq_true c5
      clear c5
      (first | rw [c5b0] | (simp only [i64_w, i32_w]; rw [c5b0]) | skip)
      by_cases c6 : (Int.tmod (wrap64 (a0)) 2097152) < 55296
      · rw [if_pos c6] at H
        have c6b0 : decide ((Int.tmod (wrap64 (a0)) 2097152) < 55296) = true := decide_eq_true c6
        clear c6
        have H' := Aside0.mk H
        clear H
        go_wp2
        go_meet
        case rel => exact ⟨_, (true), (by first | rfl | (simp; done) | (simp [*]; done)), H', ⟨by first | omega | exact Nat.le_refl _⟩, ⟨by repeat (first | (with_reducible first | exact HB.out | apply below_alloc | apply pw_below_drewN | apply below_drew1) | exact HB.out)⟩⟩
      · rw [if_neg c6] at H
        have c6b0 : decide ((Int.tmod (wrap64 (a0)) 2097152) < 55296) = false := decide_eq_false c6
        clear c6
        have H' := Aside0.mk H
        clear H
        go_wp2
        go_meet
        case rel => exact ⟨_, (decide ((Int.tmod (wrap64 (a0)) 2097152) > 57343)), (by first | rfl | (simp; done) | (simp [*]; done)), H', ⟨by first | omega | exact Nat.le_refl _⟩, ⟨by repeat (first | (with_reducible first | exact HB.out | apply below_alloc | apply pw_below_drewN | apply below_drew1) | exact HB.out)⟩⟩
    · rw [if_neg c5] at H
      have c5b0 : decide ((Int.tmod (wrap64 (a0)) 2097152) ≤ 1114111) = false := decide_eq_false c5
      clear c5
      (first | rw [c5b0] | (simp only [i64_w, i32_w]; rw [c5b0]) | skip)
      have H' := Aside0.mk H
      clear H
      go_wp2
      go_meet
      case rel => exact ⟨_, (false), (by first | rfl | (simp; done) | (simp [*]; done)), H', ⟨by first | omega | exact Nat.le_refl _⟩, ⟨by repeat (first | (with_reducible first | exact HB.out | apply below_alloc | apply pw_below_drewN | apply below_drew1) | exact HB.out)⟩⟩
  case rest =>
    clear HC3
    try clear c1
    try clear p2
    try clear c4
    try clear c5
    try clear c5b0
    try clear c6
    try clear c6b0
    try clear p6
    obtain ⟨kq, x5_2, rfl, HA, HJ2, HB⟩ := hcut
    cases kq with
    | zero => exact absurd HA.out (by simp [gripsacklaw5_TextSigns.j0])
    | succ kj2 =>
      have H := HA.out
      clear HA
      simp only [gripsacklaw5_TextSigns.j0] at H
      obtain ⟨y125, hy125⟩ : ∃ y_ : List Int, y_ = (([(wrap64 (128 + (Go.bits .and .i64 ((Int.tmod (wrap64 (a0)) 2097152) / 64) 31))) % 256, (wrap64 (128 + (Go.bits .and .i64 (Int.tmod (wrap64 (a0)) 2097152) 63))) % 256] : List Int)) := ⟨_, rfl⟩
      replace H : (if 1 + (strOfNums y125).size ≤ 9223372036854775807 then ((some (([(wrap64 (192 + (Go.bits .and .i64 ((Int.tmod (wrap64 (a0)) 2097152) / 64) 1))) % 256, (wrap64 (128 + (Go.bits .and .i64 (Int.tmod (wrap64 (a0)) 2097152) 63))) % 256] : List Int) : List Int)).bind fun y128 => ((text_Valid.f t124).bind fun t131 => (if (t131 == x5_2) = true then (if x5_2 = true then ((text_Count.f t124).bind fun t132 => (if t132 = 1 then ((text_Valid.f ((⟨#[224]⟩ : ByteArray) ++ (strOfNums y125))).bind fun t133 => (if t133 = true then (some false) else ((text_Valid.f (strOfNums y128)).bind fun t134 => (if t134 = true then (some false) else ((gripsacklaw5_awake.f).bind fun t135 => (some t135)))))) else (some false))) else ((text_Valid.f ((⟨#[224]⟩ : ByteArray) ++ (strOfNums y125))).bind fun t136 => (if t136 = true then (some false) else ((text_Valid.f (strOfNums y128)).bind fun t137 => (if t137 = true then (some false) else ((gripsacklaw5_awake.f).bind fun t138 => (some t138))))))) else (some false)))) else (none)) = some r := by first | (rw [hy125]; with_reducible exact H) | (have H2_ := (Option.bind_some _ _).symm.trans H; rw [hy125]; with_reducible exact H2_) | (have H2_ := (Option.bind_some _ _).symm.trans H; with_reducible exact H2_) | with_reducible exact H | (rw [hy125]; exact H) | exact H
      have Ny125 := Aside0.mk hy125
      clear hy125
      by_cases c7 : 1 + (strOfNums y125).size ≤ 9223372036854775807
      · rw [if_pos c7] at H
        have c7b0 := eq_true c7
        have c7b1 : decide (1 + (strOfNums y125).size ≤ 9223372036854775807) = true := decide_eq_true c7
        try have c7b2 : (9223372036854775807 < 1 + (strOfNums y125).size) = False := eq_false (Nat.not_lt.2 c7)
        obtain ⟨y128, hy128⟩ : ∃ y_ : List Int, y_ = (([(wrap64 (192 + (Go.bits .and .i64 ((Int.tmod (wrap64 (a0)) 2097152) / 64) 1))) % 256, (wrap64 (128 + (Go.bits .and .i64 (Int.tmod (wrap64 (a0)) 2097152) 63))) % 256] : List Int)) := ⟨_, rfl⟩
        replace H : ((text_Valid.f t124).bind fun t131 => (if (t131 == x5_2) = true then (if x5_2 = true then ((text_Count.f t124).bind fun t132 => (if t132 = 1 then ((text_Valid.f ((⟨#[224]⟩ : ByteArray) ++ (strOfNums y125))).bind fun t133 => (if t133 = true then (some false) else ((text_Valid.f (strOfNums y128)).bind fun t134 => (if t134 = true then (some false) else ((gripsacklaw5_awake.f).bind fun t135 => (some t135)))))) else (some false))) else ((text_Valid.f ((⟨#[224]⟩ : ByteArray) ++ (strOfNums y125))).bind fun t136 => (if t136 = true then (some false) else ((text_Valid.f (strOfNums y128)).bind fun t137 => (if t137 = true then (some false) else ((gripsacklaw5_awake.f).bind fun t138 => (some t138))))))) else (some false))) = some r := by first | (rw [hy128]; with_reducible exact H) | (have H2_ := (Option.bind_some _ _).symm.trans H; rw [hy128]; with_reducible exact H2_) | (have H2_ := (Option.bind_some _ _).symm.trans H; with_reducible exact H2_) | with_reducible exact H | (rw [hy128]; exact H) | exact H
        have Ny128 := Aside0.mk hy128
        clear hy128
        replace H := Option.bind_eq_some_iff.mp H
        obtain ⟨t131, A80, H⟩ := H
        replace H : (if (t131 == x5_2) = true then (if x5_2 = true then ((text_Count.f t124).bind fun t132 => (if t132 = 1 then ((text_Valid.f ((⟨#[224]⟩ : ByteArray) ++ (strOfNums y125))).bind fun t133 => (if t133 = true then (some false) else ((text_Valid.f (strOfNums y128)).bind fun t134 => (if t134 = true then (some false) else ((gripsacklaw5_awake.f).bind fun t135 => (some t135)))))) else (some false))) else ((text_Valid.f ((⟨#[224]⟩ : ByteArray) ++ (strOfNums y125))).bind fun t136 => (if t136 = true then (some false) else ((text_Valid.f (strOfNums y128)).bind fun t137 => (if t137 = true then (some false) else ((gripsacklaw5_awake.f).bind fun t138 => (some t138))))))) else (some false)) = some r := H
        have A8 := Aside0.mk A80
        clear A80
        by_cases c9 : (t131 == x5_2) = true
        · rw [if_pos c9] at H
          have c9b0 : (t131 == x5_2) = true := c9
          (try (have c9b1 : decide (t131 = x5_2) = true := by simpa using c9))
          (try (have c9b2 : (t131 == x5_2) = true := by simpa using c9))
          clear c9
          by_cases c10 : x5_2 = true
          · subst c10
            have H1 : ((text_Count.f t124).bind fun t132 => (if t132 = 1 then ((text_Valid.f ((⟨#[224]⟩ : ByteArray) ++ (strOfNums y125))).bind fun t133 => (if t133 = true then (some false) else ((text_Valid.f (strOfNums y128)).bind fun t134 => (if t134 = true then (some false) else ((gripsacklaw5_awake.f).bind fun t135 => (some t135)))))) else (some false))) = some r := by rw [if_pos rfl] at H; exact H
            clear H
            have H := H1
            clear H1
            replace H := Option.bind_eq_some_iff.mp H
            obtain ⟨t132, A110, H⟩ := H
            replace H : (if t132 = 1 then ((text_Valid.f ((⟨#[224]⟩ : ByteArray) ++ (strOfNums y125))).bind fun t133 => (if t133 = true then (some false) else ((text_Valid.f (strOfNums y128)).bind fun t134 => (if t134 = true then (some false) else ((gripsacklaw5_awake.f).bind fun t135 => (some t135)))))) else (some false)) = some r := H
            have A11 := Aside0.mk A110
            clear A110
            by_cases c12 : t132 = 1
            · rw [if_pos c12] at H
              have c12b0 : (t132 == 1) = true := beq_iff_eq.mpr c12
              have c12b1 : (t132 != 1) = false := bne_eq_false_iff_eq.mpr c12
              clear c12
              replace H := Option.bind_eq_some_iff.mp H
              obtain ⟨t133, A130, H⟩ := H
              replace H : (if t133 = true then (some false) else ((text_Valid.f (strOfNums y128)).bind fun t134 => (if t134 = true then (some false) else ((gripsacklaw5_awake.f).bind fun t135 => (some t135))))) = some r := H
              have A13 := Aside0.mk A130
              clear A130
              by_cases c14 : t133 = true
              · subst c14
                have H1 : (some false) = some r := by rw [if_pos rfl] at H; exact H
                clear H
                have H := H1
                clear H1
                obtain rfl := Option.some.inj H
                go_wp2_with (first | ((with_reducible refine gate_dst (N := 32) rfl ?_); refine Kd.R_lit (Kd.int .u8) _ 5 ?hg (N := 32) ?hd (xs := ([(wrap64 (128 + (Go.bits .and .i64 ((Int.tmod (wrap64 (a0)) 2097152) / 64) 31))) % 256, (wrap64 (128 + (Go.bits .and .i64 (Int.tmod (wrap64 (a0)) 2097152) 63))) % 256] : List Int)) (inner := [.int .u8 ((wrap64 (128 + (Go.bits .and .i64 ((Int.tmod (wrap64 (a0)) 2097152) / 64) 31))) % 256), .int .u8 ((wrap64 (128 + (Go.bits .and .i64 (Int.tmod (wrap64 (a0)) 2097152) 63))) % 256)]) (ok := fun _ => True) (okp := fun _ => True) ?hr ?hp (fun _ hk => hk) trivial (Below.refl _ _) (Nat.le_refl _) (by simp) ?_; (case hd => rfl); (case hg => rfl); (case hr => first | (go_simp; done) | (go_simp; rfl)); (case hp => exact (Reps.one (show Kd.M (Kd.int .u8) _ _ _ ((wrap64 (128 + (Go.bits .and .i64 ((Int.tmod (wrap64 (a0)) 2097152) / 64) 31))) % 256) [.int .u8 ((wrap64 (128 + (Go.bits .and .i64 ((Int.tmod (wrap64 (a0)) 2097152) / 64) 31))) % 256)] from rfl) (Reps.one (show Kd.M (Kd.int .u8) _ _ _ ((wrap64 (128 + (Go.bits .and .i64 (Int.tmod (wrap64 (a0)) 2097152) 63))) % 256) [.int .u8 ((wrap64 (128 + (Go.bits .and .i64 (Int.tmod (wrap64 (a0)) 2097152) 63))) % 256)] from rfl) (Reps.none _ _)))); intro v126 w15 ho16 hb hg_ hnew_; clear hg_ hnew_; (first | rw [← Ny125.out] at ho16 | (simp only [Int.reduceToNat] at ho16; rw [← Ny125.out] at ho16)); have n0_ := Aside0.mk (Kd.R_lower ho16 (below_size (by repeat (first | (with_reducible first | exact HB.out | apply below_alloc | apply pw_below_drewN | apply below_drew1) | exact HB.out)))); have n1_ := Aside0.mk (below_step (by repeat (first | (with_reducible first | exact HB.out | apply below_alloc | apply pw_below_drewN | apply below_drew1) | exact HB.out)) hb); clear HB; have HO127 := n0_; have HB := n1_; clear n0_ n1_; clear hb ho16; have hcv17 := own_string (P := Try.prog) Try.underlying28 Try.underlying5 Try.underlying9 (Kd.own_of_R HO127.out)) | ((with_reducible refine gate_dst (N := 44) rfl ?_); refine Kd.R_lit (Kd.int .u8) _ 5 ?hg (N := 44) ?hd (xs := ([(wrap64 (192 + (Go.bits .and .i64 ((Int.tmod (wrap64 (a0)) 2097152) / 64) 1))) % 256, (wrap64 (128 + (Go.bits .and .i64 (Int.tmod (wrap64 (a0)) 2097152) 63))) % 256] : List Int)) (inner := [.int .u8 ((wrap64 (192 + (Go.bits .and .i64 ((Int.tmod (wrap64 (a0)) 2097152) / 64) 1))) % 256), .int .u8 ((wrap64 (128 + (Go.bits .and .i64 (Int.tmod (wrap64 (a0)) 2097152) 63))) % 256)]) (ok := fun _ => True) (okp := fun _ => True) ?hr ?hp (fun _ hk => hk) trivial (Below.refl _ _) (Nat.le_refl _) (by simp) ?_; (case hd => rfl); (case hg => rfl); (case hr => first | (go_simp; done) | (go_simp; rfl)); (case hp => exact (Reps.one (show Kd.M (Kd.int .u8) _ _ _ ((wrap64 (192 + (Go.bits .and .i64 ((Int.tmod (wrap64 (a0)) 2097152) / 64) 1))) % 256) [.int .u8 ((wrap64 (192 + (Go.bits .and .i64 ((Int.tmod (wrap64 (a0)) 2097152) / 64) 1))) % 256)] from rfl) (Reps.one (show Kd.M (Kd.int .u8) _ _ _ ((wrap64 (128 + (Go.bits .and .i64 (Int.tmod (wrap64 (a0)) 2097152) 63))) % 256) [.int .u8 ((wrap64 (128 + (Go.bits .and .i64 (Int.tmod (wrap64 (a0)) 2097152) 63))) % 256)] from rfl) (Reps.none _ _)))); intro v129 w18 ho19 hb hg_ hnew_; clear hg_ hnew_; (first | rw [← Ny128.out] at ho19 | (simp only [Int.reduceToNat] at ho19; rw [← Ny128.out] at ho19)); have n0_ := Aside0.mk (Kd.R_elder' (by (with_reducible repeat (first | apply Kd.R_alloc | apply Kd.R_drewN | apply Kd.R_drew)); exact HO127.out) (Kd.R_base ho19) hb); have n1_ := Aside0.mk (Kd.R_lower (Kd.R_new' ho19 (Kd.R_lt (by (with_reducible repeat (first | apply Kd.R_alloc | apply Kd.R_drewN | apply Kd.R_drew)); exact HO127.out))) (below_size (by repeat (first | (with_reducible first | exact HB.out | apply below_alloc | apply pw_below_drewN | apply below_drew1) | exact HB.out)))); have n2_ := Aside0.mk (below_step (by repeat (first | (with_reducible first | exact HB.out | apply below_alloc | apply pw_below_drewN | apply below_drew1) | exact HB.out)) hb); clear HO127; clear HB; have HO127 := n0_; have HO130 := n1_; have HB := n2_; clear n0_ n1_ n2_; clear hb ho19; have hcv20 := own_string (P := Try.prog) Try.underlying28 Try.underlying5 Try.underlying9 (Kd.own_of_R HO130.out)) | ((with_reducible refine gate_callee (f := 8) rfl ?_); refine goesL_ (some 47) rfl rfl Try.func8 (by kernel_rfl) rfl #[.string t124] rfl (by (try simp only [List.map_toArray, List.map_cons, List.map_nil]); first | done | rfl | (simp only [List.length_drop, List.length_take]; rfl)) ?_; (with_reducible refine (text_Valid.calls t124 t131 _ A8.out).mono ?_); rintro e w21 ⟨rfl, hb⟩; refine ⟨_, rfl, ?_⟩; have n0_ := Aside0.mk (Kd.R_below (by (with_reducible repeat (first | apply Kd.R_alloc | apply Kd.R_drewN | apply Kd.R_drew)); exact HO127.out) hb); have n1_ := Aside0.mk (Kd.R_below (by (with_reducible repeat (first | apply Kd.R_alloc | apply Kd.R_drewN | apply Kd.R_drew)); exact HO130.out) hb); have n2_ := Aside0.mk (below_step (by repeat (first | (with_reducible first | exact HB.out | apply below_alloc | apply pw_below_drewN | apply below_drew1) | exact HB.out)) hb); clear HO127; clear HO130; clear HB; have HO127 := n0_; have HO130 := n1_; have HB := n2_; clear n0_ n1_ n2_; (try clear hb); (try clear hb2); (try clear hk); (try clear hi)) | (go_at_call 12; (with_reducible refine (text_Count.calls t124 t132 _ A11.out).mono ?_); rintro e w22 ⟨rfl, hb⟩; have n0_ := Aside0.mk (Kd.R_below (by (with_reducible repeat (first | apply Kd.R_alloc | apply Kd.R_drewN | apply Kd.R_drew)); exact HO127.out) hb); have n1_ := Aside0.mk (Kd.R_below (by (with_reducible repeat (first | apply Kd.R_alloc | apply Kd.R_drewN | apply Kd.R_drew)); exact HO130.out) hb); have n2_ := Aside0.mk (below_step (by repeat (first | (with_reducible first | exact HB.out | apply below_alloc | apply pw_below_drewN | apply below_drew1) | exact HB.out)) hb); clear HO127; clear HO130; clear HB; have HO127 := n0_; have HO130 := n1_; have HB := n2_; clear n0_ n1_ n2_; (try clear hb); (try clear hb2); (try clear hk); (try clear hi)) | (go_at_call 8; (with_reducible refine (text_Valid.calls ((⟨#[224]⟩ : ByteArray) ++ (strOfNums y125)) true _ A13.out).mono ?_); rintro e w23 ⟨rfl, hb⟩; have n0_ := Aside0.mk (Kd.R_below (by (with_reducible repeat (first | apply Kd.R_alloc | apply Kd.R_drewN | apply Kd.R_drew)); exact HO127.out) hb); have n1_ := Aside0.mk (Kd.R_below (by (with_reducible repeat (first | apply Kd.R_alloc | apply Kd.R_drewN | apply Kd.R_drew)); exact HO130.out) hb); have n2_ := Aside0.mk (below_step (by repeat (first | (with_reducible first | exact HB.out | apply below_alloc | apply pw_below_drewN | apply below_drew1) | exact HB.out)) hb); clear HO127; clear HO130; clear HB; have HO127 := n0_; have HO130 := n1_; have HB := n2_; clear n0_ n1_ n2_; (try clear hb); (try clear hb2); (try clear hk); (try clear hi)))
                go_ret
                exact ⟨by first | rfl | (simp [errW_none, errW_some] <;> rfl) | (simp [*, errW_none, errW_some] <;> rfl), by repeat (first | (with_reducible first | exact HB.out | apply below_alloc | apply pw_below_drewN | apply below_drew1) | exact HB.out)⟩
              · replace c14 := Bool.eq_false_iff.mpr c14
                subst c14
                have H1 : ((text_Valid.f (strOfNums y128)).bind fun t134 => (if t134 = true then (some false) else ((gripsacklaw5_awake.f).bind fun t135 => (some t135)))) = some r := by rw [if_neg (show ¬ (false = true) by decide)] at H; exact H
                clear H
                have H := H1
                clear H1
                replace H := Option.bind_eq_some_iff.mp H
                obtain ⟨t134, A240, H⟩ := H
                replace H : (if t134 = true then (some false) else ((gripsacklaw5_awake.f).bind fun t135 => (some t135))) = some r := H
                have A24 := Aside0.mk A240
                clear A240
                by_cases c25 : t134 = true
                · subst c25
                  have H1 : (some false) = some r := by rw [if_pos rfl] at H; exact H
                  clear H
                  have H := H1
                  clear H1
                  obtain rfl := Option.some.inj H
                  go_wp2_with (first | ((with_reducible refine gate_dst (N := 32) rfl ?_); refine Kd.R_lit (Kd.int .u8) _ 5 ?hg (N := 32) ?hd (xs := ([(wrap64 (128 + (Go.bits .and .i64 ((Int.tmod (wrap64 (a0)) 2097152) / 64) 31))) % 256, (wrap64 (128 + (Go.bits .and .i64 (Int.tmod (wrap64 (a0)) 2097152) 63))) % 256] : List Int)) (inner := [.int .u8 ((wrap64 (128 + (Go.bits .and .i64 ((Int.tmod (wrap64 (a0)) 2097152) / 64) 31))) % 256), .int .u8 ((wrap64 (128 + (Go.bits .and .i64 (Int.tmod (wrap64 (a0)) 2097152) 63))) % 256)]) (ok := fun _ => True) (okp := fun _ => True) ?hr ?hp (fun _ hk => hk) trivial (Below.refl _ _) (Nat.le_refl _) (by simp) ?_; (case hd => rfl); (case hg => rfl); (case hr => first | (go_simp; done) | (go_simp; rfl)); (case hp => exact (Reps.one (show Kd.M (Kd.int .u8) _ _ _ ((wrap64 (128 + (Go.bits .and .i64 ((Int.tmod (wrap64 (a0)) 2097152) / 64) 31))) % 256) [.int .u8 ((wrap64 (128 + (Go.bits .and .i64 ((Int.tmod (wrap64 (a0)) 2097152) / 64) 31))) % 256)] from rfl) (Reps.one (show Kd.M (Kd.int .u8) _ _ _ ((wrap64 (128 + (Go.bits .and .i64 (Int.tmod (wrap64 (a0)) 2097152) 63))) % 256) [.int .u8 ((wrap64 (128 + (Go.bits .and .i64 (Int.tmod (wrap64 (a0)) 2097152) 63))) % 256)] from rfl) (Reps.none _ _)))); intro v126 w26 ho27 hb hg_ hnew_; clear hg_ hnew_; (first | rw [← Ny125.out] at ho27 | (simp only [Int.reduceToNat] at ho27; rw [← Ny125.out] at ho27)); have n0_ := Aside0.mk (Kd.R_lower ho27 (below_size (by repeat (first | (with_reducible first | exact HB.out | apply below_alloc | apply pw_below_drewN | apply below_drew1) | exact HB.out)))); have n1_ := Aside0.mk (below_step (by repeat (first | (with_reducible first | exact HB.out | apply below_alloc | apply pw_below_drewN | apply below_drew1) | exact HB.out)) hb); clear HB; have HO127 := n0_; have HB := n1_; clear n0_ n1_; clear hb ho27; have hcv28 := own_string (P := Try.prog) Try.underlying28 Try.underlying5 Try.underlying9 (Kd.own_of_R HO127.out)) | ((with_reducible refine gate_dst (N := 44) rfl ?_); refine Kd.R_lit (Kd.int .u8) _ 5 ?hg (N := 44) ?hd (xs := ([(wrap64 (192 + (Go.bits .and .i64 ((Int.tmod (wrap64 (a0)) 2097152) / 64) 1))) % 256, (wrap64 (128 + (Go.bits .and .i64 (Int.tmod (wrap64 (a0)) 2097152) 63))) % 256] : List Int)) (inner := [.int .u8 ((wrap64 (192 + (Go.bits .and .i64 ((Int.tmod (wrap64 (a0)) 2097152) / 64) 1))) % 256), .int .u8 ((wrap64 (128 + (Go.bits .and .i64 (Int.tmod (wrap64 (a0)) 2097152) 63))) % 256)]) (ok := fun _ => True) (okp := fun _ => True) ?hr ?hp (fun _ hk => hk) trivial (Below.refl _ _) (Nat.le_refl _) (by simp) ?_; (case hd => rfl); (case hg => rfl); (case hr => first | (go_simp; done) | (go_simp; rfl)); (case hp => exact (Reps.one (show Kd.M (Kd.int .u8) _ _ _ ((wrap64 (192 + (Go.bits .and .i64 ((Int.tmod (wrap64 (a0)) 2097152) / 64) 1))) % 256) [.int .u8 ((wrap64 (192 + (Go.bits .and .i64 ((Int.tmod (wrap64 (a0)) 2097152) / 64) 1))) % 256)] from rfl) (Reps.one (show Kd.M (Kd.int .u8) _ _ _ ((wrap64 (128 + (Go.bits .and .i64 (Int.tmod (wrap64 (a0)) 2097152) 63))) % 256) [.int .u8 ((wrap64 (128 + (Go.bits .and .i64 (Int.tmod (wrap64 (a0)) 2097152) 63))) % 256)] from rfl) (Reps.none _ _)))); intro v129 w29 ho30 hb hg_ hnew_; clear hg_ hnew_; (first | rw [← Ny128.out] at ho30 | (simp only [Int.reduceToNat] at ho30; rw [← Ny128.out] at ho30)); have n0_ := Aside0.mk (Kd.R_elder' (by (with_reducible repeat (first | apply Kd.R_alloc | apply Kd.R_drewN | apply Kd.R_drew)); exact HO127.out) (Kd.R_base ho30) hb); have n1_ := Aside0.mk (Kd.R_lower (Kd.R_new' ho30 (Kd.R_lt (by (with_reducible repeat (first | apply Kd.R_alloc | apply Kd.R_drewN | apply Kd.R_drew)); exact HO127.out))) (below_size (by repeat (first | (with_reducible first | exact HB.out | apply below_alloc | apply pw_below_drewN | apply below_drew1) | exact HB.out)))); have n2_ := Aside0.mk (below_step (by repeat (first | (with_reducible first | exact HB.out | apply below_alloc | apply pw_below_drewN | apply below_drew1) | exact HB.out)) hb); clear HO127; clear HB; have HO127 := n0_; have HO130 := n1_; have HB := n2_; clear n0_ n1_ n2_; clear hb ho30; have hcv31 := own_string (P := Try.prog) Try.underlying28 Try.underlying5 Try.underlying9 (Kd.own_of_R HO130.out)) | ((with_reducible refine gate_callee (f := 8) rfl ?_); refine goesL_ (some 47) rfl rfl Try.func8 (by kernel_rfl) rfl #[.string t124] rfl (by (try simp only [List.map_toArray, List.map_cons, List.map_nil]); first | done | rfl | (simp only [List.length_drop, List.length_take]; rfl)) ?_; (with_reducible refine (text_Valid.calls t124 t131 _ A8.out).mono ?_); rintro e w32 ⟨rfl, hb⟩; refine ⟨_, rfl, ?_⟩; have n0_ := Aside0.mk (Kd.R_below (by (with_reducible repeat (first | apply Kd.R_alloc | apply Kd.R_drewN | apply Kd.R_drew)); exact HO127.out) hb); have n1_ := Aside0.mk (Kd.R_below (by (with_reducible repeat (first | apply Kd.R_alloc | apply Kd.R_drewN | apply Kd.R_drew)); exact HO130.out) hb); have n2_ := Aside0.mk (below_step (by repeat (first | (with_reducible first | exact HB.out | apply below_alloc | apply pw_below_drewN | apply below_drew1) | exact HB.out)) hb); clear HO127; clear HO130; clear HB; have HO127 := n0_; have HO130 := n1_; have HB := n2_; clear n0_ n1_ n2_; (try clear hb); (try clear hb2); (try clear hk); (try clear hi)) | (go_at_call 12; (with_reducible refine (text_Count.calls t124 t132 _ A11.out).mono ?_); rintro e w33 ⟨rfl, hb⟩; have n0_ := Aside0.mk (Kd.R_below (by (with_reducible repeat (first | apply Kd.R_alloc | apply Kd.R_drewN | apply Kd.R_drew)); exact HO127.out) hb); have n1_ := Aside0.mk (Kd.R_below (by (with_reducible repeat (first | apply Kd.R_alloc | apply Kd.R_drewN | apply Kd.R_drew)); exact HO130.out) hb); have n2_ := Aside0.mk (below_step (by repeat (first | (with_reducible first | exact HB.out | apply below_alloc | apply pw_below_drewN | apply below_drew1) | exact HB.out)) hb); clear HO127; clear HO130; clear HB; have HO127 := n0_; have HO130 := n1_; have HB := n2_; clear n0_ n1_ n2_; (try clear hb); (try clear hb2); (try clear hk); (try clear hi)) | (go_at_call 8; (with_reducible refine (text_Valid.calls ((⟨#[224]⟩ : ByteArray) ++ (strOfNums y125)) false _ A13.out).mono ?_); rintro e w34 ⟨rfl, hb⟩; have n0_ := Aside0.mk (Kd.R_below (by (with_reducible repeat (first | apply Kd.R_alloc | apply Kd.R_drewN | apply Kd.R_drew)); exact HO127.out) hb); have n1_ := Aside0.mk (Kd.R_below (by (with_reducible repeat (first | apply Kd.R_alloc | apply Kd.R_drewN | apply Kd.R_drew)); exact HO130.out) hb); have n2_ := Aside0.mk (below_step (by repeat (first | (with_reducible first | exact HB.out | apply below_alloc | apply pw_below_drewN | apply below_drew1) | exact HB.out)) hb); clear HO127; clear HO130; clear HB; have HO127 := n0_; have HO130 := n1_; have HB := n2_; clear n0_ n1_ n2_; (try clear hb); (try clear hb2); (try clear hk); (try clear hi)) | (go_at_call 8; (with_reducible refine (text_Valid.calls (strOfNums y128) true _ A24.out).mono ?_); rintro e w35 ⟨rfl, hb⟩; have n0_ := Aside0.mk (Kd.R_below (by (with_reducible repeat (first | apply Kd.R_alloc | apply Kd.R_drewN | apply Kd.R_drew)); exact HO127.out) hb); have n1_ := Aside0.mk (Kd.R_below (by (with_reducible repeat (first | apply Kd.R_alloc | apply Kd.R_drewN | apply Kd.R_drew)); exact HO130.out) hb); have n2_ := Aside0.mk (below_step (by repeat (first | (with_reducible first | exact HB.out | apply below_alloc | apply pw_below_drewN | apply below_drew1) | exact HB.out)) hb); clear HO127; clear HO130; clear HB; have HO127 := n0_; have HO130 := n1_; have HB := n2_; clear n0_ n1_ n2_; (try clear hb); (try clear hb2); (try clear hk); (try clear hi)))
                  go_ret
                  exact ⟨by first | rfl | (simp [errW_none, errW_some] <;> rfl) | (simp [*, errW_none, errW_some] <;> rfl), by repeat (first | (with_reducible first | exact HB.out | apply below_alloc | apply pw_below_drewN | apply below_drew1) | exact HB.out)⟩
                · replace c25 := Bool.eq_false_iff.mpr c25
                  subst c25
                  have H1 : ((gripsacklaw5_awake.f).bind fun t135 => (some t135)) = some r := by rw [if_neg (show ¬ (false = true) by decide)] at H; exact H
                  clear H
                  have H := H1
                  clear H1
                  replace H := Option.bind_eq_some_iff.mp H
                  obtain ⟨t135, A360, H⟩ := H
                  replace H : (some t135) = some r := H
                  have A36 := Aside0.mk A360
                  clear A360
                  obtain rfl := Option.some.inj H
                  go_wp2_with (first | ((with_reducible refine gate_dst (N := 32) rfl ?_); refine Kd.R_lit (Kd.int .u8) _ 5 ?hg (N := 32) ?hd (xs := ([(wrap64 (128 + (Go.bits .and .i64 ((Int.tmod (wrap64 (a0)) 2097152) / 64) 31))) % 256, (wrap64 (128 + (Go.bits .and .i64 (Int.tmod (wrap64 (a0)) 2097152) 63))) % 256] : List Int)) (inner := [.int .u8 ((wrap64 (128 + (Go.bits .and .i64 ((Int.tmod (wrap64 (a0)) 2097152) / 64) 31))) % 256), .int .u8 ((wrap64 (128 + (Go.bits .and .i64 (Int.tmod (wrap64 (a0)) 2097152) 63))) % 256)]) (ok := fun _ => True) (okp := fun _ => True) ?hr ?hp (fun _ hk => hk) trivial (Below.refl _ _) (Nat.le_refl _) (by simp) ?_; (case hd => rfl); (case hg => rfl); (case hr => first | (go_simp; done) | (go_simp; rfl)); (case hp => exact (Reps.one (show Kd.M (Kd.int .u8) _ _ _ ((wrap64 (128 + (Go.bits .and .i64 ((Int.tmod (wrap64 (a0)) 2097152) / 64) 31))) % 256) [.int .u8 ((wrap64 (128 + (Go.bits .and .i64 ((Int.tmod (wrap64 (a0)) 2097152) / 64) 31))) % 256)] from rfl) (Reps.one (show Kd.M (Kd.int .u8) _ _ _ ((wrap64 (128 + (Go.bits .and .i64 (Int.tmod (wrap64 (a0)) 2097152) 63))) % 256) [.int .u8 ((wrap64 (128 + (Go.bits .and .i64 (Int.tmod (wrap64 (a0)) 2097152) 63))) % 256)] from rfl) (Reps.none _ _)))); intro v126 w37 ho38 hb hg_ hnew_; clear hg_ hnew_; (first | rw [← Ny125.out] at ho38 | (simp only [Int.reduceToNat] at ho38; rw [← Ny125.out] at ho38)); have n0_ := Aside0.mk (Kd.R_lower ho38 (below_size (by repeat (first | (with_reducible first | exact HB.out | apply below_alloc | apply pw_below_drewN | apply below_drew1) | exact HB.out)))); have n1_ := Aside0.mk (below_step (by repeat (first | (with_reducible first | exact HB.out | apply below_alloc | apply pw_below_drewN | apply below_drew1) | exact HB.out)) hb); clear HB; have HO127 := n0_; have HB := n1_; clear n0_ n1_; clear hb ho38; have hcv39 := own_string (P := Try.prog) Try.underlying28 Try.underlying5 Try.underlying9 (Kd.own_of_R HO127.out)) | ((with_reducible refine gate_dst (N := 44) rfl ?_); refine Kd.R_lit (Kd.int .u8) _ 5 ?hg (N := 44) ?hd (xs := ([(wrap64 (192 + (Go.bits .and .i64 ((Int.tmod (wrap64 (a0)) 2097152) / 64) 1))) % 256, (wrap64 (128 + (Go.bits .and .i64 (Int.tmod (wrap64 (a0)) 2097152) 63))) % 256] : List Int)) (inner := [.int .u8 ((wrap64 (192 + (Go.bits .and .i64 ((Int.tmod (wrap64 (a0)) 2097152) / 64) 1))) % 256), .int .u8 ((wrap64 (128 + (Go.bits .and .i64 (Int.tmod (wrap64 (a0)) 2097152) 63))) % 256)]) (ok := fun _ => True) (okp := fun _ => True) ?hr ?hp (fun _ hk => hk) trivial (Below.refl _ _) (Nat.le_refl _) (by simp) ?_; (case hd => rfl); (case hg => rfl); (case hr => first | (go_simp; done) | (go_simp; rfl)); (case hp => exact (Reps.one (show Kd.M (Kd.int .u8) _ _ _ ((wrap64 (192 + (Go.bits .and .i64 ((Int.tmod (wrap64 (a0)) 2097152) / 64) 1))) % 256) [.int .u8 ((wrap64 (192 + (Go.bits .and .i64 ((Int.tmod (wrap64 (a0)) 2097152) / 64) 1))) % 256)] from rfl) (Reps.one (show Kd.M (Kd.int .u8) _ _ _ ((wrap64 (128 + (Go.bits .and .i64 (Int.tmod (wrap64 (a0)) 2097152) 63))) % 256) [.int .u8 ((wrap64 (128 + (Go.bits .and .i64 (Int.tmod (wrap64 (a0)) 2097152) 63))) % 256)] from rfl) (Reps.none _ _)))); intro v129 w40 ho41 hb hg_ hnew_; clear hg_ hnew_; (first | rw [← Ny128.out] at ho41 | (simp only [Int.reduceToNat] at ho41; rw [← Ny128.out] at ho41)); have n0_ := Aside0.mk (Kd.R_elder' (by (with_reducible repeat (first | apply Kd.R_alloc | apply Kd.R_drewN | apply Kd.R_drew)); exact HO127.out) (Kd.R_base ho41) hb); have n1_ := Aside0.mk (Kd.R_lower (Kd.R_new' ho41 (Kd.R_lt (by (with_reducible repeat (first | apply Kd.R_alloc | apply Kd.R_drewN | apply Kd.R_drew)); exact HO127.out))) (below_size (by repeat (first | (with_reducible first | exact HB.out | apply below_alloc | apply pw_below_drewN | apply below_drew1) | exact HB.out)))); have n2_ := Aside0.mk (below_step (by repeat (first | (with_reducible first | exact HB.out | apply below_alloc | apply pw_below_drewN | apply below_drew1) | exact HB.out)) hb); clear HO127; clear HB; have HO127 := n0_; have HO130 := n1_; have HB := n2_; clear n0_ n1_ n2_; clear hb ho41; have hcv42 := own_string (P := Try.prog) Try.underlying28 Try.underlying5 Try.underlying9 (Kd.own_of_R HO130.out)) | ((with_reducible refine gate_callee (f := 8) rfl ?_); refine goesL_ (some 47) rfl rfl Try.func8 (by kernel_rfl) rfl #[.string t124] rfl (by (try simp only [List.map_toArray, List.map_cons, List.map_nil]); first | done | rfl | (simp only [List.length_drop, List.length_take]; rfl)) ?_; (with_reducible refine (text_Valid.calls t124 t131 _ A8.out).mono ?_); rintro e w43 ⟨rfl, hb⟩; refine ⟨_, rfl, ?_⟩; have n0_ := Aside0.mk (Kd.R_below (by (with_reducible repeat (first | apply Kd.R_alloc | apply Kd.R_drewN | apply Kd.R_drew)); exact HO127.out) hb); have n1_ := Aside0.mk (Kd.R_below (by (with_reducible repeat (first | apply Kd.R_alloc | apply Kd.R_drewN | apply Kd.R_drew)); exact HO130.out) hb); have n2_ := Aside0.mk (below_step (by repeat (first | (with_reducible first | exact HB.out | apply below_alloc | apply pw_below_drewN | apply below_drew1) | exact HB.out)) hb); clear HO127; clear HO130; clear HB; have HO127 := n0_; have HO130 := n1_; have HB := n2_; clear n0_ n1_ n2_; (try clear hb); (try clear hb2); (try clear hk); (try clear hi)) | (go_at_call 12; (with_reducible refine (text_Count.calls t124 t132 _ A11.out).mono ?_); rintro e w44 ⟨rfl, hb⟩; have n0_ := Aside0.mk (Kd.R_below (by (with_reducible repeat (first | apply Kd.R_alloc | apply Kd.R_drewN | apply Kd.R_drew)); exact HO127.out) hb); have n1_ := Aside0.mk (Kd.R_below (by (with_reducible repeat (first | apply Kd.R_alloc | apply Kd.R_drewN | apply Kd.R_drew)); exact HO130.out) hb); have n2_ := Aside0.mk (below_step (by repeat (first | (with_reducible first | exact HB.out | apply below_alloc | apply pw_below_drewN | apply below_drew1) | exact HB.out)) hb); clear HO127; clear HO130; clear HB; have HO127 := n0_; have HO130 := n1_; have HB := n2_; clear n0_ n1_ n2_; (try clear hb); (try clear hb2); (try clear hk); (try clear hi)) | (go_at_call 8; (with_reducible refine (text_Valid.calls ((⟨#[224]⟩ : ByteArray) ++ (strOfNums y125)) false _ A13.out).mono ?_); rintro e w45 ⟨rfl, hb⟩; have n0_ := Aside0.mk (Kd.R_below (by (with_reducible repeat (first | apply Kd.R_alloc | apply Kd.R_drewN | apply Kd.R_drew)); exact HO127.out) hb); have n1_ := Aside0.mk (Kd.R_below (by (with_reducible repeat (first | apply Kd.R_alloc | apply Kd.R_drewN | apply Kd.R_drew)); exact HO130.out) hb); have n2_ := Aside0.mk (below_step (by repeat (first | (with_reducible first | exact HB.out | apply below_alloc | apply pw_below_drewN | apply below_drew1) | exact HB.out)) hb); clear HO127; clear HO130; clear HB; have HO127 := n0_; have HO130 := n1_; have HB := n2_; clear n0_ n1_ n2_; (try clear hb); (try clear hb2); (try clear hk); (try clear hi)) | (go_at_call 8; (with_reducible refine (text_Valid.calls (strOfNums y128) false _ A24.out).mono ?_); rintro e w46 ⟨rfl, hb⟩; have n0_ := Aside0.mk (Kd.R_below (by (with_reducible repeat (first | apply Kd.R_alloc | apply Kd.R_drewN | apply Kd.R_drew)); exact HO127.out) hb); have n1_ := Aside0.mk (Kd.R_below (by (with_reducible repeat (first | apply Kd.R_alloc | apply Kd.R_drewN | apply Kd.R_drew)); exact HO130.out) hb); have n2_ := Aside0.mk (below_step (by repeat (first | (with_reducible first | exact HB.out | apply below_alloc | apply pw_below_drewN | apply below_drew1) | exact HB.out)) hb); clear HO127; clear HO130; clear HB; have HO127 := n0_; have HO130 := n1_; have HB := n2_; clear n0_ n1_ n2_; (try clear hb); (try clear hb2); (try clear hk); (try clear hi)) | (go_at_call 7; (with_reducible refine (gripsacklaw5_awake.calls  t135 _ A36.out).mono ?_); rintro e w47 ⟨rfl, hb⟩; have n0_ := Aside0.mk (Kd.R_below (by (with_reducible repeat (first | apply Kd.R_alloc | apply Kd.R_drewN | apply Kd.R_drew)); exact HO127.out) hb); have n1_ := Aside0.mk (Kd.R_below (by (with_reducible repeat (first | apply Kd.R_alloc | apply Kd.R_drewN | apply Kd.R_drew)); exact HO130.out) hb); have n2_ := Aside0.mk (below_step (by repeat (first | (with_reducible first | exact HB.out | apply below_alloc | apply pw_below_drewN | apply below_drew1) | exact HB.out)) hb); clear HO127; clear HO130; clear HB; have HO127 := n0_; have HO130 := n1_; have HB := n2_; clear n0_ n1_ n2_; (try clear hb); (try clear hb2); (try clear hk); (try clear hi)))
                  go_ret
                  exact ⟨by first | rfl | (simp [errW_none, errW_some] <;> rfl) | (simp [*, errW_none, errW_some] <;> rfl), by repeat (first | (with_reducible first | exact HB.out | apply below_alloc | apply pw_below_drewN | apply below_drew1) | exact HB.out)⟩
            · rw [if_neg c12] at H
              have c12b0 : (t132 == 1) = false := beq_eq_false_iff_ne.mpr c12
              have c12b1 : (t132 != 1) = true := bne_iff_ne.mpr c12
              obtain rfl := Option.some.inj H
              go_wp2_with (first | ((with_reducible refine gate_dst (N := 32) rfl ?_); refine Kd.R_lit (Kd.int .u8) _ 5 ?hg (N := 32) ?hd (xs := ([(wrap64 (128 + (Go.bits .and .i64 ((Int.tmod (wrap64 (a0)) 2097152) / 64) 31))) % 256, (wrap64 (128 + (Go.bits .and .i64 (Int.tmod (wrap64 (a0)) 2097152) 63))) % 256] : List Int)) (inner := [.int .u8 ((wrap64 (128 + (Go.bits .and .i64 ((Int.tmod (wrap64 (a0)) 2097152) / 64) 31))) % 256), .int .u8 ((wrap64 (128 + (Go.bits .and .i64 (Int.tmod (wrap64 (a0)) 2097152) 63))) % 256)]) (ok := fun _ => True) (okp := fun _ => True) ?hr ?hp (fun _ hk => hk) trivial (Below.refl _ _) (Nat.le_refl _) (by simp) ?_; (case hd => rfl); (case hg => rfl); (case hr => first | (go_simp; done) | (go_simp; rfl)); (case hp => exact (Reps.one (show Kd.M (Kd.int .u8) _ _ _ ((wrap64 (128 + (Go.bits .and .i64 ((Int.tmod (wrap64 (a0)) 2097152) / 64) 31))) % 256) [.int .u8 ((wrap64 (128 + (Go.bits .and .i64 ((Int.tmod (wrap64 (a0)) 2097152) / 64) 31))) % 256)] from rfl) (Reps.one (show Kd.M (Kd.int .u8) _ _ _ ((wrap64 (128 + (Go.bits .and .i64 (Int.tmod (wrap64 (a0)) 2097152) 63))) % 256) [.int .u8 ((wrap64 (128 + (Go.bits .and .i64 (Int.tmod (wrap64 (a0)) 2097152) 63))) % 256)] from rfl) (Reps.none _ _)))); intro v126 w48 ho49 hb hg_ hnew_; clear hg_ hnew_; (first | rw [← Ny125.out] at ho49 | (simp only [Int.reduceToNat] at ho49; rw [← Ny125.out] at ho49)); have n0_ := Aside0.mk (Kd.R_lower ho49 (below_size (by repeat (first | (with_reducible first | exact HB.out | apply below_alloc | apply pw_below_drewN | apply below_drew1) | exact HB.out)))); have n1_ := Aside0.mk (below_step (by repeat (first | (with_reducible first | exact HB.out | apply below_alloc | apply pw_below_drewN | apply below_drew1) | exact HB.out)) hb); clear HB; have HO127 := n0_; have HB := n1_; clear n0_ n1_; clear hb ho49; have hcv50 := own_string (P := Try.prog) Try.underlying28 Try.underlying5 Try.underlying9 (Kd.own_of_R HO127.out)) | ((with_reducible refine gate_dst (N := 44) rfl ?_); refine Kd.R_lit (Kd.int .u8) _ 5 ?hg (N := 44) ?hd (xs := ([(wrap64 (192 + (Go.bits .and .i64 ((Int.tmod (wrap64 (a0)) 2097152) / 64) 1))) % 256, (wrap64 (128 + (Go.bits .and .i64 (Int.tmod (wrap64 (a0)) 2097152) 63))) % 256] : List Int)) (inner := [.int .u8 ((wrap64 (192 + (Go.bits .and .i64 ((Int.tmod (wrap64 (a0)) 2097152) / 64) 1))) % 256), .int .u8 ((wrap64 (128 + (Go.bits .and .i64 (Int.tmod (wrap64 (a0)) 2097152) 63))) % 256)]) (ok := fun _ => True) (okp := fun _ => True) ?hr ?hp (fun _ hk => hk) trivial (Below.refl _ _) (Nat.le_refl _) (by simp) ?_; (case hd => rfl); (case hg => rfl); (case hr => first | (go_simp; done) | (go_simp; rfl)); (case hp => exact (Reps.one (show Kd.M (Kd.int .u8) _ _ _ ((wrap64 (192 + (Go.bits .and .i64 ((Int.tmod (wrap64 (a0)) 2097152) / 64) 1))) % 256) [.int .u8 ((wrap64 (192 + (Go.bits .and .i64 ((Int.tmod (wrap64 (a0)) 2097152) / 64) 1))) % 256)] from rfl) (Reps.one (show Kd.M (Kd.int .u8) _ _ _ ((wrap64 (128 + (Go.bits .and .i64 (Int.tmod (wrap64 (a0)) 2097152) 63))) % 256) [.int .u8 ((wrap64 (128 + (Go.bits .and .i64 (Int.tmod (wrap64 (a0)) 2097152) 63))) % 256)] from rfl) (Reps.none _ _)))); intro v129 w51 ho52 hb hg_ hnew_; clear hg_ hnew_; (first | rw [← Ny128.out] at ho52 | (simp only [Int.reduceToNat] at ho52; rw [← Ny128.out] at ho52)); have n0_ := Aside0.mk (Kd.R_elder' (by (with_reducible repeat (first | apply Kd.R_alloc | apply Kd.R_drewN | apply Kd.R_drew)); exact HO127.out) (Kd.R_base ho52) hb); have n1_ := Aside0.mk (Kd.R_lower (Kd.R_new' ho52 (Kd.R_lt (by (with_reducible repeat (first | apply Kd.R_alloc | apply Kd.R_drewN | apply Kd.R_drew)); exact HO127.out))) (below_size (by repeat (first | (with_reducible first | exact HB.out | apply below_alloc | apply pw_below_drewN | apply below_drew1) | exact HB.out)))); have n2_ := Aside0.mk (below_step (by repeat (first | (with_reducible first | exact HB.out | apply below_alloc | apply pw_below_drewN | apply below_drew1) | exact HB.out)) hb); clear HO127; clear HB; have HO127 := n0_; have HO130 := n1_; have HB := n2_; clear n0_ n1_ n2_; clear hb ho52; have hcv53 := own_string (P := Try.prog) Try.underlying28 Try.underlying5 Try.underlying9 (Kd.own_of_R HO130.out)) | ((with_reducible refine gate_callee (f := 8) rfl ?_); refine goesL_ (some 47) rfl rfl Try.func8 (by kernel_rfl) rfl #[.string t124] rfl (by (try simp only [List.map_toArray, List.map_cons, List.map_nil]); first | done | rfl | (simp only [List.length_drop, List.length_take]; rfl)) ?_; (with_reducible refine (text_Valid.calls t124 t131 _ A8.out).mono ?_); rintro e w54 ⟨rfl, hb⟩; refine ⟨_, rfl, ?_⟩; have n0_ := Aside0.mk (Kd.R_below (by (with_reducible repeat (first | apply Kd.R_alloc | apply Kd.R_drewN | apply Kd.R_drew)); exact HO127.out) hb); have n1_ := Aside0.mk (Kd.R_below (by (with_reducible repeat (first | apply Kd.R_alloc | apply Kd.R_drewN | apply Kd.R_drew)); exact HO130.out) hb); have n2_ := Aside0.mk (below_step (by repeat (first | (with_reducible first | exact HB.out | apply below_alloc | apply pw_below_drewN | apply below_drew1) | exact HB.out)) hb); clear HO127; clear HO130; clear HB; have HO127 := n0_; have HO130 := n1_; have HB := n2_; clear n0_ n1_ n2_; (try clear hb); (try clear hb2); (try clear hk); (try clear hi)) | (go_at_call 12; (with_reducible refine (text_Count.calls t124 t132 _ A11.out).mono ?_); rintro e w55 ⟨rfl, hb⟩; have n0_ := Aside0.mk (Kd.R_below (by (with_reducible repeat (first | apply Kd.R_alloc | apply Kd.R_drewN | apply Kd.R_drew)); exact HO127.out) hb); have n1_ := Aside0.mk (Kd.R_below (by (with_reducible repeat (first | apply Kd.R_alloc | apply Kd.R_drewN | apply Kd.R_drew)); exact HO130.out) hb); have n2_ := Aside0.mk (below_step (by repeat (first | (with_reducible first | exact HB.out | apply below_alloc | apply pw_below_drewN | apply below_drew1) | exact HB.out)) hb); clear HO127; clear HO130; clear HB; have HO127 := n0_; have HO130 := n1_; have HB := n2_; clear n0_ n1_ n2_; (try clear hb); (try clear hb2); (try clear hk); (try clear hi)))
              go_ret
              exact ⟨by first | rfl | (simp [errW_none, errW_some] <;> rfl) | (simp [*, errW_none, errW_some] <;> rfl), by repeat (first | (with_reducible first | exact HB.out | apply below_alloc | apply pw_below_drewN | apply below_drew1) | exact HB.out)⟩
          · replace c10 := Bool.eq_false_iff.mpr c10
            subst c10
            have H1 : ((text_Valid.f ((⟨#[224]⟩ : ByteArray) ++ (strOfNums y125))).bind fun t136 => (if t136 = true then (some false) else ((text_Valid.f (strOfNums y128)).bind fun t137 => (if t137 = true then (some false) else ((gripsacklaw5_awake.f).bind fun t138 => (some t138)))))) = some r := by rw [if_neg (show ¬ (false = true) by decide)] at H; exact H
            clear H
            have H := H1
            clear H1
            replace H := Option.bind_eq_some_iff.mp H
            obtain ⟨t136, A560, H⟩ := H
            replace H : (if t136 = true then (some false) else ((text_Valid.f (strOfNums y128)).bind fun t137 => (if t137 = true then (some false) else ((gripsacklaw5_awake.f).bind fun t138 => (some t138))))) = some r := H
            have A56 := Aside0.mk A560
            clear A560
            by_cases c57 : t136 = true
            · subst c57
              have H1 : (some false) = some r := by rw [if_pos rfl] at H; exact H
              clear H
              have H := H1
              clear H1
              obtain rfl := Option.some.inj H
              go_wp2_with (first | ((with_reducible refine gate_dst (N := 32) rfl ?_); refine Kd.R_lit (Kd.int .u8) _ 5 ?hg (N := 32) ?hd (xs := ([(wrap64 (128 + (Go.bits .and .i64 ((Int.tmod (wrap64 (a0)) 2097152) / 64) 31))) % 256, (wrap64 (128 + (Go.bits .and .i64 (Int.tmod (wrap64 (a0)) 2097152) 63))) % 256] : List Int)) (inner := [.int .u8 ((wrap64 (128 + (Go.bits .and .i64 ((Int.tmod (wrap64 (a0)) 2097152) / 64) 31))) % 256), .int .u8 ((wrap64 (128 + (Go.bits .and .i64 (Int.tmod (wrap64 (a0)) 2097152) 63))) % 256)]) (ok := fun _ => True) (okp := fun _ => True) ?hr ?hp (fun _ hk => hk) trivial (Below.refl _ _) (Nat.le_refl _) (by simp) ?_; (case hd => rfl); (case hg => rfl); (case hr => first | (go_simp; done) | (go_simp; rfl)); (case hp => exact (Reps.one (show Kd.M (Kd.int .u8) _ _ _ ((wrap64 (128 + (Go.bits .and .i64 ((Int.tmod (wrap64 (a0)) 2097152) / 64) 31))) % 256) [.int .u8 ((wrap64 (128 + (Go.bits .and .i64 ((Int.tmod (wrap64 (a0)) 2097152) / 64) 31))) % 256)] from rfl) (Reps.one (show Kd.M (Kd.int .u8) _ _ _ ((wrap64 (128 + (Go.bits .and .i64 (Int.tmod (wrap64 (a0)) 2097152) 63))) % 256) [.int .u8 ((wrap64 (128 + (Go.bits .and .i64 (Int.tmod (wrap64 (a0)) 2097152) 63))) % 256)] from rfl) (Reps.none _ _)))); intro v126 w58 ho59 hb hg_ hnew_; clear hg_ hnew_; (first | rw [← Ny125.out] at ho59 | (simp only [Int.reduceToNat] at ho59; rw [← Ny125.out] at ho59)); have n0_ := Aside0.mk (Kd.R_lower ho59 (below_size (by repeat (first | (with_reducible first | exact HB.out | apply below_alloc | apply pw_below_drewN | apply below_drew1) | exact HB.out)))); have n1_ := Aside0.mk (below_step (by repeat (first | (with_reducible first | exact HB.out | apply below_alloc | apply pw_below_drewN | apply below_drew1) | exact HB.out)) hb); clear HB; have HO127 := n0_; have HB := n1_; clear n0_ n1_; clear hb ho59; have hcv60 := own_string (P := Try.prog) Try.underlying28 Try.underlying5 Try.underlying9 (Kd.own_of_R HO127.out)) | ((with_reducible refine gate_dst (N := 44) rfl ?_); refine Kd.R_lit (Kd.int .u8) _ 5 ?hg (N := 44) ?hd (xs := ([(wrap64 (192 + (Go.bits .and .i64 ((Int.tmod (wrap64 (a0)) 2097152) / 64) 1))) % 256, (wrap64 (128 + (Go.bits .and .i64 (Int.tmod (wrap64 (a0)) 2097152) 63))) % 256] : List Int)) (inner := [.int .u8 ((wrap64 (192 + (Go.bits .and .i64 ((Int.tmod (wrap64 (a0)) 2097152) / 64) 1))) % 256), .int .u8 ((wrap64 (128 + (Go.bits .and .i64 (Int.tmod (wrap64 (a0)) 2097152) 63))) % 256)]) (ok := fun _ => True) (okp := fun _ => True) ?hr ?hp (fun _ hk => hk) trivial (Below.refl _ _) (Nat.le_refl _) (by simp) ?_; (case hd => rfl); (case hg => rfl); (case hr => first | (go_simp; done) | (go_simp; rfl)); (case hp => exact (Reps.one (show Kd.M (Kd.int .u8) _ _ _ ((wrap64 (192 + (Go.bits .and .i64 ((Int.tmod (wrap64 (a0)) 2097152) / 64) 1))) % 256) [.int .u8 ((wrap64 (192 + (Go.bits .and .i64 ((Int.tmod (wrap64 (a0)) 2097152) / 64) 1))) % 256)] from rfl) (Reps.one (show Kd.M (Kd.int .u8) _ _ _ ((wrap64 (128 + (Go.bits .and .i64 (Int.tmod (wrap64 (a0)) 2097152) 63))) % 256) [.int .u8 ((wrap64 (128 + (Go.bits .and .i64 (Int.tmod (wrap64 (a0)) 2097152) 63))) % 256)] from rfl) (Reps.none _ _)))); intro v129 w61 ho62 hb hg_ hnew_; clear hg_ hnew_; (first | rw [← Ny128.out] at ho62 | (simp only [Int.reduceToNat] at ho62; rw [← Ny128.out] at ho62)); have n0_ := Aside0.mk (Kd.R_elder' (by (with_reducible repeat (first | apply Kd.R_alloc | apply Kd.R_drewN | apply Kd.R_drew)); exact HO127.out) (Kd.R_base ho62) hb); have n1_ := Aside0.mk (Kd.R_lower (Kd.R_new' ho62 (Kd.R_lt (by (with_reducible repeat (first | apply Kd.R_alloc | apply Kd.R_drewN | apply Kd.R_drew)); exact HO127.out))) (below_size (by repeat (first | (with_reducible first | exact HB.out | apply below_alloc | apply pw_below_drewN | apply below_drew1) | exact HB.out)))); have n2_ := Aside0.mk (below_step (by repeat (first | (with_reducible first | exact HB.out | apply below_alloc | apply pw_below_drewN | apply below_drew1) | exact HB.out)) hb); clear HO127; clear HB; have HO127 := n0_; have HO130 := n1_; have HB := n2_; clear n0_ n1_ n2_; clear hb ho62; have hcv63 := own_string (P := Try.prog) Try.underlying28 Try.underlying5 Try.underlying9 (Kd.own_of_R HO130.out)) | ((with_reducible refine gate_callee (f := 8) rfl ?_); refine goesL_ (some 47) rfl rfl Try.func8 (by kernel_rfl) rfl #[.string t124] rfl (by (try simp only [List.map_toArray, List.map_cons, List.map_nil]); first | done | rfl | (simp only [List.length_drop, List.length_take]; rfl)) ?_; (with_reducible refine (text_Valid.calls t124 t131 _ A8.out).mono ?_); rintro e w64 ⟨rfl, hb⟩; refine ⟨_, rfl, ?_⟩; have n0_ := Aside0.mk (Kd.R_below (by (with_reducible repeat (first | apply Kd.R_alloc | apply Kd.R_drewN | apply Kd.R_drew)); exact HO127.out) hb); have n1_ := Aside0.mk (Kd.R_below (by (with_reducible repeat (first | apply Kd.R_alloc | apply Kd.R_drewN | apply Kd.R_drew)); exact HO130.out) hb); have n2_ := Aside0.mk (below_step (by repeat (first | (with_reducible first | exact HB.out | apply below_alloc | apply pw_below_drewN | apply below_drew1) | exact HB.out)) hb); clear HO127; clear HO130; clear HB; have HO127 := n0_; have HO130 := n1_; have HB := n2_; clear n0_ n1_ n2_; (try clear hb); (try clear hb2); (try clear hk); (try clear hi)) | (go_at_call 8; (with_reducible refine (text_Valid.calls ((⟨#[224]⟩ : ByteArray) ++ (strOfNums y125)) true _ A56.out).mono ?_); rintro e w65 ⟨rfl, hb⟩; have n0_ := Aside0.mk (Kd.R_below (by (with_reducible repeat (first | apply Kd.R_alloc | apply Kd.R_drewN | apply Kd.R_drew)); exact HO127.out) hb); have n1_ := Aside0.mk (Kd.R_below (by (with_reducible repeat (first | apply Kd.R_alloc | apply Kd.R_drewN | apply Kd.R_drew)); exact HO130.out) hb); have n2_ := Aside0.mk (below_step (by repeat (first | (with_reducible first | exact HB.out | apply below_alloc | apply pw_below_drewN | apply below_drew1) | exact HB.out)) hb); clear HO127; clear HO130; clear HB; have HO127 := n0_; have HO130 := n1_; have HB := n2_; clear n0_ n1_ n2_; (try clear hb); (try clear hb2); (try clear hk); (try clear hi)))
              go_ret
              exact ⟨by first | rfl | (simp [errW_none, errW_some] <;> rfl) | (simp [*, errW_none, errW_some] <;> rfl), by repeat (first | (with_reducible first | exact HB.out | apply below_alloc | apply pw_below_drewN | apply below_drew1) | exact HB.out)⟩
            · replace c57 := Bool.eq_false_iff.mpr c57
              subst c57
              have H1 : ((text_Valid.f (strOfNums y128)).bind fun t137 => (if t137 = true then (some false) else ((gripsacklaw5_awake.f).bind fun t138 => (some t138)))) = some r := by rw [if_neg (show ¬ (false = true) by decide)] at H; exact H
              clear H
              have H := H1
              clear H1
              replace H := Option.bind_eq_some_iff.mp H
              obtain ⟨t137, A660, H⟩ := H
              replace H : (if t137 = true then (some false) else ((gripsacklaw5_awake.f).bind fun t138 => (some t138))) = some r := H
              have A66 := Aside0.mk A660
              clear A660
              by_cases c67 : t137 = true
              · subst c67
                have H1 : (some false) = some r := by rw [if_pos rfl] at H; exact H
                clear H
                have H := H1
                clear H1
                obtain rfl := Option.some.inj H
                go_wp2_with (first | ((with_reducible refine gate_dst (N := 32) rfl ?_); refine Kd.R_lit (Kd.int .u8) _ 5 ?hg (N := 32) ?hd (xs := ([(wrap64 (128 + (Go.bits .and .i64 ((Int.tmod (wrap64 (a0)) 2097152) / 64) 31))) % 256, (wrap64 (128 + (Go.bits .and .i64 (Int.tmod (wrap64 (a0)) 2097152) 63))) % 256] : List Int)) (inner := [.int .u8 ((wrap64 (128 + (Go.bits .and .i64 ((Int.tmod (wrap64 (a0)) 2097152) / 64) 31))) % 256), .int .u8 ((wrap64 (128 + (Go.bits .and .i64 (Int.tmod (wrap64 (a0)) 2097152) 63))) % 256)]) (ok := fun _ => True) (okp := fun _ => True) ?hr ?hp (fun _ hk => hk) trivial (Below.refl _ _) (Nat.le_refl _) (by simp) ?_; (case hd => rfl); (case hg => rfl); (case hr => first | (go_simp; done) | (go_simp; rfl)); (case hp => exact (Reps.one (show Kd.M (Kd.int .u8) _ _ _ ((wrap64 (128 + (Go.bits .and .i64 ((Int.tmod (wrap64 (a0)) 2097152) / 64) 31))) % 256) [.int .u8 ((wrap64 (128 + (Go.bits .and .i64 ((Int.tmod (wrap64 (a0)) 2097152) / 64) 31))) % 256)] from rfl) (Reps.one (show Kd.M (Kd.int .u8) _ _ _ ((wrap64 (128 + (Go.bits .and .i64 (Int.tmod (wrap64 (a0)) 2097152) 63))) % 256) [.int .u8 ((wrap64 (128 + (Go.bits .and .i64 (Int.tmod (wrap64 (a0)) 2097152) 63))) % 256)] from rfl) (Reps.none _ _)))); intro v126 w68 ho69 hb hg_ hnew_; clear hg_ hnew_; (first | rw [← Ny125.out] at ho69 | (simp only [Int.reduceToNat] at ho69; rw [← Ny125.out] at ho69)); have n0_ := Aside0.mk (Kd.R_lower ho69 (below_size (by repeat (first | (with_reducible first | exact HB.out | apply below_alloc | apply pw_below_drewN | apply below_drew1) | exact HB.out)))); have n1_ := Aside0.mk (below_step (by repeat (first | (with_reducible first | exact HB.out | apply below_alloc | apply pw_below_drewN | apply below_drew1) | exact HB.out)) hb); clear HB; have HO127 := n0_; have HB := n1_; clear n0_ n1_; clear hb ho69; have hcv70 := own_string (P := Try.prog) Try.underlying28 Try.underlying5 Try.underlying9 (Kd.own_of_R HO127.out)) | ((with_reducible refine gate_dst (N := 44) rfl ?_); refine Kd.R_lit (Kd.int .u8) _ 5 ?hg (N := 44) ?hd (xs := ([(wrap64 (192 + (Go.bits .and .i64 ((Int.tmod (wrap64 (a0)) 2097152) / 64) 1))) % 256, (wrap64 (128 + (Go.bits .and .i64 (Int.tmod (wrap64 (a0)) 2097152) 63))) % 256] : List Int)) (inner := [.int .u8 ((wrap64 (192 + (Go.bits .and .i64 ((Int.tmod (wrap64 (a0)) 2097152) / 64) 1))) % 256), .int .u8 ((wrap64 (128 + (Go.bits .and .i64 (Int.tmod (wrap64 (a0)) 2097152) 63))) % 256)]) (ok := fun _ => True) (okp := fun _ => True) ?hr ?hp (fun _ hk => hk) trivial (Below.refl _ _) (Nat.le_refl _) (by simp) ?_; (case hd => rfl); (case hg => rfl); (case hr => first | (go_simp; done) | (go_simp; rfl)); (case hp => exact (Reps.one (show Kd.M (Kd.int .u8) _ _ _ ((wrap64 (192 + (Go.bits .and .i64 ((Int.tmod (wrap64 (a0)) 2097152) / 64) 1))) % 256) [.int .u8 ((wrap64 (192 + (Go.bits .and .i64 ((Int.tmod (wrap64 (a0)) 2097152) / 64) 1))) % 256)] from rfl) (Reps.one (show Kd.M (Kd.int .u8) _ _ _ ((wrap64 (128 + (Go.bits .and .i64 (Int.tmod (wrap64 (a0)) 2097152) 63))) % 256) [.int .u8 ((wrap64 (128 + (Go.bits .and .i64 (Int.tmod (wrap64 (a0)) 2097152) 63))) % 256)] from rfl) (Reps.none _ _)))); intro v129 w71 ho72 hb hg_ hnew_; clear hg_ hnew_; (first | rw [← Ny128.out] at ho72 | (simp only [Int.reduceToNat] at ho72; rw [← Ny128.out] at ho72)); have n0_ := Aside0.mk (Kd.R_elder' (by (with_reducible repeat (first | apply Kd.R_alloc | apply Kd.R_drewN | apply Kd.R_drew)); exact HO127.out) (Kd.R_base ho72) hb); have n1_ := Aside0.mk (Kd.R_lower (Kd.R_new' ho72 (Kd.R_lt (by (with_reducible repeat (first | apply Kd.R_alloc | apply Kd.R_drewN | apply Kd.R_drew)); exact HO127.out))) (below_size (by repeat (first | (with_reducible first | exact HB.out | apply below_alloc | apply pw_below_drewN | apply below_drew1) | exact HB.out)))); have n2_ := Aside0.mk (below_step (by repeat (first | (with_reducible first | exact HB.out | apply below_alloc | apply pw_below_drewN | apply below_drew1) | exact HB.out)) hb); clear HO127; clear HB; have HO127 := n0_; have HO130 := n1_; have HB := n2_; clear n0_ n1_ n2_; clear hb ho72; have hcv73 := own_string (P := Try.prog) Try.underlying28 Try.underlying5 Try.underlying9 (Kd.own_of_R HO130.out)) | ((with_reducible refine gate_callee (f := 8) rfl ?_); refine goesL_ (some 47) rfl rfl Try.func8 (by kernel_rfl) rfl #[.string t124] rfl (by (try simp only [List.map_toArray, List.map_cons, List.map_nil]); first | done | rfl | (simp only [List.length_drop, List.length_take]; rfl)) ?_; (with_reducible refine (text_Valid.calls t124 t131 _ A8.out).mono ?_); rintro e w74 ⟨rfl, hb⟩; refine ⟨_, rfl, ?_⟩; have n0_ := Aside0.mk (Kd.R_below (by (with_reducible repeat (first | apply Kd.R_alloc | apply Kd.R_drewN | apply Kd.R_drew)); exact HO127.out) hb); have n1_ := Aside0.mk (Kd.R_below (by (with_reducible repeat (first | apply Kd.R_alloc | apply Kd.R_drewN | apply Kd.R_drew)); exact HO130.out) hb); have n2_ := Aside0.mk (below_step (by repeat (first | (with_reducible first | exact HB.out | apply below_alloc | apply pw_below_drewN | apply below_drew1) | exact HB.out)) hb); clear HO127; clear HO130; clear HB; have HO127 := n0_; have HO130 := n1_; have HB := n2_; clear n0_ n1_ n2_; (try clear hb); (try clear hb2); (try clear hk); (try clear hi)) | (go_at_call 8; (with_reducible refine (text_Valid.calls ((⟨#[224]⟩ : ByteArray) ++ (strOfNums y125)) false _ A56.out).mono ?_); rintro e w75 ⟨rfl, hb⟩; have n0_ := Aside0.mk (Kd.R_below (by (with_reducible repeat (first | apply Kd.R_alloc | apply Kd.R_drewN | apply Kd.R_drew)); exact HO127.out) hb); have n1_ := Aside0.mk (Kd.R_below (by (with_reducible repeat (first | apply Kd.R_alloc | apply Kd.R_drewN | apply Kd.R_drew)); exact HO130.out) hb); have n2_ := Aside0.mk (below_step (by repeat (first | (with_reducible first | exact HB.out | apply below_alloc | apply pw_below_drewN | apply below_drew1) | exact HB.out)) hb); clear HO127; clear HO130; clear HB; have HO127 := n0_; have HO130 := n1_; have HB := n2_; clear n0_ n1_ n2_; (try clear hb); (try clear hb2); (try clear hk); (try clear hi)) | (go_at_call 8; (with_reducible refine (text_Valid.calls (strOfNums y128) true _ A66.out).mono ?_); rintro e w76 ⟨rfl, hb⟩; have n0_ := Aside0.mk (Kd.R_below (by (with_reducible repeat (first | apply Kd.R_alloc | apply Kd.R_drewN | apply Kd.R_drew)); exact HO127.out) hb); have n1_ := Aside0.mk (Kd.R_below (by (with_reducible repeat (first | apply Kd.R_alloc | apply Kd.R_drewN | apply Kd.R_drew)); exact HO130.out) hb); have n2_ := Aside0.mk (below_step (by repeat (first | (with_reducible first | exact HB.out | apply below_alloc | apply pw_below_drewN | apply below_drew1) | exact HB.out)) hb); clear HO127; clear HO130; clear HB; have HO127 := n0_; have HO130 := n1_; have HB := n2_; clear n0_ n1_ n2_; (try clear hb); (try clear hb2); (try clear hk); (try clear hi)))
                go_ret
                exact ⟨by first | rfl | (simp [errW_none, errW_some] <;> rfl) | (simp [*, errW_none, errW_some] <;> rfl), by repeat (first | (with_reducible first | exact HB.out | apply below_alloc | apply pw_below_drewN | apply below_drew1) | exact HB.out)⟩
              · replace c67 := Bool.eq_false_iff.mpr c67
                subst c67
                have H1 : ((gripsacklaw5_awake.f).bind fun t138 => (some t138)) = some r := by rw [if_neg (show ¬ (false = true) by decide)] at H; exact H
                clear H
                have H := H1
                clear H1
                replace H := Option.bind_eq_some_iff.mp H
                obtain ⟨t138, A770, H⟩ := H
                replace H : (some t138) = some r := H
                have A77 := Aside0.mk A770
                clear A770
                obtain rfl := Option.some.inj H
                go_wp2_with (first | ((with_reducible refine gate_dst (N := 32) rfl ?_); refine Kd.R_lit (Kd.int .u8) _ 5 ?hg (N := 32) ?hd (xs := ([(wrap64 (128 + (Go.bits .and .i64 ((Int.tmod (wrap64 (a0)) 2097152) / 64) 31))) % 256, (wrap64 (128 + (Go.bits .and .i64 (Int.tmod (wrap64 (a0)) 2097152) 63))) % 256] : List Int)) (inner := [.int .u8 ((wrap64 (128 + (Go.bits .and .i64 ((Int.tmod (wrap64 (a0)) 2097152) / 64) 31))) % 256), .int .u8 ((wrap64 (128 + (Go.bits .and .i64 (Int.tmod (wrap64 (a0)) 2097152) 63))) % 256)]) (ok := fun _ => True) (okp := fun _ => True) ?hr ?hp (fun _ hk => hk) trivial (Below.refl _ _) (Nat.le_refl _) (by simp) ?_; (case hd => rfl); (case hg => rfl); (case hr => first | (go_simp; done) | (go_simp; rfl)); (case hp => exact (Reps.one (show Kd.M (Kd.int .u8) _ _ _ ((wrap64 (128 + (Go.bits .and .i64 ((Int.tmod (wrap64 (a0)) 2097152) / 64) 31))) % 256) [.int .u8 ((wrap64 (128 + (Go.bits .and .i64 ((Int.tmod (wrap64 (a0)) 2097152) / 64) 31))) % 256)] from rfl) (Reps.one (show Kd.M (Kd.int .u8) _ _ _ ((wrap64 (128 + (Go.bits .and .i64 (Int.tmod (wrap64 (a0)) 2097152) 63))) % 256) [.int .u8 ((wrap64 (128 + (Go.bits .and .i64 (Int.tmod (wrap64 (a0)) 2097152) 63))) % 256)] from rfl) (Reps.none _ _)))); intro v126 w78 ho79 hb hg_ hnew_; clear hg_ hnew_; (first | rw [← Ny125.out] at ho79 | (simp only [Int.reduceToNat] at ho79; rw [← Ny125.out] at ho79)); have n0_ := Aside0.mk (Kd.R_lower ho79 (below_size (by repeat (first | (with_reducible first | exact HB.out | apply below_alloc | apply pw_below_drewN | apply below_drew1) | exact HB.out)))); have n1_ := Aside0.mk (below_step (by repeat (first | (with_reducible first | exact HB.out | apply below_alloc | apply pw_below_drewN | apply below_drew1) | exact HB.out)) hb); clear HB; have HO127 := n0_; have HB := n1_; clear n0_ n1_; clear hb ho79; have hcv80 := own_string (P := Try.prog) Try.underlying28 Try.underlying5 Try.underlying9 (Kd.own_of_R HO127.out)) | ((with_reducible refine gate_dst (N := 44) rfl ?_); refine Kd.R_lit (Kd.int .u8) _ 5 ?hg (N := 44) ?hd (xs := ([(wrap64 (192 + (Go.bits .and .i64 ((Int.tmod (wrap64 (a0)) 2097152) / 64) 1))) % 256, (wrap64 (128 + (Go.bits .and .i64 (Int.tmod (wrap64 (a0)) 2097152) 63))) % 256] : List Int)) (inner := [.int .u8 ((wrap64 (192 + (Go.bits .and .i64 ((Int.tmod (wrap64 (a0)) 2097152) / 64) 1))) % 256), .int .u8 ((wrap64 (128 + (Go.bits .and .i64 (Int.tmod (wrap64 (a0)) 2097152) 63))) % 256)]) (ok := fun _ => True) (okp := fun _ => True) ?hr ?hp (fun _ hk => hk) trivial (Below.refl _ _) (Nat.le_refl _) (by simp) ?_; (case hd => rfl); (case hg => rfl); (case hr => first | (go_simp; done) | (go_simp; rfl)); (case hp => exact (Reps.one (show Kd.M (Kd.int .u8) _ _ _ ((wrap64 (192 + (Go.bits .and .i64 ((Int.tmod (wrap64 (a0)) 2097152) / 64) 1))) % 256) [.int .u8 ((wrap64 (192 + (Go.bits .and .i64 ((Int.tmod (wrap64 (a0)) 2097152) / 64) 1))) % 256)] from rfl) (Reps.one (show Kd.M (Kd.int .u8) _ _ _ ((wrap64 (128 + (Go.bits .and .i64 (Int.tmod (wrap64 (a0)) 2097152) 63))) % 256) [.int .u8 ((wrap64 (128 + (Go.bits .and .i64 (Int.tmod (wrap64 (a0)) 2097152) 63))) % 256)] from rfl) (Reps.none _ _)))); intro v129 w81 ho82 hb hg_ hnew_; clear hg_ hnew_; (first | rw [← Ny128.out] at ho82 | (simp only [Int.reduceToNat] at ho82; rw [← Ny128.out] at ho82)); have n0_ := Aside0.mk (Kd.R_elder' (by (with_reducible repeat (first | apply Kd.R_alloc | apply Kd.R_drewN | apply Kd.R_drew)); exact HO127.out) (Kd.R_base ho82) hb); have n1_ := Aside0.mk (Kd.R_lower (Kd.R_new' ho82 (Kd.R_lt (by (with_reducible repeat (first | apply Kd.R_alloc | apply Kd.R_drewN | apply Kd.R_drew)); exact HO127.out))) (below_size (by repeat (first | (with_reducible first | exact HB.out | apply below_alloc | apply pw_below_drewN | apply below_drew1) | exact HB.out)))); have n2_ := Aside0.mk (below_step (by repeat (first | (with_reducible first | exact HB.out | apply below_alloc | apply pw_below_drewN | apply below_drew1) | exact HB.out)) hb); clear HO127; clear HB; have HO127 := n0_; have HO130 := n1_; have HB := n2_; clear n0_ n1_ n2_; clear hb ho82; have hcv83 := own_string (P := Try.prog) Try.underlying28 Try.underlying5 Try.underlying9 (Kd.own_of_R HO130.out)) | ((with_reducible refine gate_callee (f := 8) rfl ?_); refine goesL_ (some 47) rfl rfl Try.func8 (by kernel_rfl) rfl #[.string t124] rfl (by (try simp only [List.map_toArray, List.map_cons, List.map_nil]); first | done | rfl | (simp only [List.length_drop, List.length_take]; rfl)) ?_; (with_reducible refine (text_Valid.calls t124 t131 _ A8.out).mono ?_); rintro e w84 ⟨rfl, hb⟩; refine ⟨_, rfl, ?_⟩; have n0_ := Aside0.mk (Kd.R_below (by (with_reducible repeat (first | apply Kd.R_alloc | apply Kd.R_drewN | apply Kd.R_drew)); exact HO127.out) hb); have n1_ := Aside0.mk (Kd.R_below (by (with_reducible repeat (first | apply Kd.R_alloc | apply Kd.R_drewN | apply Kd.R_drew)); exact HO130.out) hb); have n2_ := Aside0.mk (below_step (by repeat (first | (with_reducible first | exact HB.out | apply below_alloc | apply pw_below_drewN | apply below_drew1) | exact HB.out)) hb); clear HO127; clear HO130; clear HB; have HO127 := n0_; have HO130 := n1_; have HB := n2_; clear n0_ n1_ n2_; (try clear hb); (try clear hb2); (try clear hk); (try clear hi)) | (go_at_call 8; (with_reducible refine (text_Valid.calls ((⟨#[224]⟩ : ByteArray) ++ (strOfNums y125)) false _ A56.out).mono ?_); rintro e w85 ⟨rfl, hb⟩; have n0_ := Aside0.mk (Kd.R_below (by (with_reducible repeat (first | apply Kd.R_alloc | apply Kd.R_drewN | apply Kd.R_drew)); exact HO127.out) hb); have n1_ := Aside0.mk (Kd.R_below (by (with_reducible repeat (first | apply Kd.R_alloc | apply Kd.R_drewN | apply Kd.R_drew)); exact HO130.out) hb); have n2_ := Aside0.mk (below_step (by repeat (first | (with_reducible first | exact HB.out | apply below_alloc | apply pw_below_drewN | apply below_drew1) | exact HB.out)) hb); clear HO127; clear HO130; clear HB; have HO127 := n0_; have HO130 := n1_; have HB := n2_; clear n0_ n1_ n2_; (try clear hb); (try clear hb2); (try clear hk); (try clear hi)) | (go_at_call 8; (with_reducible refine (text_Valid.calls (strOfNums y128) false _ A66.out).mono ?_); rintro e w86 ⟨rfl, hb⟩; have n0_ := Aside0.mk (Kd.R_below (by (with_reducible repeat (first | apply Kd.R_alloc | apply Kd.R_drewN | apply Kd.R_drew)); exact HO127.out) hb); have n1_ := Aside0.mk (Kd.R_below (by (with_reducible repeat (first | apply Kd.R_alloc | apply Kd.R_drewN | apply Kd.R_drew)); exact HO130.out) hb); have n2_ := Aside0.mk (below_step (by repeat (first | (with_reducible first | exact HB.out | apply below_alloc | apply pw_below_drewN | apply below_drew1) | exact HB.out)) hb); clear HO127; clear HO130; clear HB; have HO127 := n0_; have HO130 := n1_; have HB := n2_; clear n0_ n1_ n2_; (try clear hb); (try clear hb2); (try clear hk); (try clear hi)) | (go_at_call 7; (with_reducible refine (gripsacklaw5_awake.calls  t138 _ A77.out).mono ?_); rintro e w87 ⟨rfl, hb⟩; have n0_ := Aside0.mk (Kd.R_below (by (with_reducible repeat (first | apply Kd.R_alloc | apply Kd.R_drewN | apply Kd.R_drew)); exact HO127.out) hb); have n1_ := Aside0.mk (Kd.R_below (by (with_reducible repeat (first | apply Kd.R_alloc | apply Kd.R_drewN | apply Kd.R_drew)); exact HO130.out) hb); have n2_ := Aside0.mk (below_step (by repeat (first | (with_reducible first | exact HB.out | apply below_alloc | apply pw_below_drewN | apply below_drew1) | exact HB.out)) hb); clear HO127; clear HO130; clear HB; have HO127 := n0_; have HO130 := n1_; have HB := n2_; clear n0_ n1_ n2_; (try clear hb); (try clear hb2); (try clear hk); (try clear hi)))
                go_ret
                exact ⟨by first | rfl | (simp [errW_none, errW_some] <;> rfl) | (simp [*, errW_none, errW_some] <;> rfl), by repeat (first | (with_reducible first | exact HB.out | apply below_alloc | apply pw_below_drewN | apply below_drew1) | exact HB.out)⟩
        · rw [if_neg c9] at H
          have c9b0 : (t131 == x5_2) = false := by simpa using c9
          (try (have c9b1 : decide (t131 = x5_2) = false := by simpa using c9))
          (try (have c9b2 : (t131 == x5_2) = false := by simpa using c9))
          (try (have c9b3 : ¬ (t131 = x5_2) := by simpa using c9))
          clear c9
          obtain rfl := Option.some.inj H
          go_wp2_with (first | ((with_reducible refine gate_dst (N := 32) rfl ?_); refine Kd.R_lit (Kd.int .u8) _ 5 ?hg (N := 32) ?hd (xs := ([(wrap64 (128 + (Go.bits .and .i64 ((Int.tmod (wrap64 (a0)) 2097152) / 64) 31))) % 256, (wrap64 (128 + (Go.bits .and .i64 (Int.tmod (wrap64 (a0)) 2097152) 63))) % 256] : List Int)) (inner := [.int .u8 ((wrap64 (128 + (Go.bits .and .i64 ((Int.tmod (wrap64 (a0)) 2097152) / 64) 31))) % 256), .int .u8 ((wrap64 (128 + (Go.bits .and .i64 (Int.tmod (wrap64 (a0)) 2097152) 63))) % 256)]) (ok := fun _ => True) (okp := fun _ => True) ?hr ?hp (fun _ hk => hk) trivial (Below.refl _ _) (Nat.le_refl _) (by simp) ?_; (case hd => rfl); (case hg => rfl); (case hr => first | (go_simp; done) | (go_simp; rfl)); (case hp => exact (Reps.one (show Kd.M (Kd.int .u8) _ _ _ ((wrap64 (128 + (Go.bits .and .i64 ((Int.tmod (wrap64 (a0)) 2097152) / 64) 31))) % 256) [.int .u8 ((wrap64 (128 + (Go.bits .and .i64 ((Int.tmod (wrap64 (a0)) 2097152) / 64) 31))) % 256)] from rfl) (Reps.one (show Kd.M (Kd.int .u8) _ _ _ ((wrap64 (128 + (Go.bits .and .i64 (Int.tmod (wrap64 (a0)) 2097152) 63))) % 256) [.int .u8 ((wrap64 (128 + (Go.bits .and .i64 (Int.tmod (wrap64 (a0)) 2097152) 63))) % 256)] from rfl) (Reps.none _ _)))); intro v126 w88 ho89 hb hg_ hnew_; clear hg_ hnew_; (first | rw [← Ny125.out] at ho89 | (simp only [Int.reduceToNat] at ho89; rw [← Ny125.out] at ho89)); have n0_ := Aside0.mk (Kd.R_lower ho89 (below_size (by repeat (first | (with_reducible first | exact HB.out | apply below_alloc | apply pw_below_drewN | apply below_drew1) | exact HB.out)))); have n1_ := Aside0.mk (below_step (by repeat (first | (with_reducible first | exact HB.out | apply below_alloc | apply pw_below_drewN | apply below_drew1) | exact HB.out)) hb); clear HB; have HO127 := n0_; have HB := n1_; clear n0_ n1_; clear hb ho89; have hcv90 := own_string (P := Try.prog) Try.underlying28 Try.underlying5 Try.underlying9 (Kd.own_of_R HO127.out)) | ((with_reducible refine gate_dst (N := 44) rfl ?_); refine Kd.R_lit (Kd.int .u8) _ 5 ?hg (N := 44) ?hd (xs := ([(wrap64 (192 + (Go.bits .and .i64 ((Int.tmod (wrap64 (a0)) 2097152) / 64) 1))) % 256, (wrap64 (128 + (Go.bits .and .i64 (Int.tmod (wrap64 (a0)) 2097152) 63))) % 256] : List Int)) (inner := [.int .u8 ((wrap64 (192 + (Go.bits .and .i64 ((Int.tmod (wrap64 (a0)) 2097152) / 64) 1))) % 256), .int .u8 ((wrap64 (128 + (Go.bits .and .i64 (Int.tmod (wrap64 (a0)) 2097152) 63))) % 256)]) (ok := fun _ => True) (okp := fun _ => True) ?hr ?hp (fun _ hk => hk) trivial (Below.refl _ _) (Nat.le_refl _) (by simp) ?_; (case hd => rfl); (case hg => rfl); (case hr => first | (go_simp; done) | (go_simp; rfl)); (case hp => exact (Reps.one (show Kd.M (Kd.int .u8) _ _ _ ((wrap64 (192 + (Go.bits .and .i64 ((Int.tmod (wrap64 (a0)) 2097152) / 64) 1))) % 256) [.int .u8 ((wrap64 (192 + (Go.bits .and .i64 ((Int.tmod (wrap64 (a0)) 2097152) / 64) 1))) % 256)] from rfl) (Reps.one (show Kd.M (Kd.int .u8) _ _ _ ((wrap64 (128 + (Go.bits .and .i64 (Int.tmod (wrap64 (a0)) 2097152) 63))) % 256) [.int .u8 ((wrap64 (128 + (Go.bits .and .i64 (Int.tmod (wrap64 (a0)) 2097152) 63))) % 256)] from rfl) (Reps.none _ _)))); intro v129 w91 ho92 hb hg_ hnew_; clear hg_ hnew_; (first | rw [← Ny128.out] at ho92 | (simp only [Int.reduceToNat] at ho92; rw [← Ny128.out] at ho92)); have n0_ := Aside0.mk (Kd.R_elder' (by (with_reducible repeat (first | apply Kd.R_alloc | apply Kd.R_drewN | apply Kd.R_drew)); exact HO127.out) (Kd.R_base ho92) hb); have n1_ := Aside0.mk (Kd.R_lower (Kd.R_new' ho92 (Kd.R_lt (by (with_reducible repeat (first | apply Kd.R_alloc | apply Kd.R_drewN | apply Kd.R_drew)); exact HO127.out))) (below_size (by repeat (first | (with_reducible first | exact HB.out | apply below_alloc | apply pw_below_drewN | apply below_drew1) | exact HB.out)))); have n2_ := Aside0.mk (below_step (by repeat (first | (with_reducible first | exact HB.out | apply below_alloc | apply pw_below_drewN | apply below_drew1) | exact HB.out)) hb); clear HO127; clear HB; have HO127 := n0_; have HO130 := n1_; have HB := n2_; clear n0_ n1_ n2_; clear hb ho92; have hcv93 := own_string (P := Try.prog) Try.underlying28 Try.underlying5 Try.underlying9 (Kd.own_of_R HO130.out)) | ((with_reducible refine gate_callee (f := 8) rfl ?_); refine goesL_ (some 47) rfl rfl Try.func8 (by kernel_rfl) rfl #[.string t124] rfl (by (try simp only [List.map_toArray, List.map_cons, List.map_nil]); first | done | rfl | (simp only [List.length_drop, List.length_take]; rfl)) ?_; (with_reducible refine (text_Valid.calls t124 t131 _ A8.out).mono ?_); rintro e w94 ⟨rfl, hb⟩; refine ⟨_, rfl, ?_⟩; have n0_ := Aside0.mk (Kd.R_below (by (with_reducible repeat (first | apply Kd.R_alloc | apply Kd.R_drewN | apply Kd.R_drew)); exact HO127.out) hb); have n1_ := Aside0.mk (Kd.R_below (by (with_reducible repeat (first | apply Kd.R_alloc | apply Kd.R_drewN | apply Kd.R_drew)); exact HO130.out) hb); have n2_ := Aside0.mk (below_step (by repeat (first | (with_reducible first | exact HB.out | apply below_alloc | apply pw_below_drewN | apply below_drew1) | exact HB.out)) hb); clear HO127; clear HO130; clear HB; have HO127 := n0_; have HO130 := n1_; have HB := n2_; clear n0_ n1_ n2_; (try clear hb); (try clear hb2); (try clear hk); (try clear hi)))
          go_ret
          exact ⟨by first | rfl | (simp [errW_none, errW_some] <;> rfl) | (simp [*, errW_none, errW_some] <;> rfl), by repeat (first | (with_reducible first | exact HB.out | apply below_alloc | apply pw_below_drewN | apply below_drew1) | exact HB.out)⟩
      · rw [if_neg c7] at H
        exact absurd H (by simp)

/-- THE ONE PURE STATEMENT of gripsacklaw5_TextSigns: yours. -/
def gripsacklaw5_TextSigns.Pure : Prop := ∀ (a0 : Int), (Lit.int .u32 a0).wf = true → ∃ k, gripsacklaw5_TextSigns.f k a0 = some true
theorem gripsacklaw5_TextSigns.walk (P : gripsacklaw5_TextSigns.Pure) (a0 : Int) (w : World) (w0 : (Lit.int .u32 a0).wf = true) :
    Calls Try.prog 4 #[.int .u32 a0] w fun e w' => e = .returned (.bool true) ∧ Below w.heap.size w w' := by
  obtain ⟨k, h⟩ := P a0 w0
  refine (gripsacklaw5_TextSigns.calls k a0 true w h).mono ?_
  rintro e w' ⟨rfl, hd⟩
  exact ⟨rfl, hd⟩

end Go.Proofs.Ytljodbbmcgpcnaa.GTextSigns
