-- By the session's own program (wip/gprint.py over the kit's print); Lean checks it.
import Derived.Test.YtnakkfdopfhkcaaGCx0
import Derived.Test.YtnakkfdopfhkcaaGCx1
namespace Go.Proofs.Ytnakkfdopfhkcaa.GC
open Go.RowKit Go.Proofs.YtnakkfdopfhkcaaW.PrintWords Go.Proofs.YtnakkfdopfhkcaaW.PrintLast Go.Proofs.YtnakkfdopfhkcaaW.PrintMore
attribute [local go_sem] max2_int min2_int max_two min_two max_three min_three max_four min_four   -- for this text's walks alone
set_option linter.unusedVariables false
set_option linter.unusedSimpArgs false

/-! ### gripsacklaw3_SixtyJoins: function 5 -/
def gripsacklaw3_SixtyJoins.j0 : Nat → ByteArray → ByteArray → Bool → Option (Bool)
  | 0, _, _, _ => none
  | k + 1, x0, x1, x12 => if x12 = true then ((gripsacklaw3_awake.f).bind fun t133 => (some t133)) else (if 0 ≤ (wrap64 ((wrap64 ((x0.size : Int) / 3)) * 3)) then (if (wrap64 ((wrap64 ((x0.size : Int) / 3)) * 3)) ≤ (x0.size : Int) then (if (x0.extract 0 ((wrap64 ((wrap64 ((x0.size : Int) / 3)) * 3)) : Int).toNat).size + x1.size ≤ 9223372036854775807 then ((sixPut.f ((x0.extract 0 ((wrap64 ((wrap64 ((x0.size : Int) / 3)) * 3)) : Int).toNat) ++ x1)).bind fun t134 => ((sixPut.f (x0.extract 0 ((wrap64 ((wrap64 ((x0.size : Int) / 3)) * 3)) : Int).toNat)).bind fun t135 => ((sixPut.f x1).bind fun t136 => (if t135.size + t136.size ≤ 9223372036854775807 then (if t134.toList = (t135 ++ t136).toList then ((gripsacklaw3_awake.f).bind fun t137 => (some t137)) else (some false)) else (none))))) else (none)) else (none)) else (none))
def gripsacklaw3_SixtyJoins.f (k : Nat) (a0 : ByteArray) (a1 : ByteArray) : Option (Bool) := if (a0.size : Int) > 200 then (gripsacklaw3_SixtyJoins.j0 k a0 a1 true) else (gripsacklaw3_SixtyJoins.j0 k a0 a1 (decide ((a1.size : Int) > 200)))
theorem gripsacklaw3_SixtyJoins.mono_l : ∀ k, (∀ y0 y1 y2, LeO (gripsacklaw3_SixtyJoins.j0 k y0 y1 y2) (gripsacklaw3_SixtyJoins.j0 (k + 1) y0 y1 y2))
  | 0 => fun _ _ _ r h => by simp [gripsacklaw3_SixtyJoins.j0] at h
  | k + 1 => by
    have ih0 := gripsacklaw3_SixtyJoins.mono_l k
    · intro y0 y1 y2
      unfold gripsacklaw3_SixtyJoins.j0
      repeat' first
      | (with_reducible exact ih0 _ _ _)
      | (with_reducible exact LeO.refl _)
      | (with_reducible exact LeO.none _)
      | (with_reducible refine LeO.ite ?_ ?_)
      | (with_reducible refine LeO.bind ?_ (fun _ => ?_))
      | exact ih0 _ _ _
      | exact LeO.none _
      | refine LeO.ite ?_ ?_
      | refine LeO.bind ?_ (fun _ => ?_)
theorem gripsacklaw3_SixtyJoins.mono : ∀ a0 a1 k, LeO (gripsacklaw3_SixtyJoins.f k a0 a1) (gripsacklaw3_SixtyJoins.f (k + 1) a0 a1) := by
  intro a0 a1 k
  have ih0 := gripsacklaw3_SixtyJoins.mono_l k
  unfold gripsacklaw3_SixtyJoins.f
  repeat' first
      | (with_reducible exact ih0 _ _ _)
      | (with_reducible exact LeO.refl _)
      | (with_reducible exact LeO.none _)
      | (with_reducible refine LeO.ite ?_ ?_)
      | (with_reducible refine LeO.bind ?_ (fun _ => ?_))
      | exact ih0 _ _ _
      | exact LeO.none _
      | refine LeO.ite ?_ ?_
      | refine LeO.bind ?_ (fun _ => ?_)
set_option maxHeartbeats 8000000 in
set_option maxRecDepth 100000 in
theorem gripsacklaw3_SixtyJoins.calls (k : Nat) (a0 : ByteArray) (a1 : ByteArray) (r : Bool) (w : World) (h : gripsacklaw3_SixtyJoins.f k a0 a1 = some r) :
    Calls Try.prog 5 #[.string a0, .string a1] w fun e w' => e = .returned (.bool r) ∧ Below w.heap.size w w' := by
  have HB := Aside0.mk (Below.refl w.heap.size w)
  have H : (if (a0.size : Int) > 200 then (gripsacklaw3_SixtyJoins.j0 k a0 a1 true) else (gripsacklaw3_SixtyJoins.j0 k a0 a1 (decide ((a1.size : Int) > 200)))) = some r := h
  clear h
  have HC3 := Aside0.mk H
  clear H
  go_enter Try.func5, Try.ntmps5
  go_upto_region 1 with (fail)
  go_cut [12] (fun v12 wc => ∃ (kq : Nat) (x12_2 : Bool), v12 = .bool x12_2 ∧ Aside0 (gripsacklaw3_SixtyJoins.j0 kq a0 a1 x12_2 = some r) ∧ Aside0 (kq ≤ k) ∧ Aside0 (Below w.heap.size w wc))
  case first =>
    have H := HC3.out
    clear HC3
    by_cases c4 : (a0.size : Int) > 200
    · rw [if_pos c4] at H
      have c4b0 : decide (200 < (a0.size : Int)) = true := decide_eq_true c4
      have c4b1 : decide (200 < a0.size) = true := decide_eq_true (by omega)
      clear c4
      (first | rw [c4b0] | (simp only [i64_w, i32_w]; rw [c4b0]) | skip)
      have H' := Aside0.mk H
      clear H
      go_wp2
      go_meet
      case rel => exact ⟨_, (true), (by first | rfl | (simp; done) | (simp [*]; done)), H', ⟨by first | omega | exact Nat.le_refl _⟩, ⟨by repeat (first | (with_reducible first | exact HB.out | apply below_alloc | apply pw_below_drewN | apply below_drew1) | exact HB.out)⟩⟩
    · rw [if_neg c4] at H
      have c4b0 : decide (200 < (a0.size : Int)) = false := decide_eq_false c4
      have c4b1 : decide (200 < a0.size) = false := decide_eq_false (by omega)
      clear c4
      (first | rw [c4b0] | (simp only [i64_w, i32_w]; rw [c4b0]) | skip)
      have H' := Aside0.mk H
      clear H
      go_wp2
      go_meet
      case rel => exact ⟨_, (decide ((a1.size : Int) > 200)), (by first | rfl | (simp; done) | (simp [*]; done)), H', ⟨by first | omega | exact Nat.le_refl _⟩, ⟨by repeat (first | (with_reducible first | exact HB.out | apply below_alloc | apply pw_below_drewN | apply below_drew1) | exact HB.out)⟩⟩
  case rest =>
    clear HC3
    try clear p2
    try clear c4
    try clear c4b0
    try clear c4b1
    obtain ⟨kq, x12_2, rfl, HA, HJ2, HB⟩ := hcut
    cases kq with
    | zero => exact absurd HA.out (by simp [gripsacklaw3_SixtyJoins.j0])
    | succ kj2 =>
      have H := HA.out
      clear HA
      simp only [gripsacklaw3_SixtyJoins.j0] at H
      by_cases c5 : x12_2 = true
      · subst c5
        have H1 : ((gripsacklaw3_awake.f).bind fun t133 => (some t133)) = some r := by rw [if_pos rfl] at H; exact H
        clear H
        have H := H1
        clear H1
        replace H := Option.bind_eq_some_iff.mp H
        obtain ⟨t133, A60, H⟩ := H
        replace H : (some t133) = some r := H
        have A6 := Aside0.mk A60
        clear A60
        obtain rfl := Option.some.inj H
        go_wp2_with (first | ((with_reducible refine gate_callee (f := 7) rfl ?_); refine goesL_ (some 13) rfl rfl Try.func7 (by kernel_rfl) rfl #[] rfl (by (try simp only [List.map_toArray, List.map_cons, List.map_nil]); first | done | rfl | (simp only [List.length_drop, List.length_take]; rfl)) ?_; (with_reducible refine (gripsacklaw3_awake.calls  t133 _ A6.out).mono ?_); rintro e w7 ⟨rfl, hb⟩; refine ⟨_, rfl, ?_⟩; have n0_ := Aside0.mk (below_step (by repeat (first | (with_reducible first | exact HB.out | apply below_alloc | apply pw_below_drewN | apply below_drew1) | exact HB.out)) hb); clear HB; have HB := n0_; clear n0_; (try clear hb); (try clear hb2); (try clear hk); (try clear hi)))
        go_ret
        exact ⟨by first | rfl | (simp [errW_none, errW_some] <;> rfl) | (simp [*, errW_none, errW_some] <;> rfl), by repeat (first | (with_reducible first | exact HB.out | apply below_alloc | apply pw_below_drewN | apply below_drew1) | exact HB.out)⟩
      · replace c5 := Bool.eq_false_iff.mpr c5
        subst c5
        have H1 : (if 0 ≤ (wrap64 ((wrap64 ((a0.size : Int) / 3)) * 3)) then (if (wrap64 ((wrap64 ((a0.size : Int) / 3)) * 3)) ≤ (a0.size : Int) then (if (a0.extract 0 ((wrap64 ((wrap64 ((a0.size : Int) / 3)) * 3)) : Int).toNat).size + a1.size ≤ 9223372036854775807 then ((sixPut.f ((a0.extract 0 ((wrap64 ((wrap64 ((a0.size : Int) / 3)) * 3)) : Int).toNat) ++ a1)).bind fun t134 => ((sixPut.f (a0.extract 0 ((wrap64 ((wrap64 ((a0.size : Int) / 3)) * 3)) : Int).toNat)).bind fun t135 => ((sixPut.f a1).bind fun t136 => (if t135.size + t136.size ≤ 9223372036854775807 then (if t134.toList = (t135 ++ t136).toList then ((gripsacklaw3_awake.f).bind fun t137 => (some t137)) else (some false)) else (none))))) else (none)) else (none)) else (none)) = some r := by rw [if_neg (show ¬ (false = true) by decide)] at H; exact H
        clear H
        have H := H1
        clear H1
        obtain ⟨ji8, hji8⟩ : ∃ j_ : Int, (wrap64 ((wrap64 ((a0.size : Int) / 3)) * 3)) = j_ := ⟨_, rfl⟩
        replace H : (if 0 ≤ (ji8) then (if (ji8) ≤ (a0.size : Int) then (if (a0.extract 0 ((ji8) : Int).toNat).size + a1.size ≤ 9223372036854775807 then ((sixPut.f ((a0.extract 0 ((ji8) : Int).toNat) ++ a1)).bind fun t134 => ((sixPut.f (a0.extract 0 ((ji8) : Int).toNat)).bind fun t135 => ((sixPut.f a1).bind fun t136 => (if t135.size + t136.size ≤ 9223372036854775807 then (if t134.toList = (t135 ++ t136).toList then ((gripsacklaw3_awake.f).bind fun t137 => (some t137)) else (some false)) else (none))))) else (none)) else (none)) else (none)) = some r := by first | (rw [hji8] at H; exact H) | (simp only [hji8] at H ⊢; exact H)
        have hji8w : (IntKind.i64.wrap ((wrap64 ((a0.size : Int) / 3)) * 3)) = ji8 := (i64_w _).trans hji8
        by_cases c9 : 0 ≤ (ji8)
        · rw [if_pos c9] at H
          have c9b0 := eq_true c9
          have c9b1 : decide (0 ≤ (ji8)) = true := decide_eq_true c9
          clear c9
          by_cases c10 : (ji8) ≤ (a0.size : Int)
          · rw [if_pos c10] at H
            have c10b0 := eq_true c10
            have c10b1 : decide ((ji8) ≤ (a0.size : Int)) = true := decide_eq_true c10
            clear c10
            by_cases c11 : (a0.extract 0 ((ji8) : Int).toNat).size + a1.size ≤ 9223372036854775807
            · rw [if_pos c11] at H
              have c11b0 := eq_true c11
              have c11b1 : decide ((a0.extract 0 ((ji8) : Int).toNat).size + a1.size ≤ 9223372036854775807) = true := decide_eq_true c11
              try have c11b2 : (9223372036854775807 < (a0.extract 0 ((ji8) : Int).toNat).size + a1.size) = False := eq_false (Nat.not_lt.2 c11)
              replace H := Option.bind_eq_some_iff.mp H
              obtain ⟨t134, A120, H⟩ := H
              replace H : ((sixPut.f (a0.extract 0 ((ji8) : Int).toNat)).bind fun t135 => ((sixPut.f a1).bind fun t136 => (if t135.size + t136.size ≤ 9223372036854775807 then (if t134.toList = (t135 ++ t136).toList then ((gripsacklaw3_awake.f).bind fun t137 => (some t137)) else (some false)) else (none)))) = some r := H
              have A12 := Aside0.mk A120
              clear A120
              replace H := Option.bind_eq_some_iff.mp H
              obtain ⟨t135, A130, H⟩ := H
              replace H : ((sixPut.f a1).bind fun t136 => (if t135.size + t136.size ≤ 9223372036854775807 then (if t134.toList = (t135 ++ t136).toList then ((gripsacklaw3_awake.f).bind fun t137 => (some t137)) else (some false)) else (none))) = some r := H
              have A13 := Aside0.mk A130
              clear A130
              replace H := Option.bind_eq_some_iff.mp H
              obtain ⟨t136, A140, H⟩ := H
              replace H : (if t135.size + t136.size ≤ 9223372036854775807 then (if t134.toList = (t135 ++ t136).toList then ((gripsacklaw3_awake.f).bind fun t137 => (some t137)) else (some false)) else (none)) = some r := H
              have A14 := Aside0.mk A140
              clear A140
              by_cases c15 : t135.size + t136.size ≤ 9223372036854775807
              · rw [if_pos c15] at H
                have c15b0 := eq_true c15
                have c15b1 : decide (t135.size + t136.size ≤ 9223372036854775807) = true := decide_eq_true c15
                try have c15b2 : (9223372036854775807 < t135.size + t136.size) = False := eq_false (Nat.not_lt.2 c15)
                by_cases c16 : t134.toList = (t135 ++ t136).toList
                · rw [if_pos c16] at H
                  have c16b0 : (t134.toList == (t135 ++ t136).toList) = true := beq_iff_eq.mpr c16
                  have c16b1 : (t134.toList != (t135 ++ t136).toList) = false := bne_eq_false_iff_eq.mpr c16
                  clear c16
                  replace H := Option.bind_eq_some_iff.mp H
                  obtain ⟨t137, A170, H⟩ := H
                  replace H : (some t137) = some r := H
                  have A17 := Aside0.mk A170
                  clear A170
                  obtain rfl := Option.some.inj H
                  go_wp2_with (first | ((with_reducible refine gate_callee (f := 10) rfl ?_); refine goesL_ (some 23) rfl rfl Try.func10 (by kernel_rfl) rfl #[.string ((a0.extract 0 ((ji8) : Int).toNat) ++ a1)] rfl (by (try simp only [List.map_toArray, List.map_cons, List.map_nil]); first | done | (simp only [hji8]; rfl) | rfl | (simp only [List.length_drop, List.length_take]; rfl)) ?_; (with_reducible refine (sixPut.calls ((a0.extract 0 ((ji8) : Int).toNat) ++ a1) t134 _ A12.out).mono ?_); rintro e w18 ⟨rfl, hb⟩; refine ⟨_, rfl, ?_⟩; have n0_ := Aside0.mk (below_step (by repeat (first | (with_reducible first | exact HB.out | apply below_alloc | apply pw_below_drewN | apply below_drew1) | exact HB.out)) hb); clear HB; have HB := n0_; clear n0_; (try clear hb); (try clear hb2); (try clear hk); (try clear hi)) | ((with_reducible refine gate_callee (f := 10) rfl ?_); refine goesL_ (some 25) rfl rfl Try.func10 (by kernel_rfl) rfl #[.string (a0.extract 0 ((ji8) : Int).toNat)] rfl (by (try simp only [List.map_toArray, List.map_cons, List.map_nil]); first | done | (simp only [hji8]; rfl) | rfl | (simp only [List.length_drop, List.length_take]; rfl)) ?_; (with_reducible refine (sixPut.calls (a0.extract 0 ((ji8) : Int).toNat) t135 _ A13.out).mono ?_); rintro e w19 ⟨rfl, hb⟩; refine ⟨_, rfl, ?_⟩; have n0_ := Aside0.mk (below_step (by repeat (first | (with_reducible first | exact HB.out | apply below_alloc | apply pw_below_drewN | apply below_drew1) | exact HB.out)) hb); clear HB; have HB := n0_; clear n0_; (try clear hb); (try clear hb2); (try clear hk); (try clear hi)) | ((with_reducible refine gate_callee (f := 10) rfl ?_); refine goesL_ (some 27) rfl rfl Try.func10 (by kernel_rfl) rfl #[.string a1] rfl (by (try simp only [List.map_toArray, List.map_cons, List.map_nil]); first | done | rfl | (simp only [List.length_drop, List.length_take]; rfl)) ?_; (with_reducible refine (sixPut.calls a1 t136 _ A14.out).mono ?_); rintro e w20 ⟨rfl, hb⟩; refine ⟨_, rfl, ?_⟩; have n0_ := Aside0.mk (below_step (by repeat (first | (with_reducible first | exact HB.out | apply below_alloc | apply pw_below_drewN | apply below_drew1) | exact HB.out)) hb); clear HB; have HB := n0_; clear n0_; (try clear hb); (try clear hb2); (try clear hk); (try clear hi)) | (go_at_call 7; (with_reducible refine (gripsacklaw3_awake.calls  t137 _ A17.out).mono ?_); rintro e w21 ⟨rfl, hb⟩; have n0_ := Aside0.mk (below_step (by repeat (first | (with_reducible first | exact HB.out | apply below_alloc | apply pw_below_drewN | apply below_drew1) | exact HB.out)) hb); clear HB; have HB := n0_; clear n0_; (try clear hb); (try clear hb2); (try clear hk); (try clear hi)))
                  go_ret
                  exact ⟨by first | rfl | (simp [errW_none, errW_some] <;> rfl) | (simp only [← hji8]; first | rfl | (simp [errW_none, errW_some] <;> rfl)) | (simp [*, errW_none, errW_some] <;> rfl), by repeat (first | (with_reducible first | exact HB.out | apply below_alloc | apply pw_below_drewN | apply below_drew1) | exact HB.out)⟩
                · rw [if_neg c16] at H
                  have c16b0 : (t134.toList == (t135 ++ t136).toList) = false := beq_eq_false_iff_ne.mpr c16
                  have c16b1 : (t134.toList != (t135 ++ t136).toList) = true := bne_iff_ne.mpr c16
                  obtain rfl := Option.some.inj H
                  go_wp2_with (first | ((with_reducible refine gate_callee (f := 10) rfl ?_); refine goesL_ (some 23) rfl rfl Try.func10 (by kernel_rfl) rfl #[.string ((a0.extract 0 ((ji8) : Int).toNat) ++ a1)] rfl (by (try simp only [List.map_toArray, List.map_cons, List.map_nil]); first | done | (simp only [hji8]; rfl) | rfl | (simp only [List.length_drop, List.length_take]; rfl)) ?_; (with_reducible refine (sixPut.calls ((a0.extract 0 ((ji8) : Int).toNat) ++ a1) t134 _ A12.out).mono ?_); rintro e w22 ⟨rfl, hb⟩; refine ⟨_, rfl, ?_⟩; have n0_ := Aside0.mk (below_step (by repeat (first | (with_reducible first | exact HB.out | apply below_alloc | apply pw_below_drewN | apply below_drew1) | exact HB.out)) hb); clear HB; have HB := n0_; clear n0_; (try clear hb); (try clear hb2); (try clear hk); (try clear hi)) | ((with_reducible refine gate_callee (f := 10) rfl ?_); refine goesL_ (some 25) rfl rfl Try.func10 (by kernel_rfl) rfl #[.string (a0.extract 0 ((ji8) : Int).toNat)] rfl (by (try simp only [List.map_toArray, List.map_cons, List.map_nil]); first | done | (simp only [hji8]; rfl) | rfl | (simp only [List.length_drop, List.length_take]; rfl)) ?_; (with_reducible refine (sixPut.calls (a0.extract 0 ((ji8) : Int).toNat) t135 _ A13.out).mono ?_); rintro e w23 ⟨rfl, hb⟩; refine ⟨_, rfl, ?_⟩; have n0_ := Aside0.mk (below_step (by repeat (first | (with_reducible first | exact HB.out | apply below_alloc | apply pw_below_drewN | apply below_drew1) | exact HB.out)) hb); clear HB; have HB := n0_; clear n0_; (try clear hb); (try clear hb2); (try clear hk); (try clear hi)) | ((with_reducible refine gate_callee (f := 10) rfl ?_); refine goesL_ (some 27) rfl rfl Try.func10 (by kernel_rfl) rfl #[.string a1] rfl (by (try simp only [List.map_toArray, List.map_cons, List.map_nil]); first | done | rfl | (simp only [List.length_drop, List.length_take]; rfl)) ?_; (with_reducible refine (sixPut.calls a1 t136 _ A14.out).mono ?_); rintro e w24 ⟨rfl, hb⟩; refine ⟨_, rfl, ?_⟩; have n0_ := Aside0.mk (below_step (by repeat (first | (with_reducible first | exact HB.out | apply below_alloc | apply pw_below_drewN | apply below_drew1) | exact HB.out)) hb); clear HB; have HB := n0_; clear n0_; (try clear hb); (try clear hb2); (try clear hk); (try clear hi)))
                  go_ret
                  exact ⟨by first | rfl | (simp [errW_none, errW_some] <;> rfl) | (simp only [← hji8]; first | rfl | (simp [errW_none, errW_some] <;> rfl)) | (simp [*, errW_none, errW_some] <;> rfl), by repeat (first | (with_reducible first | exact HB.out | apply below_alloc | apply pw_below_drewN | apply below_drew1) | exact HB.out)⟩
              · rw [if_neg c15] at H
                exact absurd H (by simp)
            · rw [if_neg c11] at H
              exact absurd H (by simp)
          · rw [if_neg c10] at H
            exact absurd H (by simp)
        · rw [if_neg c9] at H
          exact absurd H (by simp)

/-- THE ONE PURE STATEMENT of gripsacklaw3_SixtyJoins: yours. -/
def gripsacklaw3_SixtyJoins.Pure : Prop := ∀ (a0 : ByteArray) (a1 : ByteArray), a0.size ≤ 140737488351232 → a1.size ≤ 140737488351232 → ∃ k, gripsacklaw3_SixtyJoins.f k a0 a1 = some true
theorem gripsacklaw3_SixtyJoins.walk (P : gripsacklaw3_SixtyJoins.Pure) (a0 : ByteArray) (a1 : ByteArray) (w : World) (w0 : a0.size ≤ 140737488351232) (w1 : a1.size ≤ 140737488351232) :
    Calls Try.prog 5 #[.string a0, .string a1] w fun e w' => e = .returned (.bool true) ∧ Below w.heap.size w w' := by
  obtain ⟨k, h⟩ := P a0 a1 w0 w1
  refine (gripsacklaw3_SixtyJoins.calls k a0 a1 true w h).mono ?_
  rintro e w' ⟨rfl, hd⟩
  exact ⟨rfl, hd⟩

-- NOT PRINTED: function 6 (gripsacklaw3_SixtyKnown)

end Go.Proofs.Ytnakkfdopfhkcaa.GC
