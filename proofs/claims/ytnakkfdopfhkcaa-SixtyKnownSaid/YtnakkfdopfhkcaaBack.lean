/- SixtyBack walked: bytes are told again by their letters; with one turned other ones, or none; of each three bytes four letters. -/
import Derived.Test.YtnakkfdopfhkcaaLaws
import Derived.Test.YtnakkfdopfhkcaaGCx1
import Derived.OpenShut
namespace Go.Proofs.Ytnakkfdopfhkcaa
set_option linter.unusedVariables false
set_option linter.unusedSimpArgs false
open Go.RowKit Go.Proofs.YtnakkfdopfhkcaaW.PrintWords

theorem awake_true : GC.gripsacklaw3_awake.f = some true := by decide +kernel
theorem awake_calls (w : World) : Calls Try.prog 7 #[] w fun e w' => e = .returned (.bool true) ∧ Below w.heap.size w w' := GC.gripsacklaw3_awake.calls true w awake_true
theorem bytes_thaw (W : World) (e : TypeId) (s : ByteArray) (j : Nat) (hj : j < s.size) : (Lib.bytesWorld W e s).frozen? ⟨W.heap.size, j, none⟩ = false := by
  have h := Lib.bytesWorld_at_new W e s
  have hl : s.size ≤ (Lib.bytesCells W e s).size := by unfold Lib.bytesCells; rw [Array.size_append, Array.size_map]; exact Nat.le_add_right _ _
  unfold World.frozen?
  rw [h]
  simp
  omega
/-- A byte of []byte(s) turned: what is read there. -/
theorem reads_set {W : World} {g n : Nat} {xs : List Int} (h : ReadsInt W .u8 (some ⟨g, 0, none⟩) n xs) (j : Nat) (hj : j < n) (x : Int) : ReadsInt (W.setCell ⟨g, j, none⟩ (.int .u8 x)) .u8 (some ⟨g, 0, none⟩) n (xs.set j x) := by
  obtain ⟨h1, h2, h3⟩ := h
  refine ⟨by rw [List.length_set]; exact h1, h2, fun hn => ⟨_, rfl, fun i hi => ?_⟩⟩
  obtain ⟨ad, e, hc⟩ := h3 hn
  obtain rfl := (Option.some.inj e).symm
  by_cases hij : i = j
  · subst hij
    have := hc i hi
    rw [add_plain] at this ⊢
    rw [World.cell?_setCell_same W _ _ this]
    simp [List.getD_eq_getElem?_getD, List.getElem?_set_self (show i < xs.length by omega)]
  · have := hc i hi
    rw [add_plain] at this ⊢
    rw [World.cell?_setCell_other W _ _ _ (by intro hc; injection hc with _ hc; omega), this]
    simp [List.getD_eq_getElem?_getD, List.getElem?_set_ne (Ne.symm hij)]
/-- One sign more is none. -/
theorem getS_more (s : ByteArray) : getS (sixB s ++ ⟨#[61]⟩) = (⟨#[]⟩, false) := by
  apply getS_not
  intro t h
  have h1 := congrArg ByteArray.size h
  rw [ByteArray.size_append, sixB_size, sixB_size] at h1
  have : (⟨#[61]⟩ : ByteArray).size = 1 := rfl
  omega
set_option maxHeartbeats 4000000 in
set_option maxRecDepth 100000 in
theorem back_far (s : ByteArray) (a b : Int) (hs : 300 < s.size) (w : World) : Calls Try.prog 4 #[.string s, .int .u16 a, .int .u8 b] w fun e w' => e = .returned (.bool true) ∧ Below w.heap.size w w' := by
  have q0 : decide ((s.size : Int) > 300) = true := decide_eq_true (by omega)
  go_enter Try.func4, Try.ntmps4
  go_wp2_with fail
  refine (awake_calls _).mono ?_
  rintro e w1 ⟨rfl, hb⟩
  have HB := Aside0.mk hb
  clear hb
  go_wp2_with fail
  go_ret
  exact ⟨rfl, HB.out⟩
set_option maxHeartbeats 8000000 in
set_option maxRecDepth 100000 in
theorem back_near (s : ByteArray) (a b : Int) (a0 : 0 ≤ a) (a1 : a ≤ 65535) (b0 : 0 ≤ b) (b1 : b ≤ 255) (hs : s.size ≤ 300) (w : World) : Calls Try.prog 4 #[.string s, .int .u16 a, .int .u8 b] w fun e w' => e = .returned (.bool true) ∧ Below w.heap.size w w' := by
  have q0 : decide ((s.size : Int) > 300) = false := decide_eq_false (by omega)
  have HP := Aside0.mk (put_calls s (by omega))
  have hz := sixB_size s
  have HG1 := Aside0.mk (get_ends (sixB s) (by omega))
  rw [getS_sixB] at HG1
  have HG2 := Aside0.mk (get_ends (sixB s ++ ⟨#[61]⟩) (by rw [ByteArray.size_append]; show (sixB s).size + 1 ≤ _; omega))
  rw [getS_more] at HG2
  have HAW := Aside0.mk awake_calls
  have hql : ((s.size : Int) + 2) / 3 * 4 = ((sixB s).size : Int) := by omega
  have hqm : (sixB s).size ≤ 404 := by omega
  by_cases h0 : (sixB s).size = 0
  · have hs0 : s = ⟨#[]⟩ := ByteArray.ext (Array.eq_empty_of_size_eq_zero (by show s.size = 0; omega))
    subst hs0
    have he : sixB ⟨#[]⟩ = ⟨#[]⟩ := by decide +kernel
    rw [he] at HP HG1 HG2
    clear hz h0 hqm hql hs q0
    go_enter Try.func4, Try.ntmps4
    go_wp2_with fail
    refine (HP.out _).mono ?_
    rintro e w1 ⟨rfl, hb⟩
    have B1 := Aside0.mk hb
    clear hb
    go_wp2_with fail
    refine (HG1.out _).mono ?_
    rintro e w2 ⟨rfl, hb⟩
    have B2 := Aside0.mk (below_then B1.out B1.out.size hb)
    clear hb B1
    go_wp2_with fail
    refine (HG2.out _).mono ?_
    rintro e w3 ⟨rfl, hb⟩
    have B3 := Aside0.mk (below_then B2.out B2.out.size hb)
    clear hb B2
    go_wp2_with fail
    refine (HAW.out _).mono ?_
    rintro e w4 ⟨rfl, hb⟩
    have B4 := Aside0.mk (below_then B3.out B3.out.size hb)
    clear hb B3
    go_wp2_with fail
    go_ret
    exact ⟨rfl, B4.out⟩
  · generalize hq : sixB s = q at *
    have hq0 : ((q.size : Int) == 0) = false := beq_eq_false_iff_ne.mpr (by omega)
    have hqe : (q.toList == []) = false := beq_eq_false_iff_ne.mpr (toList_nil h0)
    have hqe2 : q.toList.isEmpty = false := by simpa using toList_nil h0
    obtain ⟨j, hj⟩ : ∃ j : Nat, (j : Int) = a % (q.size : Int) := ⟨(a % (q.size : Int)).toNat, Int.toNat_of_nonneg (Int.emod_nonneg _ (by omega))⟩
    have hjq : j < q.size := by have := Int.emod_lt_of_pos a (show 0 < (q.size : Int) by omega); omega
    have kb := fun W => print_bytes (P := Try.prog) 9 31 5 Try.underlying9 Try.underlying31 Try.underlying5 q W
    have HT0 := Aside0.mk (get_ends (strOfNums ((bytesOf q).set j b)) (by rw [strOfNums_size, List.length_set, bytesOf_length]; omega))
    have hT : strOfNums ((bytesOf q).set j b) = q ∨ (¬ strOfNums ((bytesOf q).set j b) = q ∧ ((getS (strOfNums ((bytesOf q).set j b))).2 = false ∨ ((getS (strOfNums ((bytesOf q).set j b))).2 = true ∧ ¬ (getS (strOfNums ((bytesOf q).set j b))).1 = s))) := by
      by_cases h : strOfNums ((bytesOf q).set j b) = q
      · exact .inl h
      · refine .inr ⟨h, ?_⟩
        cases ho : (getS (strOfNums ((bytesOf q).set j b))).2 with
        | false => exact .inl rfl
        | true =>
          refine .inr ⟨rfl, fun e => h ?_⟩
          have := (getS_iff _ _).1 (show getS (strOfNums ((bytesOf q).set j b)) = (s, true) from Prod.ext e ho)
          rw [← this, hq]
    clear hz
    go_enter Try.func4, Try.ntmps4
    go_wp2_with fail
    refine (HP.out _).mono ?_
    rintro e w1 ⟨rfl, hb⟩
    have B1 := Aside0.mk hb
    clear hb
    go_wp2_with fail
    refine (HG1.out _).mono ?_
    rintro e w2 ⟨rfl, hb⟩
    have B2 := Aside0.mk (below_then B1.out B1.out.size hb)
    clear hb B1
    go_wp2_with fail
    refine (HG2.out _).mono ?_
    rintro e w3 ⟨rfl, hb⟩
    have B3 := Aside0.mk (below_then B2.out B2.out.size hb)
    clear hb B2
    have hrd := Aside0.mk (bytes_reads w3 5 q (by omega))
    have hzf := bytes_thaw w3 5 q j hjq
    have hcl : (Lib.bytesWorld w3 5 q).cell? ⟨w3.heap.size, j, none⟩ = some (.int .u8 (bt q j)) := by
      obtain ⟨ad, e1, hc⟩ := hrd.out.at_ (j : Int) (Int.natCast_nonneg _) (by omega)
      obtain rfl := Option.some.inj e1
      rw [add_plain, rd_bytesOf] at hc
      simpa using hc
    have hst := fun c => string_of_reads (P := Try.prog) (src := 31) (dst := 9) (c := c) Try.underlying31 Try.underlying5 Try.underlying9 (reads_set hrd.out j hjq b)
    have hrs := Aside0.mk (reads_set hrd.out j hjq b)
    have B4 := Aside0.mk ((bytes_below B3.out B3.out.size 5 q).setCell (p := ⟨w3.heap.size, j, none⟩) B3.out.size (.int .u8 b))
    clear hrd B3
    have hw : wrap64 a = a := by unfold wrap64; omega
    have hqs : ((q.size : Int) = 0) = False := eq_false (by omega)
    have hjr := hj.symm
    have hj0 : (0 ≤ (j : Int)) = True := eq_true (by omega)
    have hj1 : ((j : Int) < (q.size : Int)) = True := eq_true (by omega)
    clear hj
    go_wp2_with fail
    refine (HT0.out _).mono ?_
    rintro e w5 ⟨rfl, hb⟩
    have hst5 := fun c => string_of_reads (P := Try.prog) (src := 31) (dst := 9) (c := c) Try.underlying31 Try.underlying5 Try.underlying9 (hrs.out.below hb)
    have B5 := Aside0.mk (below_then B4.out B4.out.size hb)
    clear hb B4 hrs hst hcl hzf kb HT0
    generalize strOfNums ((bytesOf q).set j b) = T at *
    generalize (getS T).1 = y at *
    generalize (getS T).2 = is at *
    rcases hT with hT | ⟨hT, hT2 | ⟨hT2, hT3⟩⟩
    · have k0 : (T.toList == q.toList) = true := beq_iff_eq.mpr (toList_inj.2 hT)
      clear hT
      go_wp2_with fail
      refine (HAW.out _).mono ?_
      rintro e w6 ⟨rfl, hb⟩
      have B6 := Aside0.mk (below_then B5.out B5.out.size hb)
      clear hb B5
      go_wp2_with fail
      go_ret
      exact ⟨rfl, B6.out⟩
    · have k0 : (T.toList == q.toList) = false := beq_eq_false_iff_ne.mpr (fun h => hT (toList_inj.1 h))
      subst hT2
      clear hT
      go_wp2_with fail
      refine (HAW.out _).mono ?_
      rintro e w6 ⟨rfl, hb⟩
      have B6 := Aside0.mk (below_then B5.out B5.out.size hb)
      clear hb B5
      go_wp2_with fail
      go_ret
      exact ⟨rfl, B6.out⟩
    · have k0 : (T.toList == q.toList) = false := beq_eq_false_iff_ne.mpr (fun h => hT (toList_inj.1 h))
      have k1 : (y.toList == s.toList) = false := beq_eq_false_iff_ne.mpr (fun h => hT3 (toList_inj.1 h))
      have k2 : (y.toList != s.toList) = true := by rw [bne, k1]; rfl
      subst hT2
      clear hT hT3
      go_wp2_with fail
      refine (HAW.out _).mono ?_
      rintro e w6 ⟨rfl, hb⟩
      have B6 := Aside0.mk (below_then B5.out B5.out.size hb)
      clear hb B5
      go_wp2_with fail
      go_ret
      exact ⟨rfl, B6.out⟩
theorem sixty_back (s : ByteArray) (a b : Int) (w : World) (h0 : s.size ≤ 140737488351232) (h1 : (Lit.int .u16 a).wf = true) (h2 : (Lit.int .u8 b).wf = true) : Calls Try.prog 4 #[.string s, .int .u16 a, .int .u8 b] w fun e w' => e = .returned (.bool true) ∧ Below w.heap.size w w' := by
  obtain ⟨a0, a1⟩ := bounds_u16 h1
  obtain ⟨b0, b1⟩ := bounds_u8 h2
  by_cases h : s.size ≤ 300
  · exact back_near s a b a0 a1 b0 b1 h w
  · exact back_far s a b (by omega) w
end Go.Proofs.Ytnakkfdopfhkcaa
