/- sixty.Get walked: what whatever letters say. -/
import Derived.Test.YtnakkfdopfhkcaaDoors
namespace Go.Proofs.Ytnakkfdopfhkcaa
set_option linter.unusedVariables false
set_option linter.unusedSimpArgs false
open Go.RowKit Go.Proofs.YtnakkfdopfhkcaaW.PrintWords

theorem keepF {B b : Nat} {bs : List Value} {w w1 : World} (h : Lib.IsBuilderF 42 5 B b bs w) (g : w.grownBy w1 none) : Lib.IsBuilderF 42 5 B b bs w1 := by
  rcases h with ⟨hB, v, hbk, hown, hne⟩ | ⟨hB, v, hbk, hown, hne⟩
  · exact .inl ⟨hB, v, by rw [g.block b (Array.getElem?_eq_some_iff.1 hbk).1 (by simp)]; exact hbk, hown.kept g (by cases v.ownBlock <;> simp), hne⟩
  · exact .inr ⟨hB, v, by rw [g.block b (Array.getElem?_eq_some_iff.1 hbk).1 (by simp)]; exact hbk, hown.kept g (by cases v.ownBlock <;> simp), hne⟩
theorem getS_none {s : ByteArray} (h : decS (bytesOf s) = none) : getS s = (⟨#[]⟩, false) := by unfold getS; rw [h]
/-- The reading of one chunk more. -/
theorem decS_step (l : List Int) (h : l ≠ []) : decS l = (getL (l.take 4)).bind fun x => (decS (l.drop 4)).map fun t => x ++ t := by
  rcases l with _ | ⟨a, _ | ⟨b, _ | ⟨c, _ | ⟨d, r⟩⟩⟩⟩
  · exact absurd rfl h
  · simp [decS]
  · simp [decS]
  · simp [decS]
  · simp [decS]
theorem chunk (s : ByteArray) (i e : Nat) (he : e = min s.size (i + 4)) (hi : i < s.size) : bytesOf (s.extract i e) = ((bytesOf s).drop i).take 4 := by
  rw [bytesOf_extract, List.take_drop, he]
  by_cases h : i + 4 ≤ s.size
  · rw [Nat.min_eq_right h]
  · rw [Nat.min_eq_left (by omega), show s.size = (bytesOf s).length from (bytesOf_length s).symm, List.take_length, List.take_of_length_le (by rw [bytesOf_length]; omega)]
theorem getL_small (l x : List Int) (h : getL l = some x) : (∀ y ∈ x, 0 ≤ y ∧ y < 256) ∧ x.length ≤ 3 := by
  unfold getL at h
  cases hg : getG 0 0 3 l with
  | none => rw [hg] at h; cases h
  | some r =>
    rw [hg, Option.map_some] at h
    obtain rfl := Option.some.inj h
    refine ⟨fun y hy => ?_, ?_⟩
    · have := List.mem_of_mem_take hy
      simp only [List.mem_cons, List.not_mem_nil, or_false] at this
      rcases this with rfl | rfl | rfl <;> omega
    · unfold bytes3
      rw [List.length_take]
      simp
      omega

set_option maxHeartbeats 4000000 in
set_option maxRecDepth 100000 in
theorem get_ends (s : ByteArray) (hs : s.size ≤ 35184372088000) (w : World) : Calls Try.prog 8 #[.string s] w (GetEnd (getS s) w) := by
  have hmf : ∀ (fn : Fn) (first cap : Array Value) (w : World), (Instr.makeFunc fn first cap).run Try.prog w = .ok (.func fn first cap) w := fun _ _ _ _ => rfl
  go_enter_defers Try.func8, Try.ntmps8
  go_wp2_with fail
  generalize hg : w.heap.size = g at *
  have H0 : Aside0 (Below g w ((w.alloc (.cells #[.string ⟨#[]⟩] 9)).alloc (.cells #[.bool false] 4))) := ⟨((by rw [← hg]; exact (Below.refl _ _).alloc (Nat.le_refl _) _ : Below g w (w.alloc (.cells #[.string ⟨#[]⟩] 9)))).alloc (by simp; omega) _⟩
  have H1 : Aside0 (((w.alloc (.cells #[.string ⟨#[]⟩] 9)).alloc (.cells #[.bool false] 4)).heap[g]? = some (.cells #[.string ⟨#[]⟩] 9 (0, 0))) := ⟨by rw [← hg]; exact blk_alloc (heap_alloc_new _ _) _⟩
  have H2 : Aside0 (((w.alloc (.cells #[.string ⟨#[]⟩] 9)).alloc (.cells #[.bool false] 4)).heap[g + 1]? = some (.cells #[.bool false] 4 (0, 0))) := ⟨by rw [← hg]; have := heap_alloc_new (w.alloc (.cells #[.string ⟨#[]⟩] 9)) (.cells #[.bool false] 4); simpa using this⟩
  have H3 : ((w.alloc (.cells #[.string ⟨#[]⟩] 9)).alloc (.cells #[.bool false] 4)).heap.size = g + 2 := by simp; omega
  have HF := Aside0.mk (Bu.fresh (g + 3) ((w.alloc (.cells #[.string ⟨#[]⟩] 9)).alloc (.cells #[.bool false] 4)))
  have H4 : Aside0 ((((w.alloc (.cells #[.string ⟨#[]⟩] 9)).alloc (.cells #[.bool false] 4)).alloc (.cells #[.pointer none, .slice none 0 0] 42)).heap.size = g + 3) := ⟨by simp; omega⟩
  have H5 : Aside0 (Below (g + 2) ((w.alloc (.cells #[.string ⟨#[]⟩] 9)).alloc (.cells #[.bool false] 4)) (((w.alloc (.cells #[.string ⟨#[]⟩] 9)).alloc (.cells #[.bool false] 4)).alloc (.cells #[.pointer none, .slice none 0 0] 42))) := ⟨(Below.refl _ _).alloc (by omega) _⟩
  rw [H3] at HF
  replace H3 := Aside0.mk H3
  generalize ((w.alloc (.cells #[.string ⟨#[]⟩] 9)).alloc (.cells #[.bool false] 4)).alloc (.cells #[.pointer none, .slice none 0 0] 42) = W0 at *
  generalize (w.alloc (.cells #[.string ⟨#[]⟩] 9)).alloc (.cells #[.bool false] 4) = V0 at *
  go_loopw [5] (fun v5 wr => ∃ (acc : List Int) (i : Nat), v5 = .int .i64 i ∧ i ≤ s.size + 4 ∧ Aside0 (acc.length ≤ i) ∧ Aside0 (Bu (g + 3) (g + 2) (nums .u8 acc) wr) ∧ Aside0 (Kp (g + 3) (g + 2) W0 wr) ∧ Aside0 (∀ x ∈ acc, 0 ≤ x ∧ x < 256) ∧ Aside0 (decS (bytesOf s) = (decS ((bytesOf s).drop i)).map (acc ++ ·))) (fun v5 _ => s.size + 4 - (intOf v5).toNat)
  case atStart => exact ⟨[], 0, rfl, by omega, ⟨Nat.le_refl _⟩, HF, ⟨Kp.refl _ _ _⟩, ⟨fun x hx => by cases hx⟩, ⟨by simp⟩⟩
  case round =>
    obtain ⟨acc, i, rfl, hi, HA, HB, HP, HS, HD⟩ := hrel
    have hwz : Aside0 (g + 3 ≤ wr.heap.size) := ⟨by have := HP.out.size; have := H4.out; omega⟩
    have hB0 : Aside0 (Below (g + 2) V0 wr) := ⟨H5.out.trans (HP.out.less (g + 2) (by omega) (Nat.le_refl _))⟩
    have hb0 : Aside0 (wr.heap[g]? = some (.cells #[.string ⟨#[]⟩] 9 (0, 0))) := ⟨(hB0.out.block g (by omega)).trans H1.out⟩
    have hq0 : Aside0 (wr.heap[g + 1]? = some (.cells #[.bool false] 4 (0, 0))) := ⟨(hB0.out.block (g + 1) (by omega)).trans H2.out⟩
    have hBg : Aside0 (Below g w wr) := ⟨H0.out.trans (hB0.out.mono (by omega))⟩
    by_cases hlt : i < s.size
    · have q2 : decide ((i : Int) < (s.size : Int)) = true := decide_eq_true (by omega)
      have hw4 : wrap64 ((i : Int) + 4) = (i : Int) + 4 := by unfold wrap64; omega
      obtain ⟨e, he⟩ : ∃ e, e = min s.size (i + 4) := ⟨_, rfl⟩
      have hmin : min (s.size : Int) ((i : Int) + 4) = (e : Int) := by omega
      have q0 : (0 ≤ (i : Int)) = True := eq_true (by omega)
      have q1 : ((i : Int) ≤ (e : Int)) = True := eq_true (by omega)
      have q3 : ((e : Int) ≤ (s.size : Int)) = True := eq_true (by omega)
      have hch := Aside0.mk (chunk s i e he hlt)
      have hez : (s.extract i e).size ≤ 4 := by rw [ByteArray.size_extract]; omega
      have HQ := Aside0.mk (get4_ends (s.extract i e) hez)
      have hne : Aside0 ((bytesOf s).drop i ≠ []) := ⟨fun h => by have := congrArg List.length h; rw [List.length_drop, bytesOf_length] at this; simp at this; omega⟩
      clear hez he
      go_wp2_with fail
      cases hl : getL (((bytesOf s).drop i).take 4) with
      | none =>
        refine (HQ.out _).mono ?_
        rintro e' w1 ⟨hm, hb1⟩
        rw [hch.out, hl] at hm
        obtain ⟨n, rfl⟩ := hm
        have hw1 := hwz.out
        exact door_bad g _ _ _ w _ _ rfl rfl (blk_below hb0.out hb1) (blk_below hq0.out hb1) (below_then hBg.out (by omega) hb1) hg (getS_none (by rw [HD.out, decS_step _ hne.out, hl]; rfl))
      | some x =>
        refine (HQ.out _).mono ?_
        rintro e' w1 ⟨hm, hb1⟩
        rw [hch.out, hl] at hm
        obtain rfl := hm
        obtain ⟨hsx, hlx⟩ := getL_small _ x hl
        have hB1 := Aside0.mk (HB.out.grown (grown_of hb1))
        have hP1 := Aside0.mk (HP.out.below (hb1.mono hwz.out))
        have hs1 : Aside0 (g + 3 ≤ w1.heap.size) := ⟨Nat.le_trans hwz.out hb1.size⟩
        have HN : Aside0 (decS (bytesOf s) = (decS ((bytesOf s).drop (i + 4))).map ((acc ++ x) ++ ·)) := ⟨by
          rw [HD.out, decS_step _ hne.out, hl, Option.bind_some, List.drop_drop, Option.map_map]
          congr 1
          funext t
          simp⟩
        have HS2 : Aside0 (∀ z ∈ acc ++ x, 0 ≤ z ∧ z < 256) := ⟨fun z hz => (List.mem_append.1 hz).elim (HS.out z) (hsx z)⟩
        have HA2 : Aside0 ((acc ++ x).length ≤ i + 4) := ⟨by have := HA.out; rw [List.length_append]; omega⟩
        have HZC : Aside0 (Lib.strCells (strOfNums x) = nums .u8 x) := ⟨by rw [strCells_is, bytesOf_nums _ hsx]⟩
        have HXZ : Aside0 ((nums .u8 acc).length + (strOfNums x).size ≤ 140737488355328) := ⟨by rw [nums_length, strOfNums_size]; have := HA.out; omega⟩
        clear hsx hlx hl hb1
        go_wp2_with fail
        refine (Builder_WriteString _ _ _ _ w1 hB1.out HXZ.out hs1.out).mono ?_
        rintro e' w3 ⟨rfl, hB3, hP3⟩
        rw [HZC.out, ← nums_append] at hB3
        have HB3 := Aside0.mk hB3
        have HP3 := Aside0.mk (hP1.out.trans hP3)
        clear hB3 hP3
        go_wp2_with fail
        go_roundw
        case rel => exact ⟨acc ++ x, i + 4, by go_num, by omega, HA2, HB3, HP3, HS2, HN⟩
        case measure => simp [intOf]; omega
    · have q2 : decide ((i : Int) < (s.size : Int)) = false := decide_eq_false (by omega)
      have hD2 : decS (bytesOf s) = some acc := by rw [HD.out, show (bytesOf s).drop i = [] from List.drop_eq_nil_of_le (by rw [bytesOf_length]; omega)]; simp [decS]
      have HEE : Aside0 (getS s = if sixL acc = bytesOf s then (strOfNums acc, true) else (⟨#[]⟩, false)) := ⟨by unfold getS; rw [hD2]⟩
      have hesc : sixB (strOfNums acc) = strOfNums (sixL acc) := by unfold sixB; rw [bytesOf_nums acc HS.out]
      have hP := Aside0.mk (fun w => put_calls (strOfNums acc) (by rw [strOfNums_size]; have := HA.out; omega) w)
      rw [hesc] at hP
      have hqs : Aside0 (sixL acc = bytesOf s ↔ strOfNums (sixL acc) = s) := ⟨⟨fun h => by rw [h, nums_bytesOf], fun h => by rw [← h, bytesOf_nums _ (sixL_small _ _ (Nat.le_refl _))]⟩⟩
      clear hD2 hesc
      generalize strOfNums (sixL acc) = q at *
      have hbu := HB.out.lib (g + 2) (by omega) (Nat.le_refl _)
      rw [← byteCells_nums acc HS.out] at hbu
      have HT := Aside0.mk (fun w1 h1 h2 => Builder_String_any_f (g + 2) (g + 2) (acc.map fun n => UInt8.ofNat n.toNat) w1 h1 h2)
      have HI := Aside0.mk (Lib.IsBuilderF.of hbu)
      clear hbu
      go_wp2_with fail
      refine (HT.out wr HI.out (by have := hwz.out; omega)).mono ?_
      rintro e' w1 ⟨rfl, hI1, hb1⟩
      have HI1 := Aside0.mk hI1
      have hs1 : Aside0 (g + 3 ≤ w1.heap.size) := ⟨Nat.le_trans hwz.out hb1.size⟩
      have hb2 : Aside0 (w1.heap[g]? = some (.cells #[.string ⟨#[]⟩] 9 (0, 0))) := ⟨(hb1.block g (by omega)).trans hb0.out⟩
      have hq2 : Aside0 (w1.heap[g + 1]? = some (.cells #[.bool false] 4 (0, 0))) := ⟨(hb1.block (g + 1) (by omega)).trans hq0.out⟩
      have hBg2 : Aside0 (Below g w w1) := ⟨hBg.out.trans (hb1.mono (by omega))⟩
      clear hI1 hb1 HI
      go_wp2_with fail
      refine (hP.out w1).mono ?_
      rintro e' w5 ⟨rfl, hb5⟩
      have HI5 := Aside0.mk (keepF HI1.out (grown_of hb5))
      have hs5 : Aside0 (g + 3 ≤ w5.heap.size) := ⟨Nat.le_trans hs1.out hb5.size⟩
      have HB5 := Aside0.mk (below_then hBg2.out (by have := hs1.out; omega) hb5)
      have hb6 := Aside0.mk (blk_below hb2.out hb5)
      have hq6 := Aside0.mk (blk_below hq2.out hb5)
      have c0 : w5.cell? ⟨g, 0, none⟩ = some (.string ⟨#[]⟩) := (blk_cell hb6.out 0).trans rfl
      have d0 : w5.cell? ⟨g + 1, 0, none⟩ = some (.bool false) := (blk_cell hq6.out 0).trans rfl
      have z0 := blk_frozen hb6.out 0
      have z1 := blk_frozen hq6.out 0
      clear hb5 hP HI1 hBg2 hb2 hq2
      by_cases hq : q = s
      · have k1 : (q.toList == s.toList) = true := beq_iff_eq.mpr (toList_inj.2 hq)
        have HEQ : Aside0 (getS s = (strOfNums acc, true)) := ⟨by rw [HEE.out, if_pos (hqs.out.2 hq)]⟩
        clear hq
        go_wp2_with fail
        refine (HT.out w5 HI5.out (by have := hs5.out; omega)).mono ?_
        rintro e' w6 ⟨rfl, hI6, hb7⟩
        have hb8 := Aside0.mk ((hb7.block g (by omega)).trans hb6.out)
        have hq8 := Aside0.mk ((hb7.block (g + 1) (by omega)).trans hq6.out)
        have HB8 := Aside0.mk (HB5.out.trans (hb7.mono (by omega)))
        clear hI6 hb7 HT HI5 c0 d0 z0 z1
        have c0 : w6.cell? ⟨g, 0, none⟩ = some (.string ⟨#[]⟩) := (blk_cell hb8.out 0).trans rfl
        have d0 : w6.cell? ⟨g + 1, 0, none⟩ = some (.bool false) := (blk_cell hq8.out 0).trans rfl
        have z0 := blk_frozen hb8.out 0
        have z1 := blk_frozen hq8.out 0
        go_wp2_with fail
        exact door_idle g (strOfNums acc) true w _ _ rfl rfl (blk_far (blk_set hb8.out 0 _) (p := ⟨g + 1, 0, none⟩) (by simp) _) (blk_set (blk_far hq8.out (p := ⟨g, 0, none⟩) (by simp) _) 0 _) ((HB8.out.setCell (p := ⟨g, 0, none⟩) (Nat.le_refl _) _).setCell (p := ⟨g + 1, 0, none⟩) (Nat.le_succ _) _) hg HEQ.out
      · have k1 : (q.toList == s.toList) = false := beq_eq_false_iff_ne.mpr (fun h => hq (toList_inj.1 h))
        have HEQ : Aside0 (getS s = (⟨#[]⟩, false)) := ⟨by rw [HEE.out, if_neg (fun h => hq (hqs.out.1 h))]⟩
        clear hq
        go_wp2_with fail
        exact door_idle g ⟨#[]⟩ false w _ _ rfl rfl (blk_far (blk_set hb6.out 0 _) (p := ⟨g + 1, 0, none⟩) (by simp) _) (blk_set (blk_far hq6.out (p := ⟨g, 0, none⟩) (by simp) _) 0 _) ((HB5.out.setCell (p := ⟨g, 0, none⟩) (Nat.le_refl _) _).setCell (p := ⟨g + 1, 0, none⟩) (Nat.le_succ _) _) hg HEQ.out
/-! ### As the callers' walks want them -/
def sixPut.f (a0 : ByteArray) : Option ByteArray := if a0.size ≤ 35184372088832 then some (sixB a0) else none
theorem sixPut.calls (a0 : ByteArray) (r : ByteArray) (w : World) (h : sixPut.f a0 = some r) : Calls Try.prog 10 #[.string a0] w fun e w' => e = .returned (.string r) ∧ Below w.heap.size w w' := by
  unfold sixPut.f at h
  split at h
  · rename_i hs
    obtain rfl := Option.some.inj h
    exact put_calls a0 hs w
  · cases h
def sixGet.f (a0 : ByteArray) : Option (ByteArray × Bool) := if a0.size ≤ 35184372088000 then some (getS a0) else none
theorem sixGet.calls (a0 : ByteArray) (r1 : ByteArray) (r2 : Bool) (w : World) (h : sixGet.f a0 = some (r1, r2)) : Calls Try.prog 8 #[.string a0] w fun e w' => e = .returned (.tuple #[.string r1, .bool r2]) ∧ Below w.heap.size w w' := by
  unfold sixGet.f at h
  split at h
  · rename_i hs
    have h := Option.some.inj h
    refine (get_ends a0 hs w).mono fun e w' ⟨he, hw⟩ => ⟨?_, hw⟩
    rw [he, h]
  · cases h
end Go.Proofs.Ytnakkfdopfhkcaa
