/- escape.Get walked: what whatever bytes say. -/
import Derived.Test.YtkojlnjhndnfkaaDoors
namespace Go.Proofs.Ytkojlnjhndnfkaa
set_option linter.unusedVariables false
set_option linter.unusedSimpArgs false
open Go.RowKit Go.Proofs.YtkojlnjhndnfkaaW.PrintWords

/-! ### What decL does, sign by sign -/
theorem decL_plain (c : Int) (l : List Int) (h : ¬ c = 37) : decL (c :: l) = (decL l).map fun t => c :: t := by
  rcases l with _ | ⟨a, _ | ⟨b, r⟩⟩ <;> simp [decL, h]
theorem decL_none1 : decL [37] = none := by simp [decL]
theorem decL_none2 (a : Int) : decL [37, a] = none := by simp [decL]
theorem decL_bad1 (a : Int) (l : List Int) (h : dv a = none) : decL (37 :: a :: l) = none := by
  cases l with
  | nil => exact decL_none2 a
  | cons b r => rw [decL, if_pos rfl, h]; rfl
theorem decL_bad2 (a b : Int) (l : List Int) (h : dv b = none) : decL (37 :: a :: b :: l) = none := by
  rw [decL, if_pos rfl, h]
  cases dv a <;> rfl
theorem decL_sign (a b x y : Int) (l : List Int) (ha : dv a = some x) (hb : dv b = some y) : decL (37 :: a :: b :: l) = (decL l).map fun t => (x * 16 + y) :: t := by
  rw [decL, if_pos rfl, ha, hb]
  rfl
theorem or16 (x y : Int) (x0 : 0 ≤ x) (x1 : x < 16) (y0 : 0 ≤ y) (y1 : y < 16) : Go.bits .or .u8 (x * 16) y = x * 16 + y := by
  have hw : ∀ n : Int, 0 ≤ n → n < 2 ^ 8 → IntKind.u8.wrap n = n := by
    intro n a b
    simp only [IntKind.wrap, IntKind.bits, IntKind.signed]
    simp
    omega
  exact bits_join .u8 8 (by decide) hw 4 (x * 16) y (by omega) (by omega) (by omega) y0 (by omega) (by omega)
theorem drop_end (s : ByteArray) (i : Nat) (h : s.size ≤ i) : (bytesOf s).drop i = [] := List.drop_eq_nil_of_le (by rw [bytesOf_length]; exact h)
theorem map_map_app (acc : List Int) (c : Int) (o : Option (List Int)) : (o.map fun t => c :: t).map (acc ++ ·) = o.map ((acc ++ [c]) ++ ·) := by cases o <;> simp
theorem toList_inj {a b : ByteArray} : a.toList = b.toList ↔ a = b := by
  constructor
  · intro h
    rw [ByteArray.toList_eq, ByteArray.toList_eq] at h
    exact ByteArray.ext (Array.ext' h)
  · intro h; rw [h]
theorem getE_none {s : ByteArray} (h : decL (bytesOf s) = none) : getE s = (⟨#[]⟩, false) := by unfold getE; rw [h]

set_option maxHeartbeats 4000000 in
set_option maxRecDepth 100000 in
theorem get_ends (s : ByteArray) (hs : s.size ≤ 35184372088832) (w : World) : Calls Try.prog 7 #[.string s] w (GetEnd (getE s) w) := by
  have hmf : ∀ (fn : Fn) (first cap : Array Value) (w : World), (Instr.makeFunc fn first cap).run Try.prog w = .ok (.func fn first cap) w := fun _ _ _ _ => rfl
  go_enter_defers Try.func7, Try.ntmps7
  go_wp2_with fail
  generalize hg : w.heap.size = g at *
  have H0 : Aside0 (Below g w ((w.alloc (.cells #[.string ⟨#[]⟩] 9)).alloc (.cells #[.bool false] 4))) := ⟨((by rw [← hg]; exact (Below.refl _ _).alloc (Nat.le_refl _) _ : Below g w (w.alloc (.cells #[.string ⟨#[]⟩] 9)))).alloc (by simp; omega) _⟩
  have H1 : Aside0 (((w.alloc (.cells #[.string ⟨#[]⟩] 9)).alloc (.cells #[.bool false] 4)).heap[g]? = some (.cells #[.string ⟨#[]⟩] 9 (0, 0))) := ⟨by rw [← hg]; exact blk_alloc (heap_alloc_new _ _) _⟩
  have H2 : Aside0 (((w.alloc (.cells #[.string ⟨#[]⟩] 9)).alloc (.cells #[.bool false] 4)).heap[g + 1]? = some (.cells #[.bool false] 4 (0, 0))) := ⟨by rw [← hg]; have := heap_alloc_new (w.alloc (.cells #[.string ⟨#[]⟩] 9)) (.cells #[.bool false] 4); simpa using this⟩
  have H3 : Aside0 (((w.alloc (.cells #[.string ⟨#[]⟩] 9)).alloc (.cells #[.bool false] 4)).heap.size = g + 2) := ⟨by simp; omega⟩
  generalize (w.alloc (.cells #[.string ⟨#[]⟩] 9)).alloc (.cells #[.bool false] 4) = W0 at *
  go_loopw [4, 5] (fun v4 v5 wr => ∃ (acc : List Int) (i : Nat), v5 = .int .i64 i ∧ i ≤ s.size ∧ Aside0 (acc.length ≤ i) ∧ Aside0 (wr.ownsRow (g + 2) 5 1 v4 acc.length (nums .u8 acc)) ∧ Aside0 (Below (g + 2) W0 wr) ∧ Aside0 (∀ x ∈ acc, 0 ≤ x ∧ x < 256) ∧ Aside0 (decL (bytesOf s) = (decL ((bytesOf s).drop i)).map (acc ++ ·))) (fun _ v5 _ => s.size - (intOf v5).toNat)
  case atStart => exact ⟨[], 0, rfl, by omega, ⟨Nat.le_refl _⟩, ⟨own_nil _ _ _ _⟩, ⟨Below.refl _ _⟩, ⟨fun x hx => by cases hx⟩, ⟨by simp⟩⟩
  case round =>
    obtain ⟨acc, i, rfl, hi, HA, HO, HB, HS, HD⟩ := hrel
    have hbd : Aside0 ((acc.length + 1) * 1 ≤ 140737488355328) := ⟨by have := HA.out; omega⟩
    have hwz : Aside0 (g + 2 ≤ wr.heap.size) := ⟨by have := HB.out.size; have := H3.out; omega⟩
    have hb0 : Aside0 (wr.heap[g]? = some (.cells #[.string ⟨#[]⟩] 9 (0, 0))) := ⟨(HB.out.block g (by omega)).trans H1.out⟩
    have hq0 : Aside0 (wr.heap[g + 1]? = some (.cells #[.bool false] 4 (0, 0))) := ⟨(HB.out.block (g + 1) (by omega)).trans H2.out⟩
    have hB0 : Aside0 (Below g w wr) := ⟨H0.out.trans (HB.out.mono (by omega))⟩
    by_cases hlt : i < s.size
    · have q0 : (0 ≤ (i : Int)) = True := eq_true (by omega)
      have q1 : ((i : Int) < (s.size : Int)) = True := eq_true (by omega)
      have q2 : decide ((i : Int) < (s.size : Int)) = true := decide_eq_true (by omega)
      have hx : ∀ h : i < s.size, ((s[i]'h).toNat : Int) = bt s i := fun h => bt_at s i (by simpa using h)
      have hcr := bt_range s i
      have hdr := Aside0.mk (bytesOf_drop s i hlt)
      generalize bt s i = c at *
      have hc0 : 0 ≤ c := hcr.1
      have hc1 : c ≤ 255 := hcr.2
      clear hcr
      have hw1 : wrap64 ((i : Int) + 1) = (i : Int) + 1 := by unfold wrap64; omega
      have hw2 : wrap64 ((i : Int) + 2) = (i : Int) + 2 := by unfold wrap64; omega
      by_cases h37 : c = 37
      · have k37 : (c == 37) = true := beq_iff_eq.mpr h37
        have hdr2 : Aside0 ((bytesOf s).drop i = 37 :: (bytesOf s).drop (i + 1)) := ⟨by rw [hdr.out, h37]⟩
        clear hdr h37
        go_wp2_with fail
        by_cases hl1 : i + 1 < s.size
        · have hdr3 : Aside0 ((bytesOf s).drop (i + 1) = bt s ((i : Int) + 1) :: (bytesOf s).drop (i + 1 + 1)) := ⟨bytesOf_drop s (i + 1) hl1⟩
          cases hd1 : dv (bt s ((i : Int) + 1)) with
          | none =>
            refine (value_bad s ((i : Int) + 1) (by omega) (by omega) hd1 _).mono ?_
            rintro e w1 ⟨rfl, rfl⟩
            exact door_bad g _ _ _ w _ _ rfl rfl hb0.out hq0.out hB0.out hg (getE_none (by rw [HD.out, hdr2.out, hdr3.out, decL_bad1 _ _ hd1]; rfl))
          | some x =>
            obtain ⟨x0, x1⟩ := dv_range _ _ hd1
            refine (value_some s ((i : Int) + 1) x (by omega) (by omega) hd1 _).mono ?_
            rintro e w1 ⟨rfl, rfl⟩
            have hsh : IntKind.u8.wrap (x * 16) = x * 16 := by simp only [IntKind.wrap, IntKind.bits, IntKind.signed]; simp; omega
            have hsh2 : x * 16 % 256 = x * 16 := by omega
            go_wp2_with fail
            by_cases hl2 : i + 2 < s.size
            · have hdr4 : Aside0 ((bytesOf s).drop (i + 1 + 1) = bt s ((i : Int) + 2) :: (bytesOf s).drop (i + 3)) := ⟨by rw [show (i : Int) + 2 = ((i + 1 + 1 : Nat) : Int) from by omega]; exact bytesOf_drop s (i + 1 + 1) hl2⟩
              cases hd2 : dv (bt s ((i : Int) + 2)) with
              | none =>
                refine (value_bad s ((i : Int) + 2) (by omega) (by omega) hd2 _).mono ?_
                rintro e w1 ⟨rfl, rfl⟩
                exact door_bad g _ _ _ w _ _ rfl rfl hb0.out hq0.out hB0.out hg (getE_none (by rw [HD.out, hdr2.out, hdr3.out, hdr4.out, decL_bad2 _ _ _ hd2]; rfl))
              | some y =>
                obtain ⟨y0, y1⟩ := dv_range _ _ hd2
                refine (value_some s ((i : Int) + 2) y (by omega) (by omega) hd2 _).mono ?_
                rintro e w1 ⟨rfl, rfl⟩
                obtain ⟨d, hd⟩ : ∃ d, d = x * 16 + y := ⟨_, rfl⟩
                have HOR : Aside0 (Go.bits .or .u8 (x * 16) y = d) := ⟨(or16 x y x0 x1 y0 y1).trans hd.symm⟩
                have hw3 : wrap64 ((i : Int) + 2 + 1) = (i : Int) + 3 := by unfold wrap64; omega
                have HN : Aside0 (decL (bytesOf s) = (decL ((bytesOf s).drop (i + 3))).map ((acc ++ [d]) ++ ·)) := ⟨by rw [HD.out, hdr2.out, hdr3.out, hdr4.out, decL_sign _ _ x y _ hd1 hd2, hd, map_map_app]⟩
                have hd0 : 0 ≤ d ∧ d < 256 := by omega
                have HS2 : Aside0 (∀ z ∈ acc ++ [d], 0 ≤ z ∧ z < 256) := ⟨by
                  intro z hz
                  rcases List.mem_append.1 hz with hz | hz
                  · exact HS.out z hz
                  · rw [List.mem_singleton] at hz; rw [hz]; exact hd0⟩
                have HA2 : Aside0 ((acc ++ [d]).length ≤ i + 3) := ⟨by rw [List.length_append, List.length_singleton]; exact Nat.le_trans (Nat.succ_le_succ HA.out) (Nat.le_add_right (i + 1) 2)⟩
                have hor := HOR.out
                clear hsh hsh2
                clear x0 x1 y0 y1 hd1 hd2 hd hd0 HOR
                go_wp2_with (at_builtin; refine print_append_num (W := wr) (w0 := W0) (g + 2) rfl (.tmp 31) (.tmp 33) 30 5 .u8 1 rfl Try.underlying30 GB.info5 (by decide) u4 acc d rfl rfl HO.out HB.out hwz.out hbd.out ?_)
                rintro v1 w2 hown hB2 hg2 -
                go_wp2_with fail
                clear hor hw1 hw2 hw3 q0 q1 q2 hc0 hc1 hs
                go_roundw
                case rel => exact ⟨acc ++ [d], i + 3, by go_num, hl2, HA2, ⟨by rw [show (acc ++ [d]).length = acc.length + 1 from by simp]; exact hown⟩, ⟨hB2⟩, HS2, HN⟩
                case measure => simp [intOf]; omega
            · refine (value_far s ((i : Int) + 2) (by omega) _).mono ?_
              rintro e w1 ⟨rfl, rfl⟩
              exact door_bad g _ _ _ w _ _ rfl rfl hb0.out hq0.out hB0.out hg (getE_none (by rw [HD.out, hdr2.out, hdr3.out, drop_end s (i + 1 + 1) (by omega), decL_none2]; rfl))
        · refine (value_far s ((i : Int) + 1) (by omega) _).mono ?_
          rintro e w1 ⟨rfl, rfl⟩
          exact door_bad g _ _ _ w _ _ rfl rfl hb0.out hq0.out hB0.out hg (getE_none (by rw [HD.out, hdr2.out, drop_end s (i + 1) (by omega), decL_none1]; rfl))
      · have k37 : (c == 37) = false := beq_eq_false_iff_ne.mpr h37
        have HN : Aside0 (decL (bytesOf s) = (decL ((bytesOf s).drop (i + 1))).map ((acc ++ [c]) ++ ·)) := ⟨by rw [HD.out, hdr.out, decL_plain c _ h37, map_map_app]⟩
        have HS2 : Aside0 (∀ z ∈ acc ++ [c], 0 ≤ z ∧ z < 256) := ⟨by
          intro z hz
          rcases List.mem_append.1 hz with hz | hz
          · exact HS.out z hz
          · simp at hz; omega⟩
        have HA2 : Aside0 ((acc ++ [c]).length ≤ i + 1) := ⟨by have := HA.out; rw [List.length_append, List.length_singleton]; omega⟩
        clear h37
        go_wp2_with (at_builtin; refine print_append_num (W := wr) (w0 := W0) (g + 2) rfl (.tmp 31) (.tmp 33) 30 5 .u8 1 rfl Try.underlying30 GB.info5 (by decide) u4 acc c rfl rfl HO.out HB.out hwz.out hbd.out ?_)
        rintro v1 w2 hown hB2 hg2 -
        go_wp2_with fail
        go_roundw
        case rel => exact ⟨acc ++ [c], i + 1, by go_num, by omega, HA2, ⟨by rw [show (acc ++ [c]).length = acc.length + 1 from by simp]; exact hown⟩, ⟨hB2⟩, HS2, HN⟩
        case measure => simp [intOf]; omega
    · have q2 : decide ((i : Int) < (s.size : Int)) = false := decide_eq_false (by omega)
      have hD2 : decL (bytesOf s) = some acc := by rw [HD.out, drop_end s i (by omega)]; simp [decL]
      have hE : getE s = if escL acc = bytesOf s then (strOfNums acc, true) else (⟨#[]⟩, false) := by unfold getE; rw [hD2]
      have hesc : escB (strOfNums acc) = strOfNums (escL acc) := by unfold escB; rw [bytesOf_nums acc HS.out]
      have hP := Aside0.mk (fun w => put_calls (strOfNums acc) (by rw [strOfNums_size]; have := HA.out; omega) w)
      rw [hesc] at hP
      have HEE := Aside0.mk hE
      have hcv := own_string (P := Try.prog) Try.underlying30 Try.underlying5 Try.underlying9 HO.out
      have hqs : Aside0 (escL acc = bytesOf s ↔ strOfNums (escL acc) = s) := ⟨⟨fun h => by rw [h, nums_bytesOf], fun h => by rw [← h, bytesOf_nums _ (escL_small acc HS.out)]⟩⟩
      clear hD2 hE hesc
      generalize strOfNums (escL acc) = q at *
      go_wp2_with fail
      refine (hP.out _).mono ?_
      rintro e w5 ⟨rfl, hb5⟩
      have hcv5 := own_string (P := Try.prog) (dst := 9) Try.underlying30 Try.underlying5 Try.underlying9 (pw_own_below HO.out hb5)
      have HB5 := Aside0.mk (below_then hB0.out (by have := hwz.out; omega) hb5)
      have hb6 := Aside0.mk (blk_below hb0.out hb5)
      have hq6 := Aside0.mk (blk_below hq0.out hb5)
      have c0 : w5.cell? ⟨g, 0, none⟩ = some (.string ⟨#[]⟩) := (blk_cell hb6.out 0).trans rfl
      have d0 : w5.cell? ⟨g + 1, 0, none⟩ = some (.bool false) := (blk_cell hq6.out 0).trans rfl
      have z0 := blk_frozen hb6.out 0
      have z1 := blk_frozen hq6.out 0
      clear hb5 hP hcv
      by_cases hq : q = s
      · have k1 : (q.toList == s.toList) = true := beq_iff_eq.mpr (toList_inj.2 hq)
        have HEQ : Aside0 (getE s = (strOfNums acc, true)) := ⟨by rw [HEE.out, if_pos (hqs.out.2 hq)]⟩
        clear hq
        go_wp2_with fail
        exact door_idle g (strOfNums acc) true w _ _ rfl rfl (blk_far (blk_set hb6.out 0 _) (p := ⟨g + 1, 0, none⟩) (by simp) _) (blk_set (blk_far hq6.out (p := ⟨g, 0, none⟩) (by simp) _) 0 _) ((HB5.out.setCell (p := ⟨g, 0, none⟩) (Nat.le_refl _) _).setCell (p := ⟨g + 1, 0, none⟩) (Nat.le_succ _) _) hg HEQ.out
      · have k1 : (q.toList == s.toList) = false := beq_eq_false_iff_ne.mpr (fun h => hq (toList_inj.1 h))
        have HEQ : Aside0 (getE s = (⟨#[]⟩, false)) := ⟨by rw [HEE.out, if_neg (fun h => hq (hqs.out.1 h))]⟩
        clear hq
        go_wp2_with fail
        exact door_idle g ⟨#[]⟩ false w _ _ rfl rfl (blk_far (blk_set hb6.out 0 _) (p := ⟨g + 1, 0, none⟩) (by simp) _) (blk_set (blk_far hq6.out (p := ⟨g, 0, none⟩) (by simp) _) 0 _) ((HB5.out.setCell (p := ⟨g, 0, none⟩) (Nat.le_refl _) _).setCell (p := ⟨g + 1, 0, none⟩) (Nat.le_succ _) _) hg HEQ.out
/-! ### As the callers' walks want them -/
def escPut.f (a0 : ByteArray) : Option ByteArray := if a0.size ≤ 35184372088832 then some (escB a0) else none
theorem escPut.calls (a0 : ByteArray) (r : ByteArray) (w : World) (h : escPut.f a0 = some r) : Calls Try.prog 9 #[.string a0] w fun e w' => e = .returned (.string r) ∧ Below w.heap.size w w' := by
  unfold escPut.f at h
  split at h
  · rename_i hs
    obtain rfl := Option.some.inj h
    exact put_calls a0 hs w
  · cases h
def escGet.f (a0 : ByteArray) : Option (ByteArray × Bool) := if a0.size ≤ 35184372088832 then some (getE a0) else none
theorem escGet.calls (a0 : ByteArray) (r1 : ByteArray) (r2 : Bool) (w : World) (h : escGet.f a0 = some (r1, r2)) : Calls Try.prog 7 #[.string a0] w fun e w' => e = .returned (.tuple #[.string r1, .bool r2]) ∧ Below w.heap.size w w' := by
  unfold escGet.f at h
  split at h
  · rename_i hs
    have h := Option.some.inj h
    refine (get_ends a0 hs w).mono fun e w' ⟨he, hw⟩ => ⟨?_, hw⟩
    rw [he, h]
  · cases h
end Go.Proofs.Ytkojlnjhndnfkaa
