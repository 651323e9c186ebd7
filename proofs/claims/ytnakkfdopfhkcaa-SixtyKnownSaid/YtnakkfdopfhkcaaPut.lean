/- sixty.Put walked: the letters of whatever bytes. -/
import Derived.Test.YtnakkfdopfhkcaaPut4
namespace Go.Proofs.Ytnakkfdopfhkcaa
set_option linter.unusedVariables false
set_option linter.unusedSimpArgs false
open Go.RowKit Go.Proofs.YtnakkfdopfhkcaaW.PrintWords

theorem sixL_append : ∀ (n : Nat) (x y : List Int), x.length = 3 * n → sixL (x ++ y) = sixL x ++ sixL y
  | 0, x, y, h => by
    obtain rfl : x = [] := List.eq_nil_of_length_eq_zero (by omega)
    simp [sixL]
  | n + 1, x, y, h => by
    rcases x with _ | ⟨a, _ | ⟨b, _ | ⟨c, r⟩⟩⟩
    · simp at h
    · simp at h; omega
    · simp at h; omega
    · simp only [List.length_cons] at h
      have ih := sixL_append n r y (by omega)
      show sixL (a :: b :: c :: (r ++ y)) = _
      simp only [sixL, ih, List.append_assoc]
theorem bytesOf_extract (s : ByteArray) (i j : Nat) : bytesOf (s.extract i j) = ((bytesOf s).take j).drop i := by
  unfold bytesOf
  rw [ByteArray.data_extract, Array.toList_extract]
  simp [List.extract_eq_take_drop, List.map_drop, List.map_take, List.drop_take]
theorem strCells_is (s : ByteArray) : Lib.strCells s = nums .u8 (bytesOf s) := by
  unfold Lib.strCells nums bytesOf
  rw [List.map_map]
  rfl
theorem lt_range (n : Int) (h0 : 0 ≤ n) (h1 : n < 64) : 43 ≤ lt n ∧ lt n ≤ 122 := by unfold lt; repeat' split
                                                                                     all_goals omega
theorem four_small (a b c : Int) (m : Nat) : ∀ x ∈ four a b c m, 43 ≤ x ∧ x ≤ 122 := by
  intro x hx
  unfold four at hx
  have l0 := lt_range (n3 a b c / 262144 % 64) (by omega) (by omega)
  have l1 := lt_range (n3 a b c / 4096 % 64) (by omega) (by omega)
  have l2 := lt_range (n3 a b c / 64 % 64) (by omega) (by omega)
  have l3 := lt_range (n3 a b c % 64) (by omega) (by omega)
  simp only [List.mem_cons, List.not_mem_nil, or_false] at hx
  rcases hx with rfl | rfl | rfl | rfl
  · exact l0
  · split
    · decide
    · exact l1
  · split
    · decide
    · exact l2
  · split
    · decide
    · exact l3
theorem sixL_small : ∀ (n : Nat) (l : List Int), l.length ≤ n → ∀ x ∈ sixL l, 0 ≤ x ∧ x < 256 := by
  intro n
  induction n with
  | zero =>
    intro l h x hx
    obtain rfl : l = [] := List.eq_nil_of_length_eq_zero (by omega)
    simp [sixL] at hx
  | succ n ih =>
    intro l h x hx
    rcases l with _ | ⟨a, _ | ⟨b, _ | ⟨c, r⟩⟩⟩
    · simp [sixL] at hx
    · have := four_small a 0 0 1 x (by simpa [sixL] using hx); omega
    · have := four_small a b 0 2 x (by simpa [sixL] using hx); omega
    · simp only [sixL, List.mem_append] at hx
      rcases hx with hx | hx
      · have := four_small a b c 3 x hx; omega
      · exact ih r (by simp at h; omega) x hx
theorem sixL_len : ∀ (n : Nat) (l : List Int), l.length ≤ n → (sixL l).length ≤ 2 * l.length + 4 := by
  intro n
  induction n with
  | zero =>
    intro l h
    obtain rfl : l = [] := List.eq_nil_of_length_eq_zero (by omega)
    simp [sixL]
  | succ n ih =>
    intro l h
    rcases l with _ | ⟨a, _ | ⟨b, _ | ⟨c, r⟩⟩⟩
    · simp [sixL]
    · simp [sixL, four]
    · simp [sixL, four]
    · have := ih r (by simp at h; omega)
      simp only [sixL, List.length_append, List.length_cons, four, List.length_nil] at this ⊢
      omega
theorem byteCells_nums (l : List Int) (h : ∀ x ∈ l, 0 ≤ x ∧ x < 256) : Lib.byteCells (l.map fun n => UInt8.ofNat n.toNat) = nums .u8 l := by
  unfold Lib.byteCells nums
  rw [List.map_map]
  apply List.map_congr_left
  intro x hx
  have := h x hx
  simp [UInt8.toNat_ofNat']
  omega
theorem toList_inj {a b : ByteArray} : a.toList = b.toList ↔ a = b := by
  constructor
  · intro h
    rw [ByteArray.toList_eq, ByteArray.toList_eq] at h
    exact ByteArray.ext (Array.ext' h)
  · intro h; rw [h]
theorem toList_nil {a : ByteArray} (h : ¬ a.size = 0) : ¬ a.toList = [] := by
  intro e
  rw [ByteArray.toList_eq] at e
  apply h
  have := congrArg List.length e
  rw [data_length] at this
  exact this
/-- String of a builder that holds letters. -/
theorem told (B b : Nat) (l : List Int) (hl : ∀ x ∈ l, 0 ≤ x ∧ x < 256) (w : World) (h : Bu B b (nums .u8 l) w) (B0 : Nat) (hB : B0 ≤ B) (hb : B0 ≤ b) (hw : B0 ≤ w.heap.size) :
    Calls Try.prog 15 #[.pointer (some ⟨b, 0, none⟩)] w fun e w' => e = .returned (.string (strOfNums l)) ∧ Below B0 w w' := by
  rw [← byteCells_nums l hl] at h
  exact Builder_String_any B0 b (l.map fun n => UInt8.ofNat n.toNat) w (h.lib B0 hB hb) hw
def szOf : Value → Nat
  | .string t => t.size
  | _ => 0
/-- What has been written, and the letters of the next three bytes. -/
theorem sixL_next (s : ByteArray) (k : Nat) (h : 3 * k + 3 ≤ s.size) : sixL ((bytesOf s).take (3 * k)) ++ sixL (bytesOf ((s.extract (3 * k) s.size).extract 0 3)) = sixL ((bytesOf s).take (3 * (k + 1))) := by
  have hl : ((bytesOf s).take (3 * k)).length = 3 * k := by rw [List.length_take, bytesOf_length]; omega
  rw [← sixL_append k _ _ hl]
  congr 1
  rw [bytesOf_extract, bytesOf_extract, List.drop_zero, show s.size = (bytesOf s).length from (bytesOf_length s).symm, List.take_length, show 3 * (k + 1) = 3 * k + 3 from by omega, List.take_add]
theorem sixL_rest (s : ByteArray) (k : Nat) (h : 3 * k ≤ s.size) : sixL ((bytesOf s).take (3 * k)) ++ sixL (bytesOf (s.extract (3 * k) s.size)) = sixL (bytesOf s) := by
  have hl : ((bytesOf s).take (3 * k)).length = 3 * k := by rw [List.length_take, bytesOf_length]; omega
  rw [← sixL_append k _ _ hl]
  congr 1
  rw [bytesOf_extract, show s.size = (bytesOf s).length from (bytesOf_length s).symm, List.take_length, List.take_append_drop]
set_option maxHeartbeats 4000000 in
set_option maxRecDepth 100000 in
theorem put_calls (s : ByteArray) (hs : s.size ≤ 35184372088832) (w : World) : Calls Try.prog 10 #[.string s] w fun e w' => e = .returned (.string (sixB s)) ∧ Below w.heap.size w w' := by
  have HF := Aside0.mk (Bu.fresh (w.heap.size + 1) w)
  have HZ : Aside0 ((w.alloc (.cells #[.pointer none, .slice none 0 0] 42)).heap.size = w.heap.size + 1) := ⟨by simp⟩
  have HK : Aside0 (Below w.heap.size w (w.alloc (.cells #[.pointer none, .slice none 0 0] 42))) := ⟨(Below.refl _ _).alloc (Nat.le_refl _) _⟩
  go_enter Try.func10, Try.ntmps10
  go_wp2_with fail
  generalize w.alloc (.cells #[.pointer none, .slice none 0 0] 42) = W2 at *
  go_loopw [0] (fun v0 wr => ∃ k : Nat, v0 = .string (s.extract (3 * k) s.size) ∧ 3 * k ≤ s.size ∧ Aside0 (Bu (w.heap.size + 1) w.heap.size (nums .u8 (sixL ((bytesOf s).take (3 * k)))) wr) ∧ Aside0 (Kp (w.heap.size + 1) w.heap.size W2 wr)) (fun v0 _ => szOf v0)
  case atStart => exact ⟨0, by simp, by omega, HF, ⟨Kp.refl _ _ _⟩⟩
  case round =>
    obtain ⟨k, rfl, hk, hB, hP⟩ := hrel
    have hsz : Aside0 (w.heap.size + 1 ≤ wr.heap.size) := ⟨by have := hP.out.size; have := HZ.out; omega⟩
    have hll : Aside0 ((sixL ((bytesOf s).take (3 * k))).length ≤ 2 * s.size + 4) := ⟨by have := sixL_len _ ((bytesOf s).take (3 * k)) (Nat.le_refl _); rw [List.length_take, bytesOf_length] at this; omega⟩
    have htz : (s.extract (3 * k) s.size).size = s.size - 3 * k := by rw [ByteArray.size_extract]; omega
    by_cases hlt : 3 * k + 3 < s.size
    · have hnx := Aside0.mk (sixL_next s k (by omega))
      have hex : Aside0 ((s.extract (3 * k) s.size).extract 3 (s.extract (3 * k) s.size).size = s.extract (3 * (k + 1)) s.size) := ⟨by rw [ByteArray.extract_extract, htz]; congr 1; omega⟩
      have hk1 : Aside0 (3 * (k + 1) ≤ s.size) := ⟨by omega⟩
      have hk2 : Aside0 (s.size - 3 * (k + 1) < s.size - 3 * k) := ⟨by omega⟩
      have hk3 : Aside0 ((s.extract (3 * (k + 1)) s.size).size = s.size - 3 * (k + 1)) := ⟨by rw [ByteArray.size_extract]; omega⟩
      have hqz : ((s.extract (3 * k) s.size).extract 0 3).size = 3 := by rw [ByteArray.size_extract]; omega
      have HQ := Aside0.mk (put4_calls ((s.extract (3 * k) s.size).extract 0 3) (by omega) (by omega))
      have hlen4 : Aside0 ((strOfNums (sixL (bytesOf ((s.extract (3 * k) s.size).extract 0 3)))).size ≤ 10) := ⟨by rw [strOfNums_size]; have := sixL_len _ (bytesOf ((s.extract (3 * k) s.size).extract 0 3)) (Nat.le_refl _); rw [bytesOf_length] at this; omega⟩
      have HZC : Aside0 (Lib.strCells (strOfNums (sixL (bytesOf ((s.extract (3 * k) s.size).extract 0 3)))) = nums .u8 (sixL (bytesOf ((s.extract (3 * k) s.size).extract 0 3)))) := ⟨by rw [strCells_is, bytesOf_nums _ (sixL_small _ _ (Nat.le_refl _))]⟩
      have q0 : decide (((s.extract (3 * k) s.size).size : Int) > 3) = true := decide_eq_true (by omega)
      have q1 : ((3 : Int) ≤ ((s.extract (3 * k) s.size).size : Int)) = True := eq_true (by omega)
      have HTZ := Aside0.mk htz
      clear hqz htz
      generalize s.extract (3 * k) s.size = t at *
      go_wp2_with fail
      refine (HQ.out _).mono ?_
      rintro e w1 ⟨rfl, hb1⟩
      have hB1 := Aside0.mk (hB.out.grown (grown_of hb1))
      have hP1 := Aside0.mk (hP.out.below (hb1.mono hsz.out))
      have hs1 : Aside0 (w.heap.size + 1 ≤ w1.heap.size) := ⟨Nat.le_trans hsz.out hb1.size⟩
      clear hB hP hb1
      go_wp2_with fail
      refine (Builder_WriteString _ _ _ _ w1 hB1.out (by rw [nums_length]; have := hll.out; have := hlen4.out; omega) hs1.out).mono ?_
      rintro e w3 ⟨rfl, hB3, hP3⟩
      rw [HZC.out, ← nums_append, hnx.out] at hB3
      have HB3 := Aside0.mk hB3
      have HP3 := Aside0.mk (hP1.out.trans hP3)
      clear hB3 hP3
      go_wp2_with fail
      go_roundw
      case rel => exact ⟨k + 1, by rw [hex.out], hk1.out, HB3, HP3⟩
      case measure =>
        have := hk2.out
        have h3 := hk3.out
        have h4 := HTZ.out
        simp only [szOf, hex.out]
        omega
    · have q0 : decide (((s.extract (3 * k) s.size).size : Int) > 3) = false := decide_eq_false (by omega)
      have hrest := Aside0.mk (sixL_rest s k hk)
      have hsm := Aside0.mk (sixL_small _ (bytesOf s) (Nat.le_refl _))
      by_cases hz : s.size = 3 * k
      · have ht0 : s.extract (3 * k) s.size = ⟨#[]⟩ := ByteArray.ext (Array.eq_empty_of_size_eq_zero (by show (s.extract (3 * k) s.size).size = 0; omega))
        rw [ht0] at hrest htz q0 ⊢
        have hB2 : Bu (w.heap.size + 1) w.heap.size (nums .u8 (sixL (bytesOf s))) wr := by
          have := hrest.out
          rw [show sixL (bytesOf ⟨#[]⟩) = [] from rfl, List.append_nil] at this
          rw [← this]
          exact hB.out
        have HS := Aside0.mk (told _ _ _ hsm.out wr hB2 w.heap.size (by omega) (Nat.le_refl _) (by have := hsz.out; omega))
        have HL := Aside0.mk (HK.out.trans (hP.out.less w.heap.size (by omega) (Nat.le_refl _)))
        clear hB2 htz hlt hz ht0 hk
        go_wp2_with fail
        refine HS.out.mono ?_
        rintro e w3 ⟨rfl, hb3⟩
        have HL2 := Aside0.mk (HL.out.trans hb3)
        clear hb3 HS HL
        go_wp2_with fail
        go_ret
        exact ⟨rfl, HL2.out⟩
      · have HQ := Aside0.mk (put4_calls (s.extract (3 * k) s.size) (by omega) (by omega))
        have hne : (s.extract (3 * k) s.size).toList.isEmpty = false := by have := toList_nil (a := s.extract (3 * k) s.size) (by omega); simpa using this
        have hne2 : ((s.extract (3 * k) s.size).toList == []) = false := beq_eq_false_iff_ne.mpr (toList_nil (by omega))
        have hlen4 : Aside0 ((strOfNums (sixL (bytesOf (s.extract (3 * k) s.size)))).size ≤ 10) := ⟨by rw [strOfNums_size]; have := sixL_len _ (bytesOf (s.extract (3 * k) s.size)) (Nat.le_refl _); rw [bytesOf_length] at this; omega⟩
        have HZC : Aside0 (Lib.strCells (strOfNums (sixL (bytesOf (s.extract (3 * k) s.size)))) = nums .u8 (sixL (bytesOf (s.extract (3 * k) s.size)))) := ⟨by rw [strCells_is, bytesOf_nums _ (sixL_small _ _ (Nat.le_refl _))]⟩
        clear htz hlt hz hk
        generalize s.extract (3 * k) s.size = t at *
        go_wp2_with fail
        refine (HQ.out _).mono ?_
        rintro e w1 ⟨rfl, hb1⟩
        have hB1 := Aside0.mk (hB.out.grown (grown_of hb1))
        have hP1 := Aside0.mk (hP.out.below (hb1.mono hsz.out))
        have hs1 : Aside0 (w.heap.size + 1 ≤ w1.heap.size) := ⟨Nat.le_trans hsz.out hb1.size⟩
        clear hB hP hb1
        go_wp2_with fail
        refine (Builder_WriteString _ _ _ _ w1 hB1.out (by rw [nums_length]; have := hll.out; have := hlen4.out; omega) hs1.out).mono ?_
        rintro e w3 ⟨rfl, hB3, hP3⟩
        rw [HZC.out, ← nums_append, hrest.out] at hB3
        have hs3 := Nat.le_trans hs1.out hP3.size
        have HS := Aside0.mk (told _ _ _ hsm.out w3 hB3 w.heap.size (by omega) (Nat.le_refl _) (by omega))
        have HL := Aside0.mk (HK.out.trans ((hP1.out.trans hP3).less w.heap.size (by omega) (Nat.le_refl _)))
        clear hB3 hP3 hs3 hB1 hP1
        go_wp2_with fail
        refine HS.out.mono ?_
        rintro e w4 ⟨rfl, hb4⟩
        have HL2 := Aside0.mk (HL.out.trans hb4)
        clear hb4 HS HL
        go_wp2_with fail
        go_ret
        exact ⟨rfl, HL2.out⟩
end Go.Proofs.Ytnakkfdopfhkcaa
