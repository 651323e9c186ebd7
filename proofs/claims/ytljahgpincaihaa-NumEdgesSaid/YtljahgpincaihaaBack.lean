/- NumBack walked: what a field tells is read again; of another width it is none; with a byte turned another number, or none. -/
import Derived.Test.YtljahgpincaihaaBackPlain
import Derived.Test.YtljahgpincaihaaAll
import Derived.OpenShut
namespace Go.Proofs.Ytljahgpincaihaa
set_option linter.unusedVariables false
set_option linter.unusedSimpArgs false
open Go.RowKit Go.Proofs.Ytljahgpincaihaa.GE Go.Proofs.YtljahgpincaihaaW.PrintWords

theorem bytes_thaw (W : World) (e : TypeId) (s : ByteArray) (j : Nat) (hj : j < s.size) : (Lib.bytesWorld W e s).frozen? ⟨W.heap.size, j, none⟩ = false := by
  have h := Lib.bytesWorld_at_new W e s
  have hl : s.size ≤ (Lib.bytesCells W e s).size := by unfold Lib.bytesCells; rw [Array.size_append, Array.size_map]; exact Nat.le_add_right _ _
  unfold World.frozen?
  rw [h]
  simp
  omega
/-- A byte of []byte(s) turned: what is read there. -/
theorem reads_set {W : World} {g n : Nat} {xs : List Int} (h : ReadsInt W .u8 (some ⟨g, 0, none⟩) n xs) (j : Nat) (hj : j < n) (x : Int) : ReadsInt (W.setCell ⟨g, j, none⟩ (.int .u8 x)) .u8 (some ⟨g, 0, none⟩) n (xs.set j x) := by
  obtain ⟨h1, h2, h3⟩ := h
  refine ⟨by rw [List.length_set]; exact h1, h2, fun hn => ⟨_, rfl, fun i hi => ?_⟩⟩
  obtain ⟨ad, e, hc⟩ := h3 hn
  obtain rfl := (Option.some.inj e).symm
  by_cases hij : i = j
  · subst hij
    have := hc i hi
    rw [add_plain] at this ⊢
    rw [World.cell?_setCell_same W _ _ this]
    simp [List.getD_eq_getElem?_getD, List.getElem?_set_self (show i < xs.length by omega)]
  · have := hc i hi
    rw [add_plain] at this ⊢
    rw [World.cell?_setCell_other W _ _ _ (by intro hc; injection hc with _ hc; omega), this]
    simp [List.getD_eq_getElem?_getD, List.getElem?_set_ne (Ne.symm hij)]
theorem rf_calls (s : ByteArray) (hs : s.size ≤ 1000) (w : World) : Calls Try.prog 17 #[.string s] w fun e w' => e = .returned (.tuple #[.int .i64 (rfS s).1, .bool (rfS s).2]) ∧ Below w.heap.size w w' :=
  num_ReadField.calls s (rfS s).1 (rfS s).2 w (readField_is (by omega))

set_option maxHeartbeats 8000000 in
set_option maxRecDepth 100000 in
theorem back_8 (n a b : Int) (n0 : -9223372036854775808 ≤ n) (n1 : n < 9223372036854775808) (a0 : 0 ≤ a) (a1 : a ≤ 255) (b0 : 0 ≤ b) (b1 : b ≤ 255) (w : World) :
    Calls Try.prog 4 #[.int .i64 n, .bool false, .int .u8 a, .int .u8 b] w fun e w' => e = .returned (.bool true) ∧ Below w.heap.size w w' := by
  have HAW := Aside0.mk awake_calls
  have HF := Aside0.mk (fun W => num_Field.calls n 8 (fieldS n 8).1 (fieldS n 8).2 W (field_is n0 n1))
  cases ho : (fieldS n 8).2 with
  | false =>
    obtain ⟨hf, _, hn⟩ := field_none (.inl rfl) n0 n1 ho
    rw [hf] at HF
    clear ho hf
    by_cases h : n ≥ 72057594037927936
    · have k0 : decide (n ≥ 72057594037927936) = true := decide_eq_true h
      go_enter Try.func4, Try.ntmps4
      go_wp2_with fail
      refine (HF.out _).mono ?_
      rintro e w5 ⟨rfl, hb⟩
      have B5 := Aside0.mk hb
      clear hb hn
      go_wp2_with fail
      refine (HAW.out _).mono ?_
      rintro e w6 ⟨rfl, hb⟩
      have B6 := Aside0.mk (below_then B5.out B5.out.size hb)
      clear hb B5
      go_wp2_with fail
      go_ret
      exact ⟨rfl, B6.out⟩
    · have k0 : decide (n ≥ 72057594037927936) = false := decide_eq_false h
      have k1 : decide (n < -72057594037927936) = true := decide_eq_true (by omega)
      go_enter Try.func4, Try.ntmps4
      go_wp2_with fail
      refine (HF.out _).mono ?_
      rintro e w5 ⟨rfl, hb⟩
      have B5 := Aside0.mk hb
      clear hb hn
      go_wp2_with fail
      refine (HAW.out _).mono ?_
      rintro e w6 ⟨rfl, hb⟩
      have B6 := Aside0.mk (below_then B5.out B5.out.size hb)
      clear hb B5
      go_wp2_with fail
      go_ret
      exact ⟨rfl, B6.out⟩
  | true =>
    generalize hq : (fieldS n 8).1 = q at *
    have hf : fieldS n 8 = (q, true) := Prod.ext hq ho
    have hqz : q.size = 8 := by have := field_size ho; rw [hq] at this; omega
    rw [ho] at HF
    have HR1 := Aside0.mk (rf_calls q (by omega))
    rw [rf_field hf n0 n1] at HR1
    have HR2 := Aside0.mk (rf_calls (q.extract 0 7) (by rw [ByteArray.size_extract]; omega))
    rw [rf_size (by rw [ByteArray.size_extract]; omega) (by rw [ByteArray.size_extract]; omega)] at HR2
    obtain ⟨j, hj⟩ : ∃ j : Nat, (j : Int) = a % 8 := ⟨(a % 8).toNat, by omega⟩
    have hjq : j < 8 := by omega
    have kb := fun W => print_bytes (P := Try.prog) 9 34 5 Try.underlying9 Try.underlying34 Try.underlying5 q W
    obtain ⟨t, ht⟩ : ∃ t, t = strOfNums ((bytesOf q).set j (Go.bits .xor .u8 (bt q j) b)) := ⟨_, rfl⟩
    have htz : t.size = q.size := by rw [ht, strOfNums_size, List.length_set, bytesOf_length]
    have HR3 := Aside0.mk (rf_calls t (by omega))
    have hT : b = 0 ∨ (¬ b = 0 ∧ (rfS t).2 = false) ∨ (¬ b = 0 ∧ (rfS t).2 = true ∧ ¬ (rfS t).1 = n) := by
      by_cases hb : b = 0
      · exact .inl hb
      · have hne : ¬ t = q := by rw [ht]; exact turned_ne q j (by omega) b b0 (by omega) hb
        rcases field_turned hf htz hne with h | h
        · exact .inr (.inl ⟨hb, h⟩)
        · exact .inr (.inr ⟨hb, h.1, h.2⟩)
    replace ht := Aside0.mk ht
    clear hf hq ho htz
    go_enter Try.func4, Try.ntmps4
    go_wp2_with fail
    refine (HF.out _).mono ?_
    rintro e w1 ⟨rfl, hb⟩
    have B1 := Aside0.mk hb
    clear hb
    go_wp2_with fail
    refine (HR1.out _).mono ?_
    rintro e w2 ⟨rfl, hb⟩
    have B2 := Aside0.mk (below_then B1.out B1.out.size hb)
    clear hb B1
    go_wp2_with fail
    refine (HR2.out _).mono ?_
    rintro e w3 ⟨rfl, hb⟩
    have B3 := Aside0.mk (below_then B2.out B2.out.size hb)
    clear hb B2
    have hrd := Aside0.mk (bytes_reads w3 5 q (by omega))
    have hzf := bytes_thaw w3 5 q j (by omega)
    have hcl : (Lib.bytesWorld w3 5 q).cell? ⟨w3.heap.size, j, none⟩ = some (.int .u8 (bt q j)) := by
      obtain ⟨ad, e1, hc⟩ := hrd.out.at_ (j : Int) (Int.natCast_nonneg _) (by omega)
      obtain rfl := Option.some.inj e1
      rw [add_plain, rd_bytesOf] at hc
      simpa using hc
    have hst := fun c => string_of_reads (P := Try.prog) (src := 34) (dst := 9) (c := c) Try.underlying34 Try.underlying5 Try.underlying9 (reads_set hrd.out j (by omega) (Go.bits .xor .u8 (bt q j) b))
    rw [hqz, ← ht.out] at hst
    have B4 := Aside0.mk ((bytes_below B3.out B3.out.size 5 q).setCell (p := ⟨w3.heap.size, j, none⟩) B3.out.size (.int .u8 (Go.bits .xor .u8 (bt q j) b)))
    clear hrd B3
    have hjr := hj.symm
    have hj0 : (0 ≤ (j : Int)) = True := eq_true (by omega)
    have hj1 : ((j : Int) < 8) = True := eq_true (by omega)
    clear hj
    go_wp2_with fail
    refine (HR3.out _).mono ?_
    rintro e w5 ⟨rfl, hb⟩
    have B5 := Aside0.mk (below_then B4.out B4.out.size hb)
    clear hb B4 hst hcl hzf kb
    generalize (rfS t).1 = y at *
    generalize (rfS t).2 = is at *
    rcases hT with hT | ⟨hT, hT2⟩ | ⟨hT, hT2, hT3⟩
    · have k0 : (b == 0) = true := beq_iff_eq.mpr hT
      clear hT ht
      go_wp2_with fail
      refine (HAW.out _).mono ?_
      rintro e w6 ⟨rfl, hb⟩
      have B6 := Aside0.mk (below_then B5.out B5.out.size hb)
      clear hb B5
      go_wp2_with fail
      go_ret
      exact ⟨rfl, B6.out⟩
    · have k0 : (b == 0) = false := beq_eq_false_iff_ne.mpr hT
      subst hT2
      clear hT ht
      go_wp2_with fail
      refine (HAW.out _).mono ?_
      rintro e w6 ⟨rfl, hb⟩
      have B6 := Aside0.mk (below_then B5.out B5.out.size hb)
      clear hb B5
      go_wp2_with fail
      go_ret
      exact ⟨rfl, B6.out⟩
    · have k0 : (b == 0) = false := beq_eq_false_iff_ne.mpr hT
      have k1 : (y == n) = false := beq_eq_false_iff_ne.mpr hT3
      have k2 : (y != n) = true := by rw [bne, k1]; rfl
      subst hT2
      clear hT hT3 ht
      go_wp2_with fail
      refine (HAW.out _).mono ?_
      rintro e w6 ⟨rfl, hb⟩
      have B6 := Aside0.mk (below_then B5.out B5.out.size hb)
      clear hb B5
      go_wp2_with fail
      go_ret
      exact ⟨rfl, B6.out⟩

set_option maxHeartbeats 8000000 in
set_option maxRecDepth 100000 in
theorem back_12 (n a b : Int) (n0 : -9223372036854775808 ≤ n) (n1 : n < 9223372036854775808) (a0 : 0 ≤ a) (a1 : a ≤ 255) (b0 : 0 ≤ b) (b1 : b ≤ 255) (w : World) :
    Calls Try.prog 4 #[.int .i64 n, .bool true, .int .u8 a, .int .u8 b] w fun e w' => e = .returned (.bool true) ∧ Below w.heap.size w w' := by
  have HAW := Aside0.mk awake_calls
  have HF := Aside0.mk (fun W => num_Field.calls n 12 (fieldS n 12).1 (fieldS n 12).2 W (field_is n0 n1))
  cases ho : (fieldS n 12).2 with
  | false =>
    have := (field_none (.inr rfl) n0 n1 ho).2.1
    omega
  | true =>
    generalize hq : (fieldS n 12).1 = q at *
    have hf : fieldS n 12 = (q, true) := Prod.ext hq ho
    have hqz : q.size = 12 := by have := field_size ho; rw [hq] at this; omega
    rw [ho] at HF
    have HR1 := Aside0.mk (rf_calls q (by omega))
    rw [rf_field hf n0 n1] at HR1
    have HR2 := Aside0.mk (rf_calls (q.extract 0 11) (by rw [ByteArray.size_extract]; omega))
    rw [rf_size (by rw [ByteArray.size_extract]; omega) (by rw [ByteArray.size_extract]; omega)] at HR2
    obtain ⟨j, hj⟩ : ∃ j : Nat, (j : Int) = a % 12 := ⟨(a % 12).toNat, by omega⟩
    have hjq : j < 12 := by omega
    have kb := fun W => print_bytes (P := Try.prog) 9 34 5 Try.underlying9 Try.underlying34 Try.underlying5 q W
    obtain ⟨t, ht⟩ : ∃ t, t = strOfNums ((bytesOf q).set j (Go.bits .xor .u8 (bt q j) b)) := ⟨_, rfl⟩
    have htz : t.size = q.size := by rw [ht, strOfNums_size, List.length_set, bytesOf_length]
    have HR3 := Aside0.mk (rf_calls t (by omega))
    have hT : b = 0 ∨ (¬ b = 0 ∧ (rfS t).2 = false) ∨ (¬ b = 0 ∧ (rfS t).2 = true ∧ ¬ (rfS t).1 = n) := by
      by_cases hb : b = 0
      · exact .inl hb
      · have hne : ¬ t = q := by rw [ht]; exact turned_ne q j (by omega) b b0 (by omega) hb
        rcases field_turned hf htz hne with h | h
        · exact .inr (.inl ⟨hb, h⟩)
        · exact .inr (.inr ⟨hb, h.1, h.2⟩)
    replace ht := Aside0.mk ht
    clear hf hq ho htz
    go_enter Try.func4, Try.ntmps4
    go_wp2_with fail
    refine (HF.out _).mono ?_
    rintro e w1 ⟨rfl, hb⟩
    have B1 := Aside0.mk hb
    clear hb
    go_wp2_with fail
    refine (HR1.out _).mono ?_
    rintro e w2 ⟨rfl, hb⟩
    have B2 := Aside0.mk (below_then B1.out B1.out.size hb)
    clear hb B1
    go_wp2_with fail
    refine (HR2.out _).mono ?_
    rintro e w3 ⟨rfl, hb⟩
    have B3 := Aside0.mk (below_then B2.out B2.out.size hb)
    clear hb B2
    have hrd := Aside0.mk (bytes_reads w3 5 q (by omega))
    have hzf := bytes_thaw w3 5 q j (by omega)
    have hcl : (Lib.bytesWorld w3 5 q).cell? ⟨w3.heap.size, j, none⟩ = some (.int .u8 (bt q j)) := by
      obtain ⟨ad, e1, hc⟩ := hrd.out.at_ (j : Int) (Int.natCast_nonneg _) (by omega)
      obtain rfl := Option.some.inj e1
      rw [add_plain, rd_bytesOf] at hc
      simpa using hc
    have hst := fun c => string_of_reads (P := Try.prog) (src := 34) (dst := 9) (c := c) Try.underlying34 Try.underlying5 Try.underlying9 (reads_set hrd.out j (by omega) (Go.bits .xor .u8 (bt q j) b))
    rw [hqz, ← ht.out] at hst
    have B4 := Aside0.mk ((bytes_below B3.out B3.out.size 5 q).setCell (p := ⟨w3.heap.size, j, none⟩) B3.out.size (.int .u8 (Go.bits .xor .u8 (bt q j) b)))
    clear hrd B3
    have hjr := hj.symm
    have hj0 : (0 ≤ (j : Int)) = True := eq_true (by omega)
    have hj1 : ((j : Int) < 12) = True := eq_true (by omega)
    clear hj
    go_wp2_with fail
    refine (HR3.out _).mono ?_
    rintro e w5 ⟨rfl, hb⟩
    have B5 := Aside0.mk (below_then B4.out B4.out.size hb)
    clear hb B4 hst hcl hzf kb
    generalize (rfS t).1 = y at *
    generalize (rfS t).2 = is at *
    rcases hT with hT | ⟨hT, hT2⟩ | ⟨hT, hT2, hT3⟩
    · have k0 : (b == 0) = true := beq_iff_eq.mpr hT
      clear hT ht
      go_wp2_with fail
      refine (HAW.out _).mono ?_
      rintro e w6 ⟨rfl, hb⟩
      have B6 := Aside0.mk (below_then B5.out B5.out.size hb)
      clear hb B5
      go_wp2_with fail
      go_ret
      exact ⟨rfl, B6.out⟩
    · have k0 : (b == 0) = false := beq_eq_false_iff_ne.mpr hT
      subst hT2
      clear hT ht
      go_wp2_with fail
      refine (HAW.out _).mono ?_
      rintro e w6 ⟨rfl, hb⟩
      have B6 := Aside0.mk (below_then B5.out B5.out.size hb)
      clear hb B5
      go_wp2_with fail
      go_ret
      exact ⟨rfl, B6.out⟩
    · have k0 : (b == 0) = false := beq_eq_false_iff_ne.mpr hT
      have k1 : (y == n) = false := beq_eq_false_iff_ne.mpr hT3
      have k2 : (y != n) = true := by rw [bne, k1]; rfl
      subst hT2
      clear hT hT3 ht
      go_wp2_with fail
      refine (HAW.out _).mono ?_
      rintro e w6 ⟨rfl, hb⟩
      have B6 := Aside0.mk (below_then B5.out B5.out.size hb)
      clear hb B5
      go_wp2_with fail
      go_ret
      exact ⟨rfl, B6.out⟩
theorem num_back (n : Int) (wide : Bool) (a b : Int) (w : World) (h0 : (Lit.int .i64 n).wf = true) (h1 : (Lit.int .u8 a).wf = true) (h2 : (Lit.int .u8 b).wf = true) :
    Calls Try.prog 4 #[.int .i64 n, .bool wide, .int .u8 a, .int .u8 b] w fun e w' => e = .returned (.bool true) ∧ Below w.heap.size w w' := by
  obtain ⟨n0, n1⟩ := bounds_i64 h0
  obtain ⟨a0, a1⟩ := bounds_u8 h1
  obtain ⟨b0, b1⟩ := bounds_u8 h2
  cases wide with
  | false => exact back_8 n a b n0 (by omega) a0 a1 b0 b1 w
  | true => exact back_12 n a b n0 (by omega) a0 a1 b0 b1 w
end Go.Proofs.Ytljahgpincaihaa
