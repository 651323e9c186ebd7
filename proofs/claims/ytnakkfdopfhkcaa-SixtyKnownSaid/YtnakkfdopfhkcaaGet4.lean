/- sixty.get walked: four signs at most as bytes, or noLetter's panic. -/
import Derived.Test.YtnakkfdopfhkcaaPut
namespace Go.Proofs.Ytnakkfdopfhkcaa
set_option linter.unusedVariables false
set_option linter.unusedSimpArgs false
open Go.RowKit Go.Proofs.YtnakkfdopfhkcaaW.PrintWords

theorem ix_all : ∀ c : Fin 256, Lib.indexByte [65, 66, 67, 68, 69, 70, 71, 72, 73, 74, 75, 76, 77, 78, 79, 80, 81, 82, 83, 84, 85, 86, 87, 88, 89, 90, 97, 98, 99, 100, 101, 102, 103, 104, 105, 106, 107, 108, 109, 110, 111, 112, 113, 114, 115, 116, 117, 118, 119, 120, 121, 122, 48, 49, 50, 51, 52, 53, 54, 55, 56, 57, 43, 47] ((c.val : Nat) : Int).toNat.toUInt8 = (lv ((c.val : Nat) : Int)).getD (-1) := by decide +kernel
theorem index_calls (c : Int) (h0 : 0 ≤ c) (h1 : c < 256) (w : World) : Calls Try.prog 19 #[.string letters, .int .u8 c] w fun e w' => e = .returned (.int .i64 ((lv c).getD (-1))) ∧ w' = w := by
  have := ix_all ⟨c.toNat, by omega⟩
  simp only at this
  rw [show ((c.toNat : Nat) : Int) = c from by omega] at this
  rw [← this]
  exact strings_IndexByte _ c w
theorem or_six (x k : Int) (h0 : 0 ≤ x) (h1 : x < 16777216) (k0 : 0 ≤ k) (k1 : k < 64) : Go.bits .or .i64 (x * 64) k = x * 64 + k := by
  have hw : ∀ n : Int, 0 ≤ n → n < 2 ^ 40 → IntKind.i64.wrap n = n := by
    intro n a b
    simp only [IntKind.wrap, IntKind.bits, IntKind.signed]
    simp
    omega
  have := bits_join .i64 40 (by decide) hw 6 (x * 64) k (by omega) (by omega) (by omega) k0 (by omega) (by omega)
  simpa using this
/-- How get ends. -/
def FourEnd (s : ByteArray) (w : World) (e : Ending) (w' : World) : Prop :=
  (match getL (bytesOf s) with
    | some l => e = .returned (.string (strOfNums l))
    | none => ∃ n : Int, e = .panicked [{ v := .iface 38 (.agg #[.int .i64 n]), recovered := false }]) ∧ Below w.heap.size w w'
set_option maxHeartbeats 4000000 in
set_option maxRecDepth 100000 in
theorem get4_ends (s : ByteArray) (hs : s.size ≤ 4) (w : World) : Calls Try.prog 14 #[.string s] w (FourEnd s w) := by
  have kb := fun W => print_bytes (P := Try.prog) 9 31 5 Try.underlying9 Try.underlying31 Try.underlying5 s W
  have HB0 : Aside0 (Below w.heap.size w (Lib.bytesWorld w 5 s)) := ⟨bytes_below (Below.refl _ _) (Nat.le_refl _) 5 s⟩
  have HC : Aside0 (∀ j, j < s.size → (Lib.bytesWorld w 5 s).cell? ⟨w.heap.size, j, none⟩ = some (.int .u8 (bt s j))) := ⟨fun j hj => by
    obtain ⟨ad, e1, hc⟩ := (bytes_reads w 5 s (by omega)).at_ (j : Int) (Int.natCast_nonneg _) (by omega)
    obtain rfl := Option.some.inj e1
    rw [add_plain, rd_bytesOf, Int.toNat_natCast] at hc
    exact hc⟩
  go_enter Try.func14, Try.ntmps14
  go_wp2_with fail
  generalize Lib.bytesWorld w 5 s = W2 at *
  go_loop [3, 4, 12] (fun v3 v4 v12 => ∃ (n m : Int) (k : Nat), v3 = .int .i64 n ∧ v4 = .int .i64 m ∧ v12 = .int .i64 k ∧ k ≤ s.size ∧ Aside0 (0 ≤ n ∧ n < 64 ^ k) ∧ Aside0 (1 ≤ m ∧ m ≤ 3) ∧ Aside0 (getG 0 0 3 (bytesOf s) = getG k n m ((bytesOf s).drop k))) (fun _ _ v12 => s.size - (intOf v12).toNat)
  case atStart => exact ⟨0, 3, 0, rfl, rfl, rfl, by omega, ⟨by decide⟩, ⟨by decide⟩, ⟨rfl⟩⟩
  case round =>
    obtain ⟨n, m, k, rfl, rfl, rfl, hk, HN, HM, HG⟩ := hrel
    by_cases hlt : k < s.size
    · have hcell := HC.out k hlt
      have hcr := bt_range s k
      have hdr := Aside0.mk (bytesOf_drop s k hlt)
      have HI := Aside0.mk (index_calls (bt s k) hcr.1 (by omega))
      generalize bt s k = c at *
      clear hcr
      have q0 : (0 ≤ (k : Int)) = True := eq_true (by omega)
      have q1 : ((k : Int) < (s.size : Int)) = True := eq_true (by omega)
      have q2 : decide ((k : Int) < (s.size : Int)) = true := decide_eq_true (by omega)
      have hn0 : 0 ≤ n := HN.out.1
      have h64 : (64 : Int) ^ k ≤ 262144 := by
        obtain rfl | rfl | rfl | rfl : k = 0 ∨ k = 1 ∨ k = 2 ∨ k = 3 := by omega
        all_goals decide
      have hn1 : n < 262144 := by have := HN.out.2; omega
      have hpow : Aside0 ((64 : Int) ^ (k + 1) = 64 ^ k * 64) := ⟨Int.pow_succ 64 k⟩
      have w1 : wrap64 (n * 64) = n * 64 := by unfold wrap64; omega
      by_cases hA : c = 61 ∧ 1 < k
      · have k61 : (c == 61) = true := beq_iff_eq.mpr hA.1
        have kgt : decide ((k : Int) > 1) = true := decide_eq_true (by omega)
        have hor := or_six n 0 hn0 (by omega) (by omega) (by omega)
        have w2 : wrap64 ((k : Int) - 1) = (k : Int) - 1 := by unfold wrap64; omega
        have HN2 : Aside0 (0 ≤ n * 64 ∧ n * 64 < 64 ^ (k + 1)) := ⟨by rw [hpow.out]; have := HN.out; omega⟩
        have HM2 : Aside0 (1 ≤ min m ((k : Int) - 1) ∧ min m ((k : Int) - 1) ≤ 3) := ⟨by have := HM.out; omega⟩
        have HG2 : Aside0 (getG 0 0 3 (bytesOf s) = getG (k + 1) (n * 64) (min m ((k : Int) - 1)) ((bytesOf s).drop (k + 1))) := ⟨by rw [HG.out, hdr.out, getG, if_pos hA]⟩
        clear hA h64
        go_wp2_with fail
        refine (HI.out _).mono ?_
        rintro e w1 ⟨rfl, rfl⟩
        go_wp2_with fail
        go_round
        case rel => exact ⟨n * 64, min m ((k : Int) - 1), k + 1, rfl, rfl, by go_num, by omega, HN2, HM2, HG2⟩
        case measure => simp [intOf]; omega
      · have kA : (c == 61) = false ∨ ((c == 61) = true ∧ decide ((k : Int) > 1) = false) := by
          by_cases h : c = 61
          · exact .inr ⟨beq_iff_eq.mpr h, decide_eq_false (fun h2 => hA ⟨h, by omega⟩)⟩
          · exact .inl (beq_eq_false_iff_ne.mpr h)
        cases hv : lv c with
        | none =>
          rw [hv] at HI
          have HFE : Aside0 (FourEnd s w (.panicked [{ v := .iface 38 (.agg #[.int .i64 k]), recovered := false }]) W2) := ⟨by
            have : getL (bytesOf s) = none := by unfold getL; rw [HG.out, hdr.out, getG, if_neg hA, hv]; rfl
            unfold FourEnd
            rw [this]
            exact ⟨⟨k, rfl⟩, HB0.out⟩⟩
          clear hA h64
          go_wp2_with fail
          refine (HI.out _).mono ?_
          rintro e w1 ⟨rfl, rfl⟩
          rcases kA with k61 | ⟨k61, kgt⟩
          · go_wp2_with fail
            exact ⟨rfl, HFE.out⟩
          · go_wp2_with fail
            exact ⟨rfl, HFE.out⟩
        | some x =>
          obtain ⟨x0, x1⟩ := lv_range _ _ hv
          rw [hv] at HI
          have k0 : decide (x < 0) = false := decide_eq_false (by omega)
          have hor := or_six n x hn0 (by omega) x0 x1
          have HN2 : Aside0 (0 ≤ n * 64 + x ∧ n * 64 + x < 64 ^ (k + 1)) := ⟨by rw [hpow.out]; have := HN.out; omega⟩
          have HG2 : Aside0 (getG 0 0 3 (bytesOf s) = getG (k + 1) (n * 64 + x) m ((bytesOf s).drop (k + 1))) := ⟨by rw [HG.out, hdr.out, getG, if_neg hA, hv]; rfl⟩
          clear hA h64 x0 x1
          go_wp2_with fail
          refine (HI.out _).mono ?_
          rintro e w1 ⟨rfl, rfl⟩
          rcases kA with k61 | ⟨k61, kgt⟩
          · go_wp2_with fail
            go_round
            case rel => exact ⟨n * 64 + x, m, k + 1, rfl, rfl, by go_num, by omega, HN2, HM, HG2⟩
            case measure => simp [intOf]; omega
          · go_wp2_with fail
            go_round
            case rel => exact ⟨n * 64 + x, m, k + 1, rfl, rfl, by go_num, by omega, HN2, HM, HG2⟩
            case measure => simp [intOf]; omega
    · obtain rfl : k = s.size := by omega
      have q2 : decide (((s.size : Nat) : Int) < (s.size : Int)) = false := decide_eq_false (by omega)
      have hend : getL (bytesOf s) = some (bytes3 n m) := by
        unfold getL
        rw [HG.out, show (bytesOf s).drop s.size = [] from List.drop_eq_nil_of_le (by rw [bytesOf_length]; exact Nat.le_refl _)]
        rfl
      have hn0 := HN.out.1
      have hrow : ReadsInt (W2.alloc (.cells #[.int .u8 (n / 65536 % 256), .int .u8 (n / 256 % 256), .int .u8 (n % 256)] 5)) .u8 (some ⟨W2.heap.size, 0, none⟩) 3 [n / 65536 % 256, n / 256 % 256, n % 256] := by
        have hb := heap_alloc_new W2 (.cells #[.int .u8 (n / 65536 % 256), .int .u8 (n / 256 % 256), .int .u8 (n % 256)] 5)
        refine ⟨rfl, by decide, fun _ => ⟨_, rfl, fun j hj => ?_⟩⟩
        rw [add_plain, blk_cell hb j]
        obtain rfl | rfl | rfl : j = 0 ∨ j = 1 ∨ j = 2 := by omega
        all_goals rfl
      have hmn : Aside0 (m = 1 ∨ m = 2 ∨ m = 3) := ⟨by have := HM.out; omega⟩
      have hcv := fun (j : Nat) (hj : j ≤ 3) => string_of_reads (P := Try.prog) (src := 31) (dst := 9) (c := 3) Try.underlying31 Try.underlying5 Try.underlying9 (hrow.take_ j hj)
      have HFE : Aside0 (∀ w', Below w.heap.size w w' → FourEnd s w (.returned (.string (strOfNums (bytes3 n m)))) w') := ⟨fun w' hw => by unfold FourEnd; rw [hend]; exact ⟨rfl, hw⟩⟩
      have HB2 : Aside0 (Below w.heap.size w (W2.alloc (.cells #[.int .u8 (n / 65536 % 256), .int .u8 (n / 256 % 256), .int .u8 (n % 256)] 5))) := ⟨HB0.out.alloc HB0.out.size _⟩
      have e8 : IntKind.u8.wrap (n / 65536) = n / 65536 % 256 := rfl
      clear hend hrow
      rcases hmn.out with rfl | rfl | rfl
      · have h1 := hcv 1 (by decide)
        clear hcv
        go_wp2_with fail
        go_ret
        exact HFE.out _ HB2.out
      · have h1 := hcv 2 (by decide)
        clear hcv
        go_wp2_with fail
        go_ret
        exact HFE.out _ HB2.out
      · have h1 := hcv 3 (by decide)
        clear hcv
        go_wp2_with fail
        go_ret
        exact HFE.out _ HB2.out
end Go.Proofs.Ytnakkfdopfhkcaa
