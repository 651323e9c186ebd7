/- sixty.put walked: at most three bytes as four letters. -/
import Derived.Test.YtnakkfdopfhkcaaWriters
import Derived.Test.YtnakkfdopfhkcaaPlain
namespace Go.Proofs.Ytnakkfdopfhkcaa
set_option linter.unusedVariables false
set_option linter.unusedSimpArgs false
open Go.RowKit Go.Proofs.YtnakkfdopfhkcaaW.PrintWords

/-- The number of the first bytes, those that are not there being nought. -/
def pn (s : ByteArray) : Nat → Int
  | 0 => 0
  | k + 1 => pn s k * 256 + (if k < s.size then bt s k else 0)
theorem pn_range (s : ByteArray) : ∀ k, 0 ≤ pn s k ∧ pn s k < 256 ^ k
  | 0 => by simp [pn]
  | k + 1 => by
    have h := pn_range s k
    have hb := bt_range s k
    simp only [pn]
    rw [Int.pow_succ]
    split <;> omega
theorem or_eight (x b : Int) (h0 : 0 ≤ x) (h1 : x < 65536) (hb : 0 ≤ b) (hb' : b < 256) : Go.bits .or .i64 (x * 256) b = x * 256 + b := by
  have hw : ∀ n : Int, 0 ≤ n → n < 2 ^ 40 → IntKind.i64.wrap n = n := by
    intro n a b
    simp only [IntKind.wrap, IntKind.bits, IntKind.signed]
    simp
    omega
  have := bits_join .i64 40 (by decide) hw 8 (x * 256) b (by omega) (by omega) (by omega) hb (by omega) (by omega)
  simpa using this
theorem and63 (x : Int) (h0 : 0 ≤ x) (h1 : x < 16777216) : Go.bits .and .i64 x 63 = x % 64 := by
  have hw : ∀ n : Int, 0 ≤ n → n < 2 ^ 40 → IntKind.i64.wrap n = n := by
    intro n a b
    simp only [IntKind.wrap, IntKind.bits, IntKind.signed]
    simp
    omega
  have := bits_mask .i64 40 (by decide) hw 6 (by omega) x h0 (by omega)
  simpa using this

/-- The i-th sign of so many bytes. -/
def sg (s : ByteArray) (N : Int) (i : Nat) : Int := if s.size < i then 61 else lt (N / 64 ^ (3 - i) % 64)
theorem four_is (s : ByteArray) (h1 : 1 ≤ s.size) (h3 : s.size ≤ 3) : sixL (bytesOf s) = [sg s (pn s 3) 0, sg s (pn s 3) 1, sg s (pn s 3) 2, sg s (pn s 3) 3] := by
  have hl := bytesOf_length s
  have g0 := bytesOf_get s 0
  have g1 := bytesOf_get s 1
  have g2 := bytesOf_get s 2
  rcases hb : bytesOf s with _ | ⟨a, _ | ⟨b, _ | ⟨c, _ | ⟨d, r⟩⟩⟩⟩
  · rw [hb] at hl; simp at hl; omega
  · rw [hb] at hl g0
    simp only [List.length_cons, List.length_nil] at hl
    have x0 := g0 (by omega)
    simp at x0
    have hn : pn s 3 = n3 a 0 0 := by
      simp only [pn, n3]
      rw [if_pos (by omega), if_neg (by omega), if_neg (by omega)]
      rw [x0]
      simp
      omega
    have hz : s.size = 1 := by omega
    rw [hn]
    simp [sixL, four, sg, hz]
  · rw [hb] at hl g0 g1
    simp only [List.length_cons, List.length_nil] at hl
    have x0 := g0 (by omega)
    have x1 := g1 (by omega)
    simp at x0 x1
    have hn : pn s 3 = n3 a b 0 := by
      simp only [pn, n3]
      rw [if_pos (by omega), if_pos (by omega), if_neg (by omega)]
      rw [x0, x1]
      simp
      omega
    have hz : s.size = 2 := by omega
    rw [hn]
    simp [sixL, four, sg, hz]
  · rw [hb] at hl g0 g1 g2
    simp only [List.length_cons, List.length_nil] at hl
    have x0 := g0 (by omega)
    have x1 := g1 (by omega)
    have x2 := g2 (by omega)
    simp at x0 x1 x2
    have hn : pn s 3 = n3 a b c := by
      simp only [pn, n3]
      rw [if_pos (by omega), if_pos (by omega), if_pos (by omega)]
      rw [x0, x1, x2]
      simp
      omega
    have hz : s.size = 3 := by omega
    rw [hn]
    simp [sixL, four, sg, hz]
  · rw [hb] at hl; simp at hl; omega
set_option maxHeartbeats 4000000 in
set_option maxRecDepth 100000 in
theorem put4_calls (s : ByteArray) (h1 : 1 ≤ s.size) (h3 : s.size ≤ 3) (w : World) : Calls Try.prog 17 #[.string s] w fun e w' => e = .returned (.string (strOfNums (sixL (bytesOf s)))) ∧ Below w.heap.size w w' := by
  go_enter Try.func17, Try.ntmps17
  go_wp2_with fail
  go_loop [3, 7] (fun v3 v7 => ∃ k : Nat, k ≤ 3 ∧ v3 = .int .i64 (pn s k) ∧ v7 = .int .i64 k) (fun _ v7 => 3 - (intOf v7).toNat)
  case atStart => exact ⟨0, by omega, rfl, rfl⟩
  case round =>
    obtain ⟨k, hk, rfl, rfl⟩ := hrel
    by_cases hlt : k < 3
    · have hpr := pn_range s k
      have h256 : (256 : Int) ^ k ≤ 65536 := by
        obtain rfl | rfl | rfl : k = 0 ∨ k = 1 ∨ k = 2 := by omega
        all_goals decide
      have hp0 := hpr.1
      have hp1 : pn s k < 65536 := by omega
      clear hpr h256
      have q3 : decide ((k : Int) < 3) = true := decide_eq_true (by omega)
      by_cases hin : k < s.size
      · have hx : ∀ h : k < s.size, ((s[k]'h).toNat : Int) = bt s k := fun h => bt_at s k (by simpa using h)
        have hnx : pn s (k + 1) = pn s k * 256 + bt s k := by simp only [pn]; rw [if_pos hin]
        have hbr := bt_range s k
        have HNX := Aside0.mk ((or_eight (pn s k) (bt s k) hp0 hp1 hbr.1 (by omega)).trans hnx.symm)
        have q4 : decide ((k : Int) < (s.size : Int)) = true := decide_eq_true (by omega)
        have q0 : (0 ≤ (k : Int)) = True := eq_true (by omega)
        have q1 : ((k : Int) < (s.size : Int)) = True := eq_true (by omega)
        have w1 : wrap64 (pn s k * 256) = pn s k * 256 := by unfold wrap64; omega
        have w2 : wrap64 (bt s k) = bt s k := by unfold wrap64; omega
        clear hnx hbr
        generalize pn s k = P at *
        generalize bt s k = c at *
        go_wp2
        go_round
        case rel => exact ⟨k + 1, by omega, by rw [← HNX.out], by go_num⟩
        case measure => simp [intOf]; omega
      · have hnx : Aside0 (pn s (k + 1) = pn s k * 256) := ⟨by simp only [pn]; rw [if_neg hin]; omega⟩
        have q4 : decide ((k : Int) < (s.size : Int)) = false := decide_eq_false (by omega)
        have w1 : wrap64 (pn s k * 256) = pn s k * 256 := by unfold wrap64; omega
        generalize pn s k = P at *
        go_wp2
        go_round
        case rel => exact ⟨k + 1, by omega, by rw [← hnx.out], by go_num⟩
        case measure => simp [intOf]; omega
    · obtain rfl : k = 3 := by omega
      go_wp2
      have hN := pn_range s 3
      have hN0 : 0 ≤ pn s 3 := hN.1
      have hN1 : pn s 3 < 16777216 := by
        have h2 := hN.2
        have e : (256 : Int) ^ 3 = 16777216 := by decide
        omega
      have HT := Aside0.mk (four_is s h1 h3)
      clear hN
      generalize pn s 3 = N at *
      have HB0 := Aside0.mk ((Below.refl w.heap.size w).alloc (Nat.le_refl _) (.cells #[.int .u8 0, .int .u8 0, .int .u8 0, .int .u8 0] 51))
      have HG0 := Aside0.mk (heap_alloc_new w (.cells #[.int .u8 0, .int .u8 0, .int .u8 0, .int .u8 0] 51))
      have hx := fun i => bt_at letters i
      generalize w.alloc (.cells #[.int .u8 0, .int .u8 0, .int .u8 0, .int .u8 0] 51) = W at *
      generalize hg : w.heap.size = g at *
      go_loopw [23] (fun v23 wr => ∃ (i : Nat) (a b c d : Int), v23 = .int .i64 i ∧ i ≤ 4 ∧ Aside0 (wr.heap[g]? = some (.cells #[.int .u8 a, .int .u8 b, .int .u8 c, .int .u8 d] 51 (0, 0))) ∧ Aside0 (Below g w wr) ∧ Aside0 ((0 < i → a = sg s N 0) ∧ (1 < i → b = sg s N 1) ∧ (2 < i → c = sg s N 2) ∧ (3 < i → d = sg s N 3))) (fun v23 _ => 4 - (intOf v23).toNat)
      case atStart => exact ⟨0, 0, 0, 0, 0, rfl, by omega, HG0, HB0, ⟨⟨by omega, by omega, by omega, by omega⟩⟩⟩
      case round =>
        obtain ⟨i, a, b, c, d, rfl, hi, HG, HB, HV⟩ := hrel
        have c0 : wr.cell? ⟨g, 0, none⟩ = some (.int .u8 a) := (blk_cell HG.out 0).trans rfl
        have c1 : wr.cell? ⟨g, 1, none⟩ = some (.int .u8 b) := (blk_cell HG.out 1).trans rfl
        have c2 : wr.cell? ⟨g, 2, none⟩ = some (.int .u8 c) := (blk_cell HG.out 2).trans rfl
        have c3 : wr.cell? ⟨g, 3, none⟩ = some (.int .u8 d) := (blk_cell HG.out 3).trans rfl
        have z0 := blk_frozen HG.out 0
        have z1 := blk_frozen HG.out 1
        have z2 := blk_frozen HG.out 2
        have z3 := blk_frozen HG.out 3
        obtain rfl | rfl | rfl | rfl | rfl : i = 0 ∨ i = 1 ∨ i = 2 ∨ i = 3 ∨ i = 4 := by omega
        · have e1 := and63 (N / 262144) (by omega) (by omega)
          have k0 : (0 ≤ N / 262144 % 64) = True := eq_true (by omega)
          have k1 : (N / 262144 % 64 < 64) = True := eq_true (by omega)
          have hl := bt_letters (N / 262144 % 64) (by omega) (by omega)
          have hy := hx (N / 262144 % 64)
          rw [hl] at hy
          have hsg : Aside0 (¬ s.size < 0 → lt (N / 262144 % 64) = sg s N 0) := ⟨fun h => by
            unfold sg
            rw [if_neg h]
            have e : (64 : Int) ^ (3 - 0) = 262144 := by decide
            rw [e]⟩
          have hs61 : Aside0 (s.size < 0 → 61 = sg s N 0) := ⟨fun h => by unfold sg; rw [if_pos h]⟩
          clear hl hx
          generalize N / 262144 % 64 = m at *
          have kc : decide ((0 : Int) > (s.size : Int)) = false := decide_eq_false (by omega)
          go_wp2
          go_roundw
          case rel => exact ⟨1, (lt m), b, c, d, by go_num, by omega, ⟨(blk_set HG.out 0 (.int .u8 (lt m)))⟩, ⟨(HB.out.setCell (p := ⟨g, 0, none⟩) (Nat.le_refl _) (.int .u8 (lt m)))⟩, ⟨⟨fun _ => hsg.out (by omega), fun h => absurd h (by omega), fun h => absurd h (by omega), fun h => absurd h (by omega)⟩⟩⟩
          case measure => simp [intOf]
        · have e1 := and63 (N / 4096) (by omega) (by omega)
          have k0 : (0 ≤ N / 4096 % 64) = True := eq_true (by omega)
          have k1 : (N / 4096 % 64 < 64) = True := eq_true (by omega)
          have hl := bt_letters (N / 4096 % 64) (by omega) (by omega)
          have hy := hx (N / 4096 % 64)
          rw [hl] at hy
          have hsg : Aside0 (¬ s.size < 1 → lt (N / 4096 % 64) = sg s N 1) := ⟨fun h => by
            unfold sg
            rw [if_neg h]
            have e : (64 : Int) ^ (3 - 1) = 4096 := by decide
            rw [e]⟩
          have hs61 : Aside0 (s.size < 1 → 61 = sg s N 1) := ⟨fun h => by unfold sg; rw [if_pos h]⟩
          clear hl hx
          generalize N / 4096 % 64 = m at *
          have kc : decide ((1 : Int) > (s.size : Int)) = false := decide_eq_false (by omega)
          go_wp2
          go_roundw
          case rel => exact ⟨2, a, (lt m), c, d, by go_num, by omega, ⟨(blk_set HG.out 1 (.int .u8 (lt m)))⟩, ⟨(HB.out.setCell (p := ⟨g, 1, none⟩) (Nat.le_refl _) (.int .u8 (lt m)))⟩, ⟨⟨fun _ => HV.out.1 (by omega), fun _ => hsg.out (by omega), fun h => absurd h (by omega), fun h => absurd h (by omega)⟩⟩⟩
          case measure => simp [intOf]
        · have e1 := and63 (N / 64) (by omega) (by omega)
          have k0 : (0 ≤ N / 64 % 64) = True := eq_true (by omega)
          have k1 : (N / 64 % 64 < 64) = True := eq_true (by omega)
          have hl := bt_letters (N / 64 % 64) (by omega) (by omega)
          have hy := hx (N / 64 % 64)
          rw [hl] at hy
          have hsg : Aside0 (¬ s.size < 2 → lt (N / 64 % 64) = sg s N 2) := ⟨fun h => by
            unfold sg
            rw [if_neg h]
            have e : (64 : Int) ^ (3 - 2) = 64 := by decide
            rw [e]⟩
          have hs61 : Aside0 (s.size < 2 → 61 = sg s N 2) := ⟨fun h => by unfold sg; rw [if_pos h]⟩
          clear hl hx
          generalize N / 64 % 64 = m at *
          by_cases hc : s.size < 2
          · have kc : decide ((2 : Int) > (s.size : Int)) = true := decide_eq_true (by omega)
            go_wp2
            go_roundw
            case rel => exact ⟨3, a, b, 61, d, by go_num, by omega, ⟨(blk_set (blk_set HG.out 2 (.int .u8 (lt m))) 2 (.int .u8 61))⟩, ⟨((HB.out.setCell (p := ⟨g, 2, none⟩) (Nat.le_refl _) (.int .u8 (lt m))).setCell (p := ⟨g, 2, none⟩) (Nat.le_refl _) (.int .u8 61))⟩, ⟨⟨fun _ => HV.out.1 (by omega), fun _ => HV.out.2.1 (by omega), fun _ => hs61.out hc, fun h => absurd h (by omega)⟩⟩⟩
            case measure => simp [intOf]
          · have kc : decide ((2 : Int) > (s.size : Int)) = false := decide_eq_false (by omega)
            go_wp2
            go_roundw
            case rel => exact ⟨3, a, b, (lt m), d, by go_num, by omega, ⟨(blk_set HG.out 2 (.int .u8 (lt m)))⟩, ⟨(HB.out.setCell (p := ⟨g, 2, none⟩) (Nat.le_refl _) (.int .u8 (lt m)))⟩, ⟨⟨fun _ => HV.out.1 (by omega), fun _ => HV.out.2.1 (by omega), fun _ => hsg.out hc, fun h => absurd h (by omega)⟩⟩⟩
            case measure => simp [intOf]
        · have e1 := and63 (N) (by omega) (by omega)
          have k0 : (0 ≤ N % 64) = True := eq_true (by omega)
          have k1 : (N % 64 < 64) = True := eq_true (by omega)
          have hl := bt_letters (N % 64) (by omega) (by omega)
          have hy := hx (N % 64)
          rw [hl] at hy
          have hsg : Aside0 (¬ s.size < 3 → lt (N % 64) = sg s N 3) := ⟨fun h => by
            unfold sg
            rw [if_neg h]
            have e : (64 : Int) ^ (3 - 3) = 1 := by decide
            rw [e, Int.ediv_one]⟩
          have hs61 : Aside0 (s.size < 3 → 61 = sg s N 3) := ⟨fun h => by unfold sg; rw [if_pos h]⟩
          clear hl hx
          generalize N % 64 = m at *
          by_cases hc : s.size < 3
          · have kc : decide ((3 : Int) > (s.size : Int)) = true := decide_eq_true (by omega)
            go_wp2
            go_roundw
            case rel => exact ⟨4, a, b, c, 61, by go_num, by omega, ⟨(blk_set (blk_set HG.out 3 (.int .u8 (lt m))) 3 (.int .u8 61))⟩, ⟨((HB.out.setCell (p := ⟨g, 3, none⟩) (Nat.le_refl _) (.int .u8 (lt m))).setCell (p := ⟨g, 3, none⟩) (Nat.le_refl _) (.int .u8 61))⟩, ⟨⟨fun _ => HV.out.1 (by omega), fun _ => HV.out.2.1 (by omega), fun _ => HV.out.2.2.1 (by omega), fun _ => hs61.out hc⟩⟩⟩
            case measure => simp [intOf]
          · have kc : decide ((3 : Int) > (s.size : Int)) = false := decide_eq_false (by omega)
            go_wp2
            go_roundw
            case rel => exact ⟨4, a, b, c, (lt m), by go_num, by omega, ⟨(blk_set HG.out 3 (.int .u8 (lt m)))⟩, ⟨(HB.out.setCell (p := ⟨g, 3, none⟩) (Nat.le_refl _) (.int .u8 (lt m)))⟩, ⟨⟨fun _ => HV.out.1 (by omega), fun _ => HV.out.2.1 (by omega), fun _ => HV.out.2.2.1 (by omega), fun _ => hsg.out hc⟩⟩⟩
            case measure => simp [intOf]
        · have hrd : ReadsInt wr .u8 (some ⟨g, 0, none⟩) 4 [a, b, c, d] := by
            refine ⟨rfl, by decide, fun _ => ⟨_, rfl, fun j hj => ?_⟩⟩
            rw [add_plain]
            obtain rfl | rfl | rfl | rfl : j = 0 ∨ j = 1 ∨ j = 2 ∨ j = 3 := by omega
            · exact c0
            · exact c1
            · exact c2
            · exact c3
          have hcv := string_of_reads (P := Try.prog) (src := 31) (dst := 9) (c := 4) Try.underlying31 Try.underlying5 Try.underlying9 hrd
          have HE : Aside0 ([a, b, c, d] = sixL (bytesOf s)) := ⟨by rw [HT.out, HV.out.1 (by omega), HV.out.2.1 (by omega), HV.out.2.2.1 (by omega), HV.out.2.2.2 (by omega)]⟩
          rw [HE.out] at hcv
          clear hrd
          go_wp2_with fail
          go_ret
          exact ⟨rfl, by rw [hg]; exact HB.out⟩
end Go.Proofs.Ytnakkfdopfhkcaa
