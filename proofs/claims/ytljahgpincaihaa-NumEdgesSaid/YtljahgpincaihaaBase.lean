/- num.base walked: a number's bytes, or noField's panic; slices.Reverse of some bytes. -/
import Derived.Test.YtljahgpincaihaaOct
import Derived.RegionTactic
import Derived.ChangeAlike
namespace Go.Proofs.Ytljahgpincaihaa
set_option linter.unusedVariables false
set_option linter.unusedSimpArgs false
open Go.RowKit Go.Proofs.YtljahgpincaihaaW.PrintWords

/-- The first k and the last k exchanged. -/
def rv (xs : List Int) : Nat → List Int
  | 0 => xs
  | k + 1 => ((rv xs k).set k (rd (rv xs k) ((xs.length - 1 - k : Nat) : Int))).set (xs.length - 1 - k) (rd (rv xs k) (k : Int))
theorem rv_length (xs : List Int) : ∀ k, (rv xs k).length = xs.length
  | 0 => rfl
  | k + 1 => by simp [rv, rv_length xs k]
theorem rd_get (xs : List Int) (i : Nat) (h : i < xs.length) : rd xs (i : Int) = xs[i] := by
  simp [rd, List.getD_eq_getElem?_getD, List.getElem?_eq_getElem h]
theorem rv_get (xs : List Int) : ∀ k, 2 * k ≤ xs.length + 1 → ∀ j (h : j < xs.length), rd (rv xs k) (j : Int) = if j < k ∨ xs.length ≤ j + k then rd xs ((xs.length - 1 - j : Nat) : Int) else rd xs (j : Int)
  | 0, _, j, h => by rw [if_neg (by omega)]; rfl
  | k + 1, hk, j, h => by
    have ih := rv_get xs k (by omega)
    rw [rd_get _ _ (by rw [rv_length]; exact h)]
    simp only [rv]
    rw [List.getElem_set, List.getElem_set]
    by_cases h1 : xs.length - 1 - k = j
    · rw [if_pos h1, if_pos (by omega), ih k (by omega)]
      by_cases h2 : xs.length ≤ k + k
      · rw [if_pos (by omega)]
        congr 1; omega
      · rw [if_neg (by omega)]
        congr 1; omega
    · rw [if_neg h1]
      by_cases h2 : k = j
      · rw [if_pos h2, if_pos (by omega), ih _ (by omega)]
        by_cases h3 : xs.length - 1 - k < k ∨ xs.length ≤ xs.length - 1 - k + k
        · omega
        · rw [if_neg h3, h2]
      · rw [if_neg h2, ← rd_get _ _ (by rw [rv_length]; exact h), ih j h]
        by_cases h3 : j < k ∨ xs.length ≤ j + k
        · rw [if_pos h3, if_pos (by omega)]
        · rw [if_neg h3, if_neg (by omega)]
theorem rv_all (xs : List Int) (k : Nat) (h0 : xs.length ≤ 2 * k + 1) (h1 : 2 * k ≤ xs.length + 1) : rv xs k = xs.reverse := by
  apply List.ext_getElem
  · rw [rv_length, List.length_reverse]
  · intro j h2 h3
    have hj : j < xs.length := by rw [rv_length] at h2; exact h2
    have := rv_get xs k h1 j hj
    rw [rd_get _ _ h2] at this
    rw [this, List.getElem_reverse]
    split
    · rw [rd_get _ _ (by omega)]
    · rw [rd_get _ _ (by omega)]
      congr 1
      omega
set_option maxHeartbeats 4000000 in
set_option maxRecDepth 100000 in
theorem reverse_calls (B g n cap : Nat) (xs : List Int) (hn : n ≤ 9223372036854775807) (w : World) (HO : Aside0 (w.ownsRow B 5 1 (.slice (some ⟨g, 0, none⟩) n cap) n (nums .u8 xs))) :
    Calls Try.prog 34 #[.slice (some ⟨g, 0, none⟩) n cap] w fun e w' => e = .returned (.tuple #[]) ∧ w'.ownsRow B 5 1 (.slice (some ⟨g, 0, none⟩) n cap) n (nums .u8 xs.reverse) ∧ w.grownBy w' (some g) := by
  have hl : xs.length = n := by have := HO.out.1; simpa [nums] using this
  go_enter Try.func34, Try.ntmps34
  go_wp2_with fail
  go_loopw [2, 3] (fun v2 v3 wr => ∃ (k : Nat) (j : Int), v2 = .int .i64 k ∧ v3 = .int .i64 j ∧ j + 1 + k = n ∧ 2 * k ≤ n + 1 ∧ Aside0 (wr.ownsRow B 5 1 (.slice (some ⟨g, 0, none⟩) n cap) n (nums .u8 (rv xs k))) ∧ Aside0 (w.grownBy wr (some g))) (fun _ v3 _ => (intOf v3 + 1).toNat)
  case atStart => exact ⟨0, (n : Int) - 1, rfl, rfl, by omega, by omega, HO, ⟨World.grownBy.refl _ _⟩⟩
  case round =>
    obtain ⟨k, j, rfl, rfl, hjk, hk, HO, HG⟩ := hrel
    by_cases hlt : (k : Int) < j
    · obtain ⟨j, rfl⟩ := Int.eq_ofNat_of_zero_le (show 0 ≤ j by omega)
      obtain ⟨ci, fi⟩ := own_at HO.out (k : Int) (by omega) (by omega)
      obtain ⟨cj, fj⟩ := own_at HO.out (j : Int) (by omega) (by omega)
      simp only [Int.toNat_natCast] at ci fi cj fj
      obtain ⟨HO2, hg2⟩ := own_store HO.out (k : Int) (rd (rv xs k) j)
      obtain ⟨HO3, hg3⟩ := own_store HO2 (j : Int) (rd (rv xs k) k)
      simp only [Int.toNat_natCast] at HO2 hg2 HO3 hg3
      have hst : rv xs (k + 1) = ((rv xs k).set k (rd (rv xs k) j)).set j (rd (rv xs k) k) := by
        have : xs.length - 1 - k = j := by omega
        simp only [rv, this]
      rw [← hst] at HO3
      replace HO3 := Aside0.mk HO3
      have HG3 := Aside0.mk (HG.out.trans (hg2.trans hg3))
      clear hst HO2 hg2 hg3 HO HG
      generalize rd (rv xs k) (j : Int) = x at *
      generalize rd (rv xs k) (k : Int) = y at *
      have hkj : k ≠ j := by omega
      have b0 : (0 ≤ (k : Int)) = True := eq_true (by omega)
      have b1 : ((k : Int) < (n : Int)) = True := eq_true (by omega)
      have b2 : (0 ≤ (j : Int)) = True := eq_true (by omega)
      have b3 : ((j : Int) < (n : Int)) = True := eq_true (by omega)
      go_wp2_with fail
      go_region
      go_wp2_with fail
      go_roundw
      case rel => exact ⟨k + 1, (j : Int) - 1, by go_num, by go_num, by omega, by omega, ⟨HO3.out.drew⟩, ⟨HG3.out.trans ⟨rfl, rfl, rfl, Nat.le_refl _, fun _ _ _ => rfl⟩⟩⟩
      case measure => simp [intOf]
    · rw [rv_all xs k (by omega) (by omega)] at HO
      go_wp2_with fail
      go_end0
      exact ⟨rfl, HO.out, HG.out⟩

theorem info5 : (Try.prog.info? 5).map (fun i => (i.zero, i.size, i.bytes)) = some (some (.int .u8 0), 1, 1) := by kernel_rfl
theorem make_cap (m : Nat) (hm : m ≤ 1000) (W : World) : (Instr.makeSlice 34 (.int .i64 0) (.int .i64 (m : Int))).run Try.prog W = .ok (.slice (some ⟨W.heap.size, 0, none⟩) 0 m) (W.alloc (.cells (madeCells #[.int .u8 0] m) 5)) := by
  obtain ⟨i0, hi, hz0, hz1, hz2⟩ := info_parts info5
  have h := run_make (P := Try.prog) W 34 5 i0 (.int .u8 0) Try.underlying34 hi hz0 .i64 .i64 0 (m : Int) (Int.le_refl _) (by omega) (by rw [hz2]; omega) (by omega)
  rw [hz1, Nat.mul_one, Int.toNat_natCast] at h
  exact h
/-- The bytes, the last first. -/
def lo8 (k : Nat) (n : Int) : List Int := (by8 k n).reverse
theorem lo8_step (k : Nat) (n : Int) : lo8 k n ++ [n / 256 ^ k % 256] = lo8 (k + 1) n := by simp [lo8, by8]
theorem lo8_length (k : Nat) (n : Int) : (lo8 k n).length = k := by simp [lo8, by8_length]
theorem lo8_rev (k : Nat) (n b : Int) : (lo8 k n ++ [b]).reverse = b :: by8 k n := by simp [lo8]
theorem baseL_none {n w : Int} (h : ¬ ((w = 8 ∨ w = 12) ∧ (w = 12 ∨ (-72057594037927936 ≤ n ∧ n < 72057594037927936)))) : baseL n w = none := by unfold baseL; rw [if_neg h]
theorem baseL_some {n w : Int} (h : (w = 8 ∨ w = 12) ∧ (w = 12 ∨ (-72057594037927936 ≤ n ∧ n < 72057594037927936))) : baseL n w = some ((if n < 0 then 255 else 128) :: by8 (w.toNat - 1) n) := by unfold baseL; rw [if_pos h]
set_option maxHeartbeats 4000000 in
set_option maxRecDepth 100000 in
theorem base_ends (n m : Int) (hn0 : -9223372036854775808 ≤ n) (hn1 : n < 9223372036854775808) (w : World) : Calls Try.prog 25 #[.int .i64 n, .int .i64 m] w (NumEnd (baseL n m) w) := by
  have HW := Aside0.mk (wide_calls m)
  have HT := Aside0.mk must_true
  have HF := Aside0.mk must_false
  by_cases hm : m = 8 ∨ m = 12
  · have hw : (m == 8 || m == 12) = true := by rcases hm with rfl | rfl <;> rfl
    rw [hw] at HW
    by_cases hok : m = 12 ∨ (-72057594037927936 ≤ n ∧ n < 72057594037927936)
    · have HE := Aside0.mk (baseL_some (n := n) (w := m) ⟨hm, hok⟩)
      have kk : (m == 12) = true ∨ ((m == 12) = false ∧ decide (n ≥ -72057594037927936) = true ∧ decide (n < 72057594037927936) = true) := by
        by_cases h : m = 12
        · exact .inl (beq_iff_eq.mpr h)
        · exact .inr ⟨beq_eq_false_iff_ne.mpr h, decide_eq_true (by omega), decide_eq_true (by omega)⟩
      obtain ⟨m, rfl⟩ := Int.eq_ofNat_of_zero_le (show 0 ≤ m by omega)
      have hmk := make_cap m (by omega)
      rw [Int.toNat_natCast] at HE
      clear hw hok
      go_enter Try.func25, Try.ntmps25
      go_wp2_with fail
      refine (HW.out _).mono ?_
      rintro e w1 ⟨rfl, rfl⟩
      have HB : Aside0 (Below w1.heap.size w1 (w1.alloc (.cells (madeCells #[.int .u8 0] m) 5))) := ⟨(Below.refl _ _).alloc (Nat.le_refl _) _⟩
      have HO : Aside0 ((w1.alloc (.cells (madeCells #[.int .u8 0] m) 5)).ownsRow w1.heap.size 5 1 (.slice (some ⟨w1.heap.size, 0, none⟩) 0 m) 0 []) := ⟨World.ownsRow_made w1 _ m (Nat.le_refl _) (by unfold maxLen; omega) (by simp [size_madeCells])⟩
      rcases kk with k0 | ⟨k0, k1, k2⟩
      · go_wp2_with fail
        refine (HT.out _).mono ?_
        rintro e w1 ⟨rfl, rfl⟩
        go_wp2_with fail
        generalize w1.alloc (.cells (madeCells #[.int .u8 0] m) 5) = W0 at *
        generalize hg : w1.heap.size = g at *
        go_loopw [0, 5, 25] (fun v0 v5 v25 wr => ∃ (k : Nat), v0 = .int .i64 (n / 256 ^ k) ∧ v25 = .int .i64 k ∧ k + 1 ≤ m ∧ Aside0 (wr.ownsRow g 5 1 v5 k (nums .u8 (lo8 k n))) ∧ Aside0 (Below g w1 wr) ∧ Aside0 (g ≤ wr.heap.size)) (fun _ _ v25 _ => m - (intOf v25).toNat)
        case atStart => exact ⟨0, by simp, rfl, by omega, HO, HB, ⟨by have := HB.out.size; omega⟩⟩
        case round =>
          obtain ⟨k, rfl, rfl, hk, HO, HB, HZ⟩ := hrel
          clear hmk
          have hdiv : Aside0 (n / 256 ^ k / 256 = n / 256 ^ (k + 1)) := ⟨by rw [Int.pow_succ, Int.ediv_ediv_of_nonneg (Int.pow_nonneg (by decide))]⟩
          have hst := Aside0.mk (lo8_step k n)
          have hsg : n / 256 ^ k < 0 ↔ n < 0 := by
            have hp : (0 : Int) < 256 ^ k := Int.pow_pos (by decide)
            constructor
            · intro h
              rcases Int.lt_or_le n 0 with h2 | h2
              · exact h2
              · have := Int.ediv_nonneg h2 (Int.le_of_lt hp); omega
            · intro h
              exact Int.ediv_neg_of_neg_of_pos h hp
          have hbd : Aside0 (((lo8 k n).length + 1) * 1 ≤ 140737488355328) := ⟨by rw [lo8_length]; omega⟩
          have HOL : Aside0 (wr.ownsRow g 5 1 u5 (lo8 k n).length (nums .u8 (lo8 k n))) := ⟨by rw [lo8_length]; exact HO.out⟩
          by_cases hlt : k + 1 < m
          · have q2 : decide ((k : Int) < (m : Int) - 1) = true := decide_eq_true (by omega)
            clear hsg
            generalize n / 256 ^ k = q at *
            go_wp2_with (at_builtin; refine print_append_num (W := wr) (w0 := w1) g rfl (.tmp 27) (.tmp 30) 34 5 .u8 1 rfl Try.underlying34 info5 (by decide) u5 (lo8 k n) (q % 256) rfl rfl HOL.out HB.out HZ.out hbd.out ?_)
            rintro v1 w2 hown hB2 hg2 -
            rw [hst.out, lo8_length] at hown
            have HO2 := Aside0.mk hown
            have HB2 := Aside0.mk hB2
            have HZ2 : Aside0 (g ≤ w2.heap.size) := ⟨Nat.le_trans HZ.out hg2.size⟩
            clear hown hB2 hg2
            go_wp2_with fail
            go_roundw
            case rel => exact ⟨k + 1, by rw [← hdiv.out], by go_num, by omega, HO2, HB2, HZ2⟩
            case measure => simp [intOf]; omega
          · have q2 : decide ((k : Int) < (m : Int) - 1) = false := decide_eq_false (by omega)
            obtain rfl : k = m - 1 := by omega
            generalize n / 256 ^ (m - 1) = q at *
            by_cases hneg : n < 0
            · have q3 : decide (q < 0) = true := decide_eq_true (hsg.2 hneg)
              rw [if_pos hneg] at HE
              clear hsg hneg hdiv hst
              go_wp2_with (at_builtin; refine print_append_num (W := wr) (w0 := w1) g rfl (.tmp 37) (.tmp 38) 34 5 .u8 1 rfl Try.underlying34 info5 (by decide) u5 (lo8 (m - 1) n) 255 rfl rfl HOL.out HB.out HZ.out hbd.out ?_)
              rintro v1 w2 hown hB2 hg2 -
              rw [lo8_length, show m - 1 + 1 = m from by omega] at hown
              obtain ⟨g1, cap, rfl, hgb, hgl⟩ := hown.form (by omega)
              have HO2 := Aside0.mk hown
              have HB2 := Aside0.mk hB2
              have HZ2 : Aside0 (g ≤ w2.heap.size) := ⟨Nat.le_trans HZ.out hg2.size⟩
              have HR := Aside0.mk (reverse_calls g g1 m cap _ (by omega) w2 HO2)
              clear hown hB2 hg2
              go_wp2_with fail
              refine HR.out.mono ?_
              rintro e w3 ⟨rfl, hO3, hG3⟩
              rw [lo8_rev] at hO3
              have hcv := own_string (P := Try.prog) (dst := 9) Try.underlying34 Try.underlying5 Try.underlying9 hO3
              have HB3 : Aside0 (Below g w1 w3) := ⟨HB2.out.grown hG3 HZ2.out (fun k hk => by have := Option.some.inj hk; omega)⟩
              clear hO3 hG3
              go_wp2_with fail
              go_ret
              unfold NumEnd
              rw [HE.out]
              exact ⟨rfl, by rw [hg]; exact HB3.out⟩
            · have q3 : decide (q < 0) = false := decide_eq_false (fun h => hneg (hsg.1 h))
              rw [if_neg hneg] at HE
              clear hsg hneg hdiv hst
              go_wp2_with (at_builtin; refine print_append_num (W := wr) (w0 := w1) g rfl (.tmp 40) (.tmp 41) 34 5 .u8 1 rfl Try.underlying34 info5 (by decide) u5 (lo8 (m - 1) n) 128 rfl rfl HOL.out HB.out HZ.out hbd.out ?_)
              rintro v1 w2 hown hB2 hg2 -
              rw [lo8_length, show m - 1 + 1 = m from by omega] at hown
              obtain ⟨g1, cap, rfl, hgb, hgl⟩ := hown.form (by omega)
              have HO2 := Aside0.mk hown
              have HB2 := Aside0.mk hB2
              have HZ2 : Aside0 (g ≤ w2.heap.size) := ⟨Nat.le_trans HZ.out hg2.size⟩
              have HR := Aside0.mk (reverse_calls g g1 m cap _ (by omega) w2 HO2)
              clear hown hB2 hg2
              go_wp2_with fail
              refine HR.out.mono ?_
              rintro e w3 ⟨rfl, hO3, hG3⟩
              rw [lo8_rev] at hO3
              have hcv := own_string (P := Try.prog) (dst := 9) Try.underlying34 Try.underlying5 Try.underlying9 hO3
              have HB3 : Aside0 (Below g w1 w3) := ⟨HB2.out.grown hG3 HZ2.out (fun k hk => by have := Option.some.inj hk; omega)⟩
              clear hO3 hG3
              go_wp2_with fail
              go_ret
              unfold NumEnd
              rw [HE.out]
              exact ⟨rfl, by rw [hg]; exact HB3.out⟩
      · go_wp2_with fail
        refine (HT.out _).mono ?_
        rintro e w1 ⟨rfl, rfl⟩
        go_wp2_with fail
        generalize w1.alloc (.cells (madeCells #[.int .u8 0] m) 5) = W0 at *
        generalize hg : w1.heap.size = g at *
        go_loopw [0, 5, 25] (fun v0 v5 v25 wr => ∃ (k : Nat), v0 = .int .i64 (n / 256 ^ k) ∧ v25 = .int .i64 k ∧ k + 1 ≤ m ∧ Aside0 (wr.ownsRow g 5 1 v5 k (nums .u8 (lo8 k n))) ∧ Aside0 (Below g w1 wr) ∧ Aside0 (g ≤ wr.heap.size)) (fun _ _ v25 _ => m - (intOf v25).toNat)
        case atStart => exact ⟨0, by simp, rfl, by omega, HO, HB, ⟨by have := HB.out.size; omega⟩⟩
        case round =>
          obtain ⟨k, rfl, rfl, hk, HO, HB, HZ⟩ := hrel
          clear hmk
          have hdiv : Aside0 (n / 256 ^ k / 256 = n / 256 ^ (k + 1)) := ⟨by rw [Int.pow_succ, Int.ediv_ediv_of_nonneg (Int.pow_nonneg (by decide))]⟩
          have hst := Aside0.mk (lo8_step k n)
          have hsg : n / 256 ^ k < 0 ↔ n < 0 := by
            have hp : (0 : Int) < 256 ^ k := Int.pow_pos (by decide)
            constructor
            · intro h
              rcases Int.lt_or_le n 0 with h2 | h2
              · exact h2
              · have := Int.ediv_nonneg h2 (Int.le_of_lt hp); omega
            · intro h
              exact Int.ediv_neg_of_neg_of_pos h hp
          have hbd : Aside0 (((lo8 k n).length + 1) * 1 ≤ 140737488355328) := ⟨by rw [lo8_length]; omega⟩
          have HOL : Aside0 (wr.ownsRow g 5 1 u5 (lo8 k n).length (nums .u8 (lo8 k n))) := ⟨by rw [lo8_length]; exact HO.out⟩
          by_cases hlt : k + 1 < m
          · have q2 : decide ((k : Int) < (m : Int) - 1) = true := decide_eq_true (by omega)
            clear hsg
            generalize n / 256 ^ k = q at *
            go_wp2_with (at_builtin; refine print_append_num (W := wr) (w0 := w1) g rfl (.tmp 27) (.tmp 30) 34 5 .u8 1 rfl Try.underlying34 info5 (by decide) u5 (lo8 k n) (q % 256) rfl rfl HOL.out HB.out HZ.out hbd.out ?_)
            rintro v1 w2 hown hB2 hg2 -
            rw [hst.out, lo8_length] at hown
            have HO2 := Aside0.mk hown
            have HB2 := Aside0.mk hB2
            have HZ2 : Aside0 (g ≤ w2.heap.size) := ⟨Nat.le_trans HZ.out hg2.size⟩
            clear hown hB2 hg2
            go_wp2_with fail
            go_roundw
            case rel => exact ⟨k + 1, by rw [← hdiv.out], by go_num, by omega, HO2, HB2, HZ2⟩
            case measure => simp [intOf]; omega
          · have q2 : decide ((k : Int) < (m : Int) - 1) = false := decide_eq_false (by omega)
            obtain rfl : k = m - 1 := by omega
            generalize n / 256 ^ (m - 1) = q at *
            by_cases hneg : n < 0
            · have q3 : decide (q < 0) = true := decide_eq_true (hsg.2 hneg)
              rw [if_pos hneg] at HE
              clear hsg hneg hdiv hst
              go_wp2_with (at_builtin; refine print_append_num (W := wr) (w0 := w1) g rfl (.tmp 37) (.tmp 38) 34 5 .u8 1 rfl Try.underlying34 info5 (by decide) u5 (lo8 (m - 1) n) 255 rfl rfl HOL.out HB.out HZ.out hbd.out ?_)
              rintro v1 w2 hown hB2 hg2 -
              rw [lo8_length, show m - 1 + 1 = m from by omega] at hown
              obtain ⟨g1, cap, rfl, hgb, hgl⟩ := hown.form (by omega)
              have HO2 := Aside0.mk hown
              have HB2 := Aside0.mk hB2
              have HZ2 : Aside0 (g ≤ w2.heap.size) := ⟨Nat.le_trans HZ.out hg2.size⟩
              have HR := Aside0.mk (reverse_calls g g1 m cap _ (by omega) w2 HO2)
              clear hown hB2 hg2
              go_wp2_with fail
              refine HR.out.mono ?_
              rintro e w3 ⟨rfl, hO3, hG3⟩
              rw [lo8_rev] at hO3
              have hcv := own_string (P := Try.prog) (dst := 9) Try.underlying34 Try.underlying5 Try.underlying9 hO3
              have HB3 : Aside0 (Below g w1 w3) := ⟨HB2.out.grown hG3 HZ2.out (fun k hk => by have := Option.some.inj hk; omega)⟩
              clear hO3 hG3
              go_wp2_with fail
              go_ret
              unfold NumEnd
              rw [HE.out]
              exact ⟨rfl, by rw [hg]; exact HB3.out⟩
            · have q3 : decide (q < 0) = false := decide_eq_false (fun h => hneg (hsg.1 h))
              rw [if_neg hneg] at HE
              clear hsg hneg hdiv hst
              go_wp2_with (at_builtin; refine print_append_num (W := wr) (w0 := w1) g rfl (.tmp 40) (.tmp 41) 34 5 .u8 1 rfl Try.underlying34 info5 (by decide) u5 (lo8 (m - 1) n) 128 rfl rfl HOL.out HB.out HZ.out hbd.out ?_)
              rintro v1 w2 hown hB2 hg2 -
              rw [lo8_length, show m - 1 + 1 = m from by omega] at hown
              obtain ⟨g1, cap, rfl, hgb, hgl⟩ := hown.form (by omega)
              have HO2 := Aside0.mk hown
              have HB2 := Aside0.mk hB2
              have HZ2 : Aside0 (g ≤ w2.heap.size) := ⟨Nat.le_trans HZ.out hg2.size⟩
              have HR := Aside0.mk (reverse_calls g g1 m cap _ (by omega) w2 HO2)
              clear hown hB2 hg2
              go_wp2_with fail
              refine HR.out.mono ?_
              rintro e w3 ⟨rfl, hO3, hG3⟩
              rw [lo8_rev] at hO3
              have hcv := own_string (P := Try.prog) (dst := 9) Try.underlying34 Try.underlying5 Try.underlying9 hO3
              have HB3 : Aside0 (Below g w1 w3) := ⟨HB2.out.grown hG3 HZ2.out (fun k hk => by have := Option.some.inj hk; omega)⟩
              clear hO3 hG3
              go_wp2_with fail
              go_ret
              unfold NumEnd
              rw [HE.out]
              exact ⟨rfl, by rw [hg]; exact HB3.out⟩
    · have HE := Aside0.mk (baseL_none (n := n) (w := m) (fun h => hok h.2))
      have k0 : (m == 12) = false := beq_eq_false_iff_ne.mpr (fun h => hok (.inl h))
      by_cases h1 : n ≥ -72057594037927936
      · have k1 : decide (n ≥ -72057594037927936) = true := decide_eq_true h1
        have k2 : decide (n < 72057594037927936) = false := decide_eq_false (fun h => hok (.inr ⟨h1, h⟩))
        go_enter Try.func25, Try.ntmps25
        go_wp2_with fail
        refine (HW.out _).mono ?_
        rintro e w1 ⟨rfl, rfl⟩
        go_wp2_with fail
        refine (HF.out _).mono ?_
        rintro e w1 ⟨rfl, rfl⟩
        unfold NumEnd
        rw [HE.out]
        exact ⟨rfl, rfl, Below.refl _ _⟩
      · have k1 : decide (n ≥ -72057594037927936) = false := decide_eq_false h1
        go_enter Try.func25, Try.ntmps25
        go_wp2_with fail
        refine (HW.out _).mono ?_
        rintro e w1 ⟨rfl, rfl⟩
        go_wp2_with fail
        refine (HF.out _).mono ?_
        rintro e w1 ⟨rfl, rfl⟩
        unfold NumEnd
        rw [HE.out]
        exact ⟨rfl, rfl, Below.refl _ _⟩
  · have hw : (m == 8 || m == 12) = false := by
      rw [Bool.or_eq_false_iff]
      exact ⟨beq_eq_false_iff_ne.mpr fun h => hm (.inl h), beq_eq_false_iff_ne.mpr fun h => hm (.inr h)⟩
    rw [hw] at HW
    have HE := Aside0.mk (baseL_none (n := n) (w := m) (fun h => hm h.1))
    go_enter Try.func25, Try.ntmps25
    go_wp2_with fail
    refine (HW.out _).mono ?_
    rintro e w1 ⟨rfl, rfl⟩
    go_wp2_with fail
    refine (HF.out _).mono ?_
    rintro e w1 ⟨rfl, rfl⟩
    unfold NumEnd
    rw [HE.out]
    exact ⟨rfl, rfl, Below.refl _ _⟩
end Go.Proofs.Ytljahgpincaihaa
