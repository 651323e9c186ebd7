/- TextAll: what package text says of any bytes (whether they are text, where not, how many signs) is what the reference says of them. No conditions. -/
import Derived.Test.YtljodbbmcgpcnaaGTextAllx2
namespace Go.Proofs.Ytljodbbmcgpcnaa.Pure
set_option linter.unusedVariables false
set_option linter.unusedSimpArgs false
open Go.RowKit Go.Proofs.Ytljodbbmcgpcnaa.GTextAll Go.Proofs.YtljodbbmcgpcnaaW.PrintWords Go.Proofs.YtljodbbmcgpcnaaW.PrintLast

theorem w64 {n : Int} (h0 : 0 ≤ n) (h1 : n < 9223372036854775808) : wrap64 n = n := by unfold wrap64; omega
theorem and63 (b : Int) (h : 0 ≤ b ∧ b ≤ 255) : wrap64 (Go.bits .and .u8 b 63) = b % 64 := by rw [u8_and63 b h.1 (by omega)]; exact w64 (by omega) (by omega)
theorem and31 (b : Int) (h : 0 ≤ b ∧ b ≤ 255) : wrap64 (Go.bits .and .u8 b 31) = b % 32 := by rw [u8_and31 b h.1 (by omega)]; exact w64 (by omega) (by omega)
theorem and15 (b : Int) (h : 0 ≤ b ∧ b ≤ 255) : wrap64 (Go.bits .and .u8 b 15) = b % 16 := by rw [u8_and15 b h.1 (by omega)]; exact w64 (by omega) (by omega)
theorem and7 (b : Int) (h : 0 ≤ b ∧ b ≤ 255) : wrap64 (Go.bits .and .u8 b 7) = b % 8 := by rw [u8_and7 b h.1 (by omega)]; exact w64 (by omega) (by omega)

theorem ref_loop (s t : ByteArray) (a n : Nat) (x d : Int) (hs : s.size ≤ 140737488351232) (ht : t = s.extract a s.size) (ha : a < s.size) (hx0 : 0 ≤ x) (hx1 : x < 128) (hn1 : 1 ≤ n) (hn4 : n ≤ 4) :
    ∀ (m j : Nat) (y : Int) (k : Nat), j + m + 1 = n → m + 1 < k → tailX s a x j = some y →
      gripsackref1_sign.l0 k t n y d (1 + j) = some (if (s.size : Int) < a + n then 0 else sgOf (tailX s a x (n - 1)) n d) := by
  intro m
  have htz : (t.size : Int) = if a ≤ s.size then (s.size : Int) - a else 0 := by rw [ht, ByteArray.size_extract]; split <;> omega
  induction m with
  | zero =>
    intro j y k hj hk hy
    obtain ⟨k, rfl⟩ : ∃ q, k = q + 1 := ⟨k - 1, by omega⟩
    have hin := tailX_in (x := x) (by omega : (a : Int) < s.size) j y hy
    obtain rfl : n = j + 1 := by omega
    simp only [gripsackref1_sign.l0]
    rw [if_neg (by omega), if_neg (show ¬ (s.size : Int) < (a : Int) + ((j + 1 : Nat) : Int) by omega), Nat.add_sub_cancel, hy]
    by_cases c1 : y < d
    · rw [if_pos c1, sgOf_bad (by simp [okX, c1])]
    rw [if_neg c1]
    by_cases c2 : y > 1114111
    · rw [if_pos c2, sgOf_bad (by simp [okX, c2])]
    rw [if_neg c2]
    by_cases c3 : y ≥ 55296
    · rw [if_pos c3]
      by_cases c4 : y ≤ 57343
      · rw [if_pos c4, sgOf_bad (by simp [okX, c3, c4])]
      · rw [if_neg c4, sgOf_ok (by simp [okX]; omega)]
    · rw [if_neg c3, sgOf_ok (by simp [okX]; omega)]
  | succ m ih =>
    intro j y k hj hk hy
    obtain ⟨k, rfl⟩ : ∃ q, k = q + 1 := ⟨k - 1, by omega⟩
    obtain ⟨hy0, hy1⟩ := tailX_lt s a x hx0 hx1 j y (by omega) hy
    simp only [gripsackref1_sign.l0]
    rw [if_pos (by omega)]
    by_cases hc : (1 + (j : Int)) ≥ (t.size : Int)
    · rw [if_pos hc, if_pos (by split at htz <;> omega)]
    · rw [if_neg hc, if_pos (by omega), if_pos (by omega)]
      have hb : bt t (1 + (j : Int)) = bt s (a + 1 + j) := by
        have := bt_extract s a s.size (Nat.le_refl _) (1 + j) (by split at htz <;> omega)
        rw [← ht] at this
        rw [show (1 + (j : Int)) = ((1 + j : Nat) : Int) from by omega, this]
        congr 1; omega
      rw [hb]
      have hr := bt_range s (a + 1 + j)
      by_cases hq : bt s (a + 1 + j) / 64 = 2
      · rw [if_pos hq, and63 _ hr, w64 (n := y * 64) (by omega) (by omega), or_six _ _ hy0 hy1 (by omega) (by omega), w64 (by omega) (by omega)]
        have := ih (j + 1) (y * 64 + bt s (a + 1 + j) % 64) k (by omega) (by omega) (tailX_step hy hq)
        rw [show (1 + (j : Int) + 1) = 1 + ((j + 1 : Nat) : Int) from by omega]
        exact this
      · rw [if_neg hq, tailX_stop hy hq (by omega : j < n - 1), sgOf_none]; simp
theorem ref_sign (s : ByteArray) (a : Nat) (ha : a < s.size) (hs : s.size ≤ 140737488351232) (k : Nat) (hk : 6 < k) : gripsackref1_sign.f k (s.extract a s.size) = some (sg s a) := by
  have hz : ((s.extract a s.size).size : Int) = (s.size : Int) - a := by rw [ByteArray.size_extract]; omega
  have hb : bt (s.extract a s.size) 0 = bt s a := by
    have := bt_extract s a s.size (Nat.le_refl _) 0 (by omega)
    rw [show ((0 : Nat) : Int) = 0 from rfl] at this
    rw [this, Int.add_zero]
  have hr := bt_range s a
  obtain ⟨k, rfl⟩ : ∃ q, k = q + 1 := ⟨k - 1, by omega⟩
  unfold gripsackref1_sign.f sg
  rw [if_pos (by omega), hb]
  rcases lng_cases (bt s a) with ⟨h1, h⟩ | ⟨h1, h2, h⟩ | ⟨h1, h2, h3, h⟩ | ⟨h1, h2, h3, h4, h⟩ | ⟨h1, h2, h3, h4, h⟩
  · rw [if_pos h1, h, if_neg (by dsimp only; omega)]
    simp [tailX, sgOf, okX, h1]
    try omega
  · rw [if_neg h1, if_pos h2, h, and31 _ hr]
    simp only [gripsackref1_sign.j0]
    have := ref_loop s _ a 2 (bt s a % 32) 128 hs rfl ha (by omega) (by omega) (by omega) (by omega) 1 0 _ k (by omega) (by omega) rfl
    simp only [Int.natCast_zero, Int.add_zero] at this
    exact this.trans (by congr 1; by_cases q : (s.size : Int) < (a : Int) + 2 <;> simp [q])
  · rw [if_neg h1, if_neg h2, if_pos h3, h, and15 _ hr]
    simp only [gripsackref1_sign.j0]
    have := ref_loop s _ a 3 (bt s a % 16) 2048 hs rfl ha (by omega) (by omega) (by omega) (by omega) 2 0 _ k (by omega) (by omega) rfl
    simp only [Int.natCast_zero, Int.add_zero] at this
    exact this.trans (by congr 1; by_cases q : (s.size : Int) < (a : Int) + 3 <;> simp [q])
  · rw [if_neg h1, if_neg h2, if_neg h3, if_pos h4, h, and7 _ hr]
    simp only [gripsackref1_sign.j0]
    have := ref_loop s _ a 4 (bt s a % 8) 65536 hs rfl ha (by omega) (by omega) (by omega) (by omega) 3 0 _ k (by omega) (by omega) rfl
    simp only [Int.natCast_zero, Int.add_zero] at this
    exact this.trans (by congr 1; by_cases q : (s.size : Int) < (a : Int) + 4 <;> simp [q])
  · rw [if_neg h1, if_neg h2, if_neg h3, if_neg h4, h]; simp
theorem ref_bad (s : ByteArray) (hs : s.size ≤ 140737488351232) : ∀ (k a : Nat) (c : Int), a ≤ s.size → s.size < a + k → gripsackref1_Bad.l0 (k + 10) s a = some (scan s k a c).1 := by
  intro k
  induction k with
  | zero => intro a c h h'; omega
  | succ k ih =>
    intro a c h h'
    rw [show k + 1 + 10 = (k + 10) + 1 from by omega]
    simp only [gripsackref1_Bad.l0, scan]
    by_cases hlt : (a : Int) < s.size
    · rw [if_pos hlt, if_pos hlt, if_pos (by omega), if_pos (by omega), Int.toNat_natCast, ref_sign s a (by omega) hs _ (by omega)]
      simp only [Option.bind_some]
      have hr := sg_range s a
      by_cases hz : sg s a = 0
      · rw [if_pos hz, if_pos hz]
      · have := hr.2.2 hz
        rw [if_neg hz, if_neg hz, w64 (by omega) (by omega)]
        obtain ⟨n, hn⟩ := Int.eq_ofNat_of_zero_le hr.1
        rw [hn] at this hz ⊢
        rw [show ((a : Int) + (n : Int)) = ((a + n : Nat) : Int) from by omega]
        exact ih (a + n) (c + 1) (by omega) (by omega)
    · rw [if_neg hlt, if_neg hlt]
theorem ref_count (s : ByteArray) (hs : s.size ≤ 140737488351232) : ∀ (k a : Nat) (c : Int), a ≤ s.size → s.size < a + k → 0 ≤ c → c ≤ a → gripsackref1_Count.l0 (k + 10) s c a = some (scan s k a c).2 := by
  intro k
  induction k with
  | zero => intro a c h h'; omega
  | succ k ih =>
    intro a c h h' h0 h1
    rw [show k + 1 + 10 = (k + 10) + 1 from by omega]
    simp only [gripsackref1_Count.l0, scan]
    by_cases hlt : (a : Int) < s.size
    · rw [if_pos hlt, if_pos hlt, if_pos (by omega), if_pos (by omega), Int.toNat_natCast, ref_sign s a (by omega) hs _ (by omega)]
      simp only [Option.bind_some]
      have hr := sg_range s a
      by_cases hz : sg s a = 0
      · rw [if_pos hz, if_pos hz]
      · have := hr.2.2 hz
        rw [if_neg hz, if_neg hz, w64 (n := (a : Int) + sg s a) (by omega) (by omega), w64 (by omega) (by omega)]
        obtain ⟨n, hn⟩ := Int.eq_ofNat_of_zero_le hr.1
        rw [hn] at this hz ⊢
        rw [show ((a : Int) + (n : Int)) = ((a + n : Nat) : Int) from by omega]
        exact ih (a + n) (c + 1) (by omega) (by omega) (by omega) (by omega)
    · rw [if_neg hlt, if_neg hlt]
theorem awake_true : gripsacklaw5_awake.f = some true := by decide +kernel
theorem TextAll : gripsacklaw5_TextAll.Pure := by
  intro s hs
  refine ⟨s.size + 1 + 10, ?_⟩
  unfold gripsacklaw5_TextAll.f
  by_cases h5 : (s.size : Int) > 500
  · rw [if_pos h5, awake_true]; rfl
  · have hb := ref_bad s hs (s.size + 1) 0 0 (by omega) (by omega)
    have hc := ref_count s hs (s.size + 1) 0 0 (by omega) (by omega) (by omega) (by omega)
    have hr : text_read.f s = some (scan s (s.size + 1) 0 0) := by unfold text_read.f; rw [if_pos hs]
    rw [if_neg h5]
    unfold text_Valid.f text_Bad.f text_Count.f gripsackref1_Valid.f gripsackref1_Bad.f gripsackref1_Count.f
    simp only [Int.natCast_zero] at hb hc
    rw [hr, hb, hc, awake_true]
    simp
end Go.Proofs.Ytljodbbmcgpcnaa.Pure
