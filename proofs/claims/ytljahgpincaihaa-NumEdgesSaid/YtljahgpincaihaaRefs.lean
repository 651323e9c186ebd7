/- The document's fields are the program's: its six functions, told by the plain ones. -/
import Derived.Test.YtljahgpincaihaaGEx2
import Derived.Test.YtljahgpincaihaaGEx3
import Derived.Test.YtljahgpincaihaaNums
namespace Go.Proofs.Ytljahgpincaihaa
set_option linter.unusedVariables false
set_option linter.unusedSimpArgs false
open Go.RowKit Go.Proofs.Ytljahgpincaihaa.GE Go.Proofs.YtljahgpincaihaaW.PrintWords Go.Proofs.YtljahgpincaihaaW.PrintLast Go.Proofs.YtljahgpincaihaaW.PrintMore

theorem toList_iff {a b : ByteArray} : a.toList = b.toList ↔ a = b := toList_inj
/-! ### Digits by eights -/
theorem oct_loop (N w : Int) (hw : w = 8 ∨ w = 12) (h0 : 0 ≤ N) (h1 : N < 9223372036854775808) : ∀ (d j k : Nat), j + d = 22 → d < k → ((j : Int) ≤ w - 1 ∨ 8 ^ (w.toNat - 1) ≤ N) →
    gripsackref1_Octal.l0 k (N / 8 ^ j) w (strOfNums (dg8 j N)) = some (octS N w)
  | d, j, 0, hj, hk, hi => by omega
  | d, j, k + 1, hj, hk, hi => by
    have hz : (strOfNums (dg8 j N)).size = j := by rw [strOfNums_size, dg8_length]
    have hw1 : wrap64 (w - 1) = w - 1 := by unfold wrap64; omega
    have hp := pow_pos8 j
    have hq0 : 0 ≤ N / 8 ^ j := Int.ediv_nonneg h0 (Int.le_of_lt hp)
    have hq1 : N / 8 ^ j ≤ N := Int.ediv_le_self _ h0
    have e : N / 8 ^ (j + 1) = N / 8 ^ j / 8 := by rw [Int.pow_succ, Int.ediv_ediv_of_nonneg (Int.le_of_lt hp)]
    have hround : d ≠ 0 → ((((j + 1 : Nat) : Int) ≤ w - 1 ∨ 8 ^ (w.toNat - 1) ≤ N)) → ((some (([(wrap64 (48 + (Int.tmod (N / 8 ^ j) 8))) % 256] : List Int) : List Int)).bind fun y102 => (if (strOfNums y102).size + j ≤ 9223372036854775807 then (gripsackref1_Octal.l0 k (wrap64 (Int.tdiv (N / 8 ^ j) 8)) w ((strOfNums y102) ++ (strOfNums (dg8 j N)))) else (none))) = some (octS N w) := by
      intro hd hi2
      have ih := oct_loop N w hw h0 h1 (d - 1) (j + 1) k (by omega) (by omega) hi2
      rw [Option.bind_some, if_pos (by rw [strOfNums_size]; show 1 + j ≤ _; omega), ← strOfNums_append, Int.tmod_eq_emod_of_nonneg hq0, Int.tdiv_eq_ediv_of_nonneg hq0]
      rw [e, dg8] at ih
      generalize N / 8 ^ j = q at *
      rw [show wrap64 (48 + q % 8) % 256 = 48 + q % 8 from by unfold wrap64; omega, show wrap64 (q / 8) = q / 8 from by unfold wrap64; omega]
      exact ih
    have hbig : (0 < N / 8 ^ j) ↔ 8 ^ j ≤ N := by
      have h := Int.le_ediv_iff_mul_le (a := 1) (b := N) hp
      rw [Int.one_mul] at h
      constructor
      · intro h2; exact h.1 (by omega)
      · intro h2; have := h.2 h2; omega
    have hend : j = 22 → ¬ 0 < N / 8 ^ j := by
      rintro rfl h2
      have := hbig.1 h2
      have : (8 : Int) ^ 22 = 73786976294838206464 := by decide
      omega
    have hjw : (j : Int) = w - 1 → 0 < N / 8 ^ j → 8 ^ (w.toNat - 1) ≤ N := by
      intro h2 h3
      rw [show w.toNat - 1 = j from by omega]
      exact hbig.1 h3
    rw [gripsackref1_Octal.l0, hz, hw1]
    by_cases hpos : N / 8 ^ j > 0
    · rw [if_pos hpos]
      apply hround
      · rintro rfl
        exact hend (by omega) hpos
      · rcases hi with hi | hi
        · by_cases h2 : (j : Int) = w - 1
          · exact .inr (hjw h2 hpos)
          · exact .inl (by omega)
        · exact .inr hi
    · rw [if_neg hpos]
      by_cases hlt : (j : Int) < w - 1
      · rw [if_pos hlt]
        apply hround
        · omega
        · exact .inl (by omega)
      · rw [if_neg hlt]
        by_cases hge : (j : Int) ≥ w
        · rw [if_pos hge, octS_none (octL_none (fun h => by have := h.2.2; rcases hi with hi | hi <;> omega))]
        · have hj1 : w.toNat - 1 = j := by omega
          have hN : N < 8 ^ j := by
            rcases Int.lt_or_le N (8 ^ j) with h | h
            · exact h
            · exact absurd (hbig.2 h) hpos
          rw [if_neg hge, if_pos (by omega), octS_some (octL_some (n := N) (w := w) ⟨hw, h0, by rw [hj1]; exact hN⟩), hj1, strOfNums_append]
          rfl
theorem ref_octal (n w : Int) (h1 : n < 9223372036854775808) (k : Nat) (hk : 30 ≤ k) : gripsackref1_Octal.f k n w = some (octS n w) := by
  obtain ⟨k, rfl⟩ : ∃ m, k = m + 1 := ⟨k - 1, by omega⟩
  have main : (w = 8 ∨ w = 12) → gripsackref1_Octal.j0 (k + 1) n w (decide (n < 0)) = some (octS n w) := by
    intro hw
    rw [gripsackref1_Octal.j0]
    by_cases h : n < 0
    · rw [decide_eq_true h, if_pos rfl, octS_none (octL_none (fun e => by omega))]
    · rw [decide_eq_false h, if_neg (by decide)]
      have := oct_loop n w hw (by omega) h1 22 0 k (by omega) (by omega) (.inl (by omega))
      simpa [dg8, strOfNums] using this
  unfold gripsackref1_Octal.f
  by_cases h8 : w = 8
  · rw [if_pos h8]; exact main (.inl h8)
  · rw [if_neg h8]
    by_cases h12 : w = 12
    · rw [if_pos h12]; exact main (.inr h12)
    · rw [if_neg h12, gripsackref1_Octal.j0, if_pos rfl, octS_none (octL_none (fun e => by omega))]
/-! ### Bytes -/
theorem by8_get (n : Int) : ∀ (k i : Nat), i < k → (by8 k n)[i]? = some (n / 256 ^ (k - 1 - i) % 256)
  | k + 1, 0, _ => by simp [by8]
  | k + 1, i + 1, h => by
    rw [by8, List.getElem?_cons_succ, by8_get n k i (by omega), show k + 1 - 1 - (i + 1) = k - 1 - i from by omega]
/-- The row, its first i bytes behind the head written. -/
def rowB (h n : Int) (m i : Nat) : List Int := h :: ((by8 (m - 1) n).take i ++ List.replicate (m - 1 - i) 0)
theorem rowB_length (h n : Int) (m i : Nat) (hm : 1 ≤ m) (hi : i ≤ m - 1) : (rowB h n m i).length = m := by
  unfold rowB
  simp only [List.length_cons, List.length_append, List.length_take, by8_length, List.length_replicate]
  omega
theorem rowB_set (h n : Int) (m i : Nat) (hi : i + 1 < m) : (rowB h n m i).set (i + 1) (n / 256 ^ (m - 2 - i) % 256) = rowB h n m (i + 1) := by
  unfold rowB
  have hg := by8_get n (m - 1) i (by omega)
  rw [show m - 1 - 1 - i = m - 2 - i from by omega] at hg
  rw [List.set_cons_succ, List.set_append_right _ _ (by rw [List.length_take, by8_length]; omega), List.length_take, by8_length, show i - min i (m - 1) = 0 from by omega, show m - 1 - i = (m - 1 - (i + 1)) + 1 from by omega, List.replicate_succ, List.set_cons_zero, List.take_add_one, hg]
  simp
theorem rowB_same (h n : Int) (m i : Nat) (hi : i + 1 < m) (h0 : n / 256 ^ (m - 2 - i) % 256 = 0) : rowB h n m i = rowB h n m (i + 1) := by
  rw [← rowB_set h n m i hi, h0]
  unfold rowB
  rw [List.set_cons_succ, List.set_append_right _ _ (by rw [List.length_take, by8_length]; omega), List.length_take, by8_length, show i - min i (m - 1) = 0 from by omega, show m - 1 - i = (m - 1 - (i + 1)) + 1 from by omega, List.replicate_succ, List.set_cons_zero]
theorem high (n : Int) (h0 : -9223372036854775808 ≤ n) (h1 : n < 9223372036854775808) (j : Nat) (hj : j = 8 ∨ j = 9 ∨ j = 10) : n / 256 ^ j % 256 = if n < 0 then 255 else 0 := by
  rcases hj with rfl | rfl | rfl
  · show n / 18446744073709551616 % 256 = _
    split <;> omega
  · show n / 4722366482869645213696 % 256 = _
    split <;> omega
  · show n / 1208925819614629174706176 % 256 = _
    split <;> omega
theorem base_loop (n h : Int) (m : Nat) (hm : m = 8 ∨ m = 12) (h0 : -9223372036854775808 ≤ n) (h1 : n < 9223372036854775808) : ∀ (d i k : Nat), i + d = m - 1 → d < k →
    gripsackref1_Base.l0 k n m (rowB h n m i) ((i + 1 : Nat) : Int) = some (strOfNums (h :: by8 (m - 1) n), true)
  | d, i, 0, hd, hk => by omega
  | 0, i, k + 1, hd, hk => by
    rw [gripsackref1_Base.l0, if_neg (by omega), show i = m - 1 from by omega]
    unfold rowB
    rw [List.take_of_length_le (by rw [by8_length]; exact Nat.le_refl _)]
    simp
  | d + 1, i, k + 1, hd, hk => by
    have ih := base_loop n h m hm h0 h1 d (i + 1) k (by omega) (by omega)
    have hw : wrap64 (8 * wrap64 (wrap64 ((m : Int) - 1) - ((i + 1 : Nat) : Int))) = ((8 * (m - 2 - i) : Nat) : Int) := by unfold wrap64; omega
    have hwi : wrap64 (((i + 1 : Nat) : Int) + 1) = ((i + 1 + 1 : Nat) : Int) := by unfold wrap64; omega
    have hlen := rowB_length h n m i (by omega) (by omega)
    rw [gripsackref1_Base.l0, if_pos (by omega), hw, hwi, hlen]
    by_cases hs : m - 2 - i < 8
    · have hsh : shr .i64 n ((8 * (m - 2 - i) : Nat) : Int) = n / 256 ^ (m - 2 - i) := by
        unfold shr
        rw [Int.toNat_natCast, Nat.min_eq_left (by show 8 * (m - 2 - i) ≤ 64; omega), Int.pow_mul]
        rfl
      rw [if_pos (by omega), if_pos (by omega), if_pos (by omega), if_pos (by omega), hsh, Int.toNat_natCast, rowB_set h n m i (by omega)]
      exact ih
    · have hh := high n h0 h1 (m - 2 - i) (by omega)
      rw [if_neg (by omega)]
      by_cases hn : n < 0
      · rw [if_pos hn] at hh
        have := rowB_set h n m i (by omega)
        rw [hh] at this
        rw [if_pos hn, if_pos (by omega), if_pos (by omega), Int.toNat_natCast, this]
        exact ih
      · rw [if_neg hn] at hh
        rw [if_neg hn, rowB_same h n m i (by omega) hh]
        exact ih
theorem ref_base (n w : Int) (h0 : -9223372036854775808 ≤ n) (h1 : n < 9223372036854775808) (k : Nat) (hk : 30 ≤ k) : gripsackref1_Base.f k n w = some (baseS n w) := by
  obtain ⟨k, rfl⟩ : ∃ m, k = m + 2 := ⟨k - 2, by omega⟩
  have main : ∀ m : Nat, (m = 8 ∨ m = 12) → ((m : Int) = 12 ∨ (-72057594037927936 ≤ n ∧ n < 72057594037927936)) → gripsackref1_Base.j0 (k + 2) n m false = some (baseS n m) := by
    intro m hm hr
    have hz : (List.replicate m (0 : Int)).set 0 128 = rowB 128 n m 0 := by
      unfold rowB
      obtain ⟨j, rfl⟩ : ∃ j, m = j + 1 := ⟨m - 1, by omega⟩
      rw [List.replicate_succ, List.set_cons_zero]
      simp
    have hz2 : (rowB 128 n m 0).set 0 255 = rowB 255 n m 0 := by unfold rowB; rw [List.set_cons_zero]
    rw [gripsackref1_Base.j0, if_neg (by decide), if_pos (by omega), if_pos (by rw [Int.toNat_natCast]; omega), Option.bind_some, if_pos (by rw [List.length_replicate, Int.toNat_natCast]; omega), Option.bind_some, Int.toNat_natCast, Int.toNat_zero, hz, hz2]
    rw [baseS_some (baseL_some (n := n) (w := m) ⟨by omega, hr⟩), Int.toNat_natCast]
    by_cases hn : n < 0
    · rw [if_pos hn, if_pos hn, gripsackref1_Base.j1]
      exact base_loop n 255 m hm h0 h1 (m - 1) 0 k (by omega) (by omega)
    · rw [if_neg hn, if_neg hn, gripsackref1_Base.j1]
      exact base_loop n 128 m hm h0 h1 (m - 1) 0 k (by omega) (by omega)
  have bad : ∀ w : Int, ¬ ((w = 8 ∨ w = 12) ∧ (w = 12 ∨ (-72057594037927936 ≤ n ∧ n < 72057594037927936))) → gripsackref1_Base.j0 (k + 2) n w true = some (baseS n w) := by
    intro w hw
    rw [gripsackref1_Base.j0, if_pos rfl, baseS_none (baseL_none hw)]
  unfold gripsackref1_Base.f
  by_cases h8 : w = 8
  · subst h8
    rw [if_pos rfl]
    by_cases hb : n ≥ 72057594037927936
    · rw [if_pos hb]; exact bad 8 (by omega)
    · rw [if_neg hb]
      by_cases hc : n < -72057594037927936
      · rw [decide_eq_true hc]; exact bad 8 (by omega)
      · rw [decide_eq_false hc]; exact main 8 (.inl rfl) (.inr (by omega))
  · rw [if_neg h8]
    by_cases h12 : w = 12
    · subst h12
      rw [if_pos rfl]; exact main 12 (.inr rfl) (.inl rfl)
    · rw [if_neg h12]; exact bad w (by omega)
theorem ref_field (n w : Int) (h0 : -9223372036854775808 ≤ n) (h1 : n < 9223372036854775808) (k : Nat) (hk : 30 ≤ k) : gripsackref1_Field.f k n w = some (fieldS n w) := by
  unfold gripsackref1_Field.f fieldS
  rw [ref_octal n w h1 k hk, Option.bind_some, ref_base n w h0 h1 k hk, Option.bind_some]
  by_cases h : (octS n w).2 = true
  · rw [if_pos h, if_pos h]
  · rw [if_neg h, if_neg h]
/-! ### Reading -/
def ro : Int → List Int → Int
  | n, [] => n
  | n, c :: l => ro (n * 8 + c % 8) l
theorem ro_dg8 (n : Int) (h0 : 0 ≤ n) : ∀ k, ro (n / 8 ^ k) (dg8 k n) = n
  | 0 => by simp [dg8, ro]
  | k + 1 => by
    have ih := ro_dg8 n h0 k
    have e : n / 8 ^ (k + 1) = n / 8 ^ k / 8 := by rw [Int.pow_succ, Int.ediv_ediv_of_nonneg (Int.pow_nonneg (by decide))]
    rw [dg8, ro, e]
    generalize n / 8 ^ k = q at *
    rw [show q / 8 * 8 + (48 + q % 8) % 8 = q from by omega]
    exact ih
theorem ro_range : ∀ (l : List Int) (n : Int) (k : Nat), 0 ≤ n → n < 8 ^ k → 0 ≤ ro n l ∧ ro n l < 8 ^ (k + l.length)
  | [], n, k, h0, h1 => ⟨h0, h1⟩
  | c :: l, n, k, h0, h1 => by
    have := ro_range l (n * 8 + c % 8) (k + 1) (by omega) (by rw [Int.pow_succ]; omega)
    rw [ro, List.length_cons, show k + (l.length + 1) = k + 1 + l.length from by omega]
    exact this
theorem rdo_final (s : ByteArray) (n : Int) (h0 : 0 ≤ n) (h1 : n < 8589934592) (hn : n = ro 0 ((bytesOf s).take (s.size - 1))) (k : Nat) (hk : 30 ≤ k) :
    ((gripsackref1_Octal.f k n (s.size : Int)).bind fun bt123 => (if bt123.2 = true then ((gripsackref1_truth.f (bt123.1.toList == s.toList)).bind fun t126 => (some (wrap64 (n * t126), (bt123.1.toList == s.toList)))) else ((gripsackref1_truth.f false).bind fun t127 => (some (wrap64 (n * t127), false))))) = some (rdOS s) := by
  have hnone : (¬ octL n s.size = some (bytesOf s)) → rdOS s = (0, false) := by
    intro h
    refine rdOS_none fun m hm => h ?_
    have hm2 := octL_iff.1 hm
    obtain ⟨⟨hw, m0, m1⟩, hl⟩ := hm2
    have : n = m := by
      rw [hn, ← hl]
      have hlen := bytesOf_length s
      rw [← hl, List.length_append, dg8_length] at hlen
      have hz : s.size - 1 = ((s.size : Int).toNat - 1) := by simp
      rw [hz, List.take_append_of_le_length (by rw [dg8_length]; exact Nat.le_refl _), List.take_of_length_le (by rw [dg8_length]; exact Nat.le_refl _)]
      have := ro_dg8 m m0 ((s.size : Int).toNat - 1)
      rwa [Int.ediv_eq_zero_of_lt m0 m1] at this
    rw [this]; exact hm
  rw [ref_octal n s.size (by omega) k hk, Option.bind_some]
  cases hl : octL n s.size with
  | none =>
    rw [octS_none hl, if_neg (by decide), hnone (by rw [hl]; simp)]
    show some (wrap64 (n * 0), false) = _
    rw [Int.mul_zero, show wrap64 0 = 0 from by unfold wrap64; omega]
  | some l =>
    rw [octS_some hl, if_pos rfl]
    by_cases he : strOfNums l = s
    · have hb : bytesOf s = l := by rw [← he, bytesOf_nums l (octL_range hl)]
      have hq : ((strOfNums l).toList == s.toList) = true := by rw [beq_iff_eq, toList_inj]; exact he
      rw [rdOS_some (m := n) (by rw [hl, hb])]
      simp only [hq]
      show some (wrap64 (n * 1), true) = _
      rw [Int.mul_one, show wrap64 n = n from by unfold wrap64; omega]
    · have hq : ((strOfNums l).toList == s.toList) = false := by rw [beq_eq_false_iff_ne, Ne, toList_inj]; exact he
      rw [hnone (fun e => he (by rw [← nums_bytesOf s]; rw [hl] at e; rw [Option.some.inj e]))]
      simp only [hq]
      show some (wrap64 (n * 0), false) = _
      rw [Int.mul_zero, show wrap64 0 = 0 from by unfold wrap64; omega]
theorem rdo_loop (s : ByteArray) (hz : s.size = 8 ∨ s.size = 12) : ∀ (d i k : Nat) (x : Int), i + d = s.size - 1 → d + 31 ≤ k → 0 ≤ x → x < 8 ^ i → ro 0 ((bytesOf s).take (s.size - 1)) = ro x (((bytesOf s).take (s.size - 1)).drop i) →
    gripsackref1_ReadOctal.l0 k s x i = some (rdOS s)
  | d, i, 0, x, hd, hk, h0, h1, hr => by omega
  | 0, i, k + 1, x, hd, hk, h0, h1, hr => by
    have hlen : ((bytesOf s).take (s.size - 1)).length = i := by rw [List.length_take, bytesOf_length]; omega
    rw [List.drop_eq_nil_of_le (by omega)] at hr
    have hx : x < 8589934592 := by
      have : (8 : Int) ^ i ≤ 8589934592 := by
        have : i = 7 ∨ i = 11 := by omega
        rcases this with rfl | rfl <;> decide
      omega
    rw [gripsackref1_ReadOctal.l0, show wrap64 ((i : Int) + 1) = ((i + 1 : Nat) : Int) from by unfold wrap64; omega, if_neg (by omega)]
    exact rdo_final s x h0 hx hr.symm k (by omega)
  | d + 1, i, k + 1, x, hd, hk, h0, h1, hr => by
    have hx : x < 1073741824 := by
      have : (8 : Int) ^ i ≤ 1073741824 := by
        have : ∀ j : Fin 11, (8 : Int) ^ j.val ≤ 1073741824 := by decide
        exact this ⟨i, by omega⟩
      omega
    have hb := bt_range s (i : Int)
    have hdr : ((bytesOf s).take (s.size - 1)).drop i = bt s i :: ((bytesOf s).take (s.size - 1)).drop (i + 1) := by
      rw [List.drop_take, bytesOf_drop s i (by omega), show s.size - 1 - i = (s.size - 1 - (i + 1)) + 1 from by omega, List.take_succ_cons, List.drop_take]
    rw [hdr, ro] at hr
    rw [gripsackref1_ReadOctal.l0, show wrap64 ((i : Int) + 1) = ((i + 1 : Nat) : Int) from by unfold wrap64; omega, if_pos (by omega), if_pos (by omega), if_pos (by omega), u8_and7 _ hb.1 (by omega)]
    generalize bt s i = c at *
    rw [show wrap64 (wrap64 (x * 8) + wrap64 (c % 8)) = x * 8 + c % 8 from by unfold wrap64; omega]
    exact rdo_loop s hz d (i + 1) k _ (by omega) (by omega) (by omega) (by rw [Int.pow_succ]; omega) hr
theorem ref_rdo (s : ByteArray) (k : Nat) (hk : 60 ≤ k) : gripsackref1_ReadOctal.f k s = some (rdOS s) := by
  obtain ⟨k, rfl⟩ : ∃ m, k = m + 1 := ⟨k - 1, by omega⟩
  have main : (s.size = 8 ∨ s.size = 12) → gripsackref1_ReadOctal.j0 (k + 1) s false = some (rdOS s) := by
    intro hz
    rw [gripsackref1_ReadOctal.j0, if_neg (by decide)]
    exact rdo_loop s hz (s.size - 1) 0 k 0 (by omega) (by omega) (by omega) (by decide) (by rw [List.drop_zero])
  unfold gripsackref1_ReadOctal.f
  by_cases h8 : (s.size : Int) = 8
  · rw [if_pos h8]; exact main (by omega)
  · rw [if_neg h8]
    by_cases h12 : (s.size : Int) = 12
    · rw [show ((s.size : Int) != 12) = false from by rw [h12]; rfl]; exact main (by omega)
    · rw [show ((s.size : Int) != 12) = true from by rw [bne_iff_ne]; exact h12, gripsackref1_ReadOctal.j0, if_pos rfl, rdOS_none (fun m hm => by have := (octL_iff.1 hm).1.1; omega)]
theorem rdb_loop (s : ByteArray) (hz : s.size = 8 ∨ s.size = 12) : ∀ (d i k : Nat) (x : Int), i + d = s.size → 1 ≤ i → d + 31 ≤ k → -9223372036854775808 ≤ x ∧ x < 9223372036854775808 → fb (fi s) ((bytesOf s).drop 1) = fb x ((bytesOf s).drop i) →
    gripsackref1_ReadBase.l0 k s x i = some (rdBS s)
  | d, i, 0, x, hd, h1, hk, hx, hr => by omega
  | 0, i, k + 1, x, hd, h1, hk, hx, hr => by
    rw [show (bytesOf s).drop i = [] from List.drop_eq_nil_of_le (by rw [bytesOf_length]; omega)] at hr
    have hrb := rdB_is s (by omega) x hr.symm
    rw [gripsackref1_ReadBase.l0, if_neg (by omega), ref_base x s.size hx.1 hx.2 k (by omega), Option.bind_some]
    unfold rdBS
    rw [hrb]
    cases hl : baseL x s.size with
    | none => rw [baseS_none hl, if_neg (by decide), if_neg (by simp)]; rfl
    | some l =>
      rw [baseS_some hl, if_pos rfl]
      by_cases he : strOfNums l = s
      · rw [if_pos (toList_inj.2 he), if_pos (by rw [← he, bytesOf_nums l (baseL_range hl)])]; rfl
      · rw [if_neg (fun e => he (toList_inj.1 e)), if_neg (fun e => he (by rw [← nums_bytesOf s, ← Option.some.inj e]))]; rfl
  | d + 1, i, k + 1, x, hd, h1, hk, hx, hr => by
    have hb := bt_range s (i : Int)
    rw [bytesOf_drop s i (by omega), fb] at hr
    rw [gripsackref1_ReadBase.l0, if_pos (by omega), if_pos (by omega), show wrap64 (bt s i) = bt s i from by unfold wrap64; omega, show wrap64 ((i : Int) + 1) = ((i + 1 : Nat) : Int) from by unfold wrap64; omega]
    exact rdb_loop s hz d (i + 1) k _ (by omega) (by omega) (by omega) (bits_range _ _ _) hr
theorem ref_rdb (s : ByteArray) (k : Nat) (hk : 60 ≤ k) : gripsackref1_ReadBase.f k s = some (rdBS s) := by
  obtain ⟨k, rfl⟩ : ∃ m, k = m + 2 := ⟨k - 2, by omega⟩
  have main : (s.size = 8 ∨ s.size = 12) → gripsackref1_ReadBase.j0 (k + 2) s false = some (rdBS s) := by
    intro hz
    rw [gripsackref1_ReadBase.j0, if_neg (by decide), if_pos (by omega)]
    by_cases h : bt s 0 = 255
    · rw [if_pos h, gripsackref1_ReadBase.j1]
      exact rdb_loop s hz (s.size - 1) 1 k (-1) (by omega) (by omega) (by omega) (by omega) (by unfold fi; rw [if_pos h])
    · rw [if_neg h, gripsackref1_ReadBase.j1]
      exact rdb_loop s hz (s.size - 1) 1 k 0 (by omega) (by omega) (by omega) (by omega) (by unfold fi; rw [if_neg h])
  unfold gripsackref1_ReadBase.f
  by_cases h8 : (s.size : Int) = 8
  · rw [if_pos h8]; exact main (by omega)
  · rw [if_neg h8]
    by_cases h12 : (s.size : Int) = 12
    · rw [show ((s.size : Int) != 12) = false from by rw [h12]; rfl]; exact main (by omega)
    · rw [show ((s.size : Int) != 12) = true from by rw [bne_iff_ne]; exact h12, gripsackref1_ReadBase.j0, if_pos rfl, rdBS_none (fun m _ _ hm => by have := (baseL_iff.1 hm).1.1; omega)]
end Go.Proofs.Ytljahgpincaihaa
