/- SixtyAll: the letters of any bytes, and what any letters say, are the document's. No conditions. -/
import Derived.Test.YtnakkfdopfhkcaaGCx1
import Derived.Test.YtnakkfdopfhkcaaLaws
import Derived.OpenShut
namespace Go.Proofs.Ytnakkfdopfhkcaa.Pure
set_option linter.unusedVariables false
set_option linter.unusedSimpArgs false
open Go.RowKit Go.Proofs.Ytnakkfdopfhkcaa.GC Go.Proofs.YtnakkfdopfhkcaaW.PrintWords Go.Proofs.YtnakkfdopfhkcaaW.PrintLast Go.Proofs.YtnakkfdopfhkcaaW.PrintMore

namespace SixtyAllOf
theorem awake_true : gripsacklaw3_awake.f = some true := by decide +kernel
abbrev L : ByteArray := ⟨#[65, 66, 67, 68, 69, 70, 71, 72, 73, 74, 75, 76, 77, 78, 79, 80, 81, 82, 83, 84, 85, 86, 87, 88, 89, 90, 97, 98, 99, 100, 101, 102, 103, 104, 105, 106, 107, 108, 109, 110, 111, 112, 113, 114, 115, 116, 117, 118, 119, 120, 121, 122, 48, 49, 50, 51, 52, 53, 54, 55, 56, 57, 43, 47]⟩
/-! ### The document's letters -/
/-- A byte, or nought behind the end. -/
def b0 (s : ByteArray) (i : Nat) : Int := if i < s.size then bt s i else 0
theorem b0_range (s : ByteArray) (i : Nat) : 0 ≤ b0 s i ∧ b0 s i < 256 := by
  unfold b0
  have := bt_range s i
  split <;> omega
theorem l1_step (s : ByteArray) (acc : List Int) (i j k : Nat) (n : Int) (hs : s.size ≤ 1000) (hi : i < s.size) (hj : j < 3) (h0 : 0 ≤ n) (h1 : n < 65536) :
    gripsackref1_Sixty.l1 (k + 1) s L acc i n (mn 3 (wrap64 ((s.size : Int) - i))) j = gripsackref1_Sixty.l1 k s L acc i (n * 256 + b0 s (i + j)) (mn 3 (wrap64 ((s.size : Int) - i))) ((j + 1 : Nat) : Int) := by
  have hm : (j : Int) < mn 3 (wrap64 ((s.size : Int) - i)) ↔ i + j < s.size := by unfold mn wrap64; split <;> omega
  have hw : wrap64 ((j : Int) + 1) = ((j + 1 : Nat) : Int) := by unfold wrap64; omega
  have hb := bt_range s ((i + j : Nat) : Int)
  rw [gripsackref1_Sixty.l1, if_pos (by omega)]
  unfold b0
  by_cases h : i + j < s.size
  · have hij : wrap64 ((i : Int) + (j : Int)) = ((i + j : Nat) : Int) := by unfold wrap64; omega
    rw [if_pos (hm.2 h), hij, if_pos (by omega), if_pos (by omega), if_pos h, hw]
    generalize bt s ((i + j : Nat) : Int) = c at *
    rw [show wrap64 (n * 256) = n * 256 from by unfold wrap64; omega, show wrap64 c = c from by unfold wrap64; omega, or_eight n c h0 h1 hb.1 (by omega)]
  · rw [if_neg (fun e => h (hm.1 e)), if_neg h, hw, show wrap64 (n * 256) = n * 256 from by unfold wrap64; omega, Int.add_zero]
theorem l1_all (s : ByteArray) (acc : List Int) (i k : Nat) (hs : s.size ≤ 1000) (hi : i < s.size) :
    gripsackref1_Sixty.l1 (k + 4) s L acc i 0 (mn 3 (wrap64 ((s.size : Int) - i))) 0 = gripsackref1_Sixty.l2 k s L acc i (n3 (b0 s i) (b0 s (i + 1)) (b0 s (i + 2))) (mn 3 (wrap64 ((s.size : Int) - i))) 0 := by
  have r0 := b0_range s i
  have r1 := b0_range s (i + 1)
  have r2 := b0_range s (i + 2)
  have e0 := l1_step s acc i 0 (k + 3) 0 hs hi (by omega) (by omega) (by omega)
  have e1 := l1_step s acc i 1 (k + 2) (0 * 256 + b0 s (i + 0)) hs hi (by omega) (by simp; omega) (by simp; omega)
  have e2 := l1_step s acc i 2 (k + 1) ((0 * 256 + b0 s (i + 0)) * 256 + b0 s (i + 1)) hs hi (by omega) (by simp; omega) (by simp; omega)
  rw [show ((0 : Nat) : Int) = 0 from rfl] at e0
  rw [e0, e1, e2, gripsackref1_Sixty.l1, if_neg (by decide)]
  congr 1
  simp only [Nat.add_zero]
  unfold n3
  omega
theorem l2_step (s : ByteArray) (acc : List Int) (i j k : Nat) (n : Int) (hs : s.size ≤ 1000) (hi : i < s.size) (hj : j < 4) (h0 : 0 ≤ n) (h1 : n < 16777216) (ha : acc.length ≤ 10000) :
    gripsackref1_Sixty.l2 (k + 1) s L acc i n (mn 3 (wrap64 ((s.size : Int) - i))) j = gripsackref1_Sixty.l2 k s L (acc ++ [if i + j ≤ s.size then lt (n / 2 ^ (18 - 6 * j) % 64) else 61]) i n (mn 3 (wrap64 ((s.size : Int) - i))) ((j + 1 : Nat) : Int) := by
  have hm : (j : Int) ≤ mn 3 (wrap64 ((s.size : Int) - i)) ↔ i + j ≤ s.size := by unfold mn wrap64; split <;> omega
  have hw : wrap64 ((j : Int) + 1) = ((j + 1 : Nat) : Int) := by unfold wrap64; omega
  rw [gripsackref1_Sixty.l2, if_pos (by omega)]
  by_cases h : i + j ≤ s.size
  · have hc : wrap64 (18 - wrap64 (6 * (j : Int))) = ((18 - 6 * j : Nat) : Int) := by unfold wrap64; omega
    have hsh : shr .i64 n ((18 - 6 * j : Nat) : Int) = n / 2 ^ (18 - 6 * j) := by unfold shr; rw [Int.toNat_natCast, Nat.min_eq_left (by show 18 - 6 * j ≤ 64; omega)]
    have hp : (0 : Int) < 2 ^ (18 - 6 * j) := Int.pow_pos (by decide)
    have hq0 : 0 ≤ n / 2 ^ (18 - 6 * j) := Int.ediv_nonneg h0 (Int.le_of_lt hp)
    have hq1 : n / 2 ^ (18 - 6 * j) ≤ n := Int.ediv_le_self _ h0
    have hz : (L.size : Int) = 64 := rfl
    rw [if_pos (hm.2 h), hc, hsh, if_pos (by omega), if_pos h]
    generalize n / 2 ^ (18 - 6 * j) = q at *
    rw [and63 q hq0 (by omega), hz, if_pos (by omega), if_pos (by omega), if_pos (by omega), hw, bt_letters _ (by omega) (by omega)]
  · rw [if_neg (fun e => h (hm.1 e)), if_neg h, if_pos (by omega), hw]
theorem sixty_step (s : ByteArray) (acc : List Int) (i k : Nat) (hs : s.size ≤ 1000) (hi : i < s.size) (ha : acc.length ≤ 2000) :
    gripsackref1_Sixty.l0 (k + 10) s L acc i = gripsackref1_Sixty.l0 k s L (acc ++ four (b0 s i) (b0 s (i + 1)) (b0 s (i + 2)) (s.size - i)) ((i + 3 : Nat) : Int) := by
  have r0 := b0_range s i
  have r1 := b0_range s (i + 1)
  have r2 := b0_range s (i + 2)
  rw [gripsackref1_Sixty.l0, if_pos (by omega), l1_all s acc i (k + 5) hs hi]
  have hn : 0 ≤ n3 (b0 s i) (b0 s (i + 1)) (b0 s (i + 2)) ∧ n3 (b0 s i) (b0 s (i + 1)) (b0 s (i + 2)) < 16777216 := by unfold n3; omega
  unfold four
  generalize n3 (b0 s i) (b0 s (i + 1)) (b0 s (i + 2)) = n at *
  have e0 := l2_step s acc i 0 (k + 4) n hs hi (by omega) hn.1 hn.2 (by omega)
  rw [show ((0 : Nat) : Int) = 0 from rfl] at e0
  rw [e0, l2_step s _ i 1 (k + 3) n hs hi (by omega) hn.1 hn.2 (by simp; omega), l2_step s _ i 2 (k + 2) n hs hi (by omega) hn.1 hn.2 (by simp; omega), l2_step s _ i 3 (k + 1) n hs hi (by omega) hn.1 hn.2 (by simp; omega), gripsackref1_Sixty.l2, if_neg (by decide)]
  rw [show wrap64 ((i : Int) + 3) = ((i + 3 : Nat) : Int) from by unfold wrap64; omega]
  congr 1
  simp only [List.append_assoc, List.singleton_append]
  rw [if_pos (show i + 0 ≤ s.size by omega)]
  rw [show (2 : Int) ^ (18 - 6 * 0) = 262144 from by decide, show (2 : Int) ^ (18 - 6 * 1) = 4096 from by decide, show (2 : Int) ^ (18 - 6 * 2) = 64 from by decide, show (2 : Int) ^ (18 - 6 * 3) = 1 from by decide, Int.ediv_one]
  congr 1
  congr 1
  have c1 : (i + 1 ≤ s.size) = ¬ (s.size - i < 1) := by simp; omega
  have c2 : (i + 2 ≤ s.size) = ¬ (s.size - i < 2) := by simp; omega
  have c3 : (i + 3 ≤ s.size) = ¬ (s.size - i < 3) := by simp; omega
  simp only [c1, c2, c3, ite_not]
  rfl
theorem sixL_chunk (s : ByteArray) (i : Nat) (hi : i < s.size) : sixL ((bytesOf s).drop i) = four (b0 s i) (b0 s (i + 1)) (b0 s (i + 2)) (s.size - i) ++ sixL ((bytesOf s).drop (i + 3)) := by
  have hz : ∀ j, s.size ≤ j → (bytesOf s).drop j = [] := fun j h => List.drop_eq_nil_of_le (by rw [bytesOf_length]; exact h)
  have e0 : b0 s i = bt s i := by unfold b0; rw [if_pos hi]
  rw [bytesOf_drop s i hi, e0]
  by_cases h1 : i + 1 < s.size
  · have e1 : b0 s (i + 1) = bt s ((i + 1 : Nat) : Int) := by unfold b0; rw [if_pos h1]
    rw [bytesOf_drop s (i + 1) h1, e1]
    by_cases h2 : i + 2 < s.size
    · have e2 : b0 s (i + 2) = bt s ((i + 2 : Nat) : Int) := by unfold b0; rw [if_pos h2]
      rw [bytesOf_drop s (i + 1 + 1) h2, e2]
      simp only [sixL]
      congr 1
      unfold four
      rw [if_neg (by omega), if_neg (by omega), if_neg (by omega), if_neg (by omega), if_neg (by omega), if_neg (by omega)]
    · have e2 : b0 s (i + 2) = 0 := by unfold b0; rw [if_neg h2]
      rw [hz (i + 1 + 1) (by omega), hz (i + 3) (by omega), e2, show s.size - i = 2 from by omega]
      simp [sixL]
  · have e1 : b0 s (i + 1) = 0 := by unfold b0; rw [if_neg h1]
    have e2 : b0 s (i + 2) = 0 := by unfold b0; rw [if_neg (by omega)]
    rw [hz (i + 1) (by omega), hz (i + 3) (by omega), e1, e2, show s.size - i = 1 from by omega]
    simp [sixL]
theorem ref_loop (s : ByteArray) (hs : s.size ≤ 1000) : ∀ (d i : Nat) (acc : List Int) (k : Nat), s.size - i ≤ 3 * d → 10 * d + 1 ≤ k → acc.length ≤ 2 * i →
    gripsackref1_Sixty.l0 k s L acc i = some (strOfNums (acc ++ sixL ((bytesOf s).drop i)))
  | 0, i, acc, k, hd, hk, ha => by
    obtain ⟨k, rfl⟩ : ∃ m, k = m + 1 := ⟨k - 1, by omega⟩
    rw [gripsackref1_Sixty.l0, if_neg (by omega), List.drop_eq_nil_of_le (by rw [bytesOf_length]; omega)]
    simp [sixL]
  | d + 1, i, acc, k, hd, hk, ha => by
    by_cases hi : i < s.size
    · obtain ⟨k, rfl⟩ : ∃ m, k = m + 10 := ⟨k - 10, by omega⟩
      rw [sixty_step s acc i k hs hi (by omega), ref_loop s hs d (i + 3) _ k (by omega) (by omega) (by simp [four]; omega), sixL_chunk s i hi, List.append_assoc]
    · obtain ⟨k, rfl⟩ : ∃ m, k = m + 1 := ⟨k - 1, by omega⟩
      rw [gripsackref1_Sixty.l0, if_neg (by omega), List.drop_eq_nil_of_le (by rw [bytesOf_length]; omega)]
      simp [sixL]
theorem ref_sixty (s : ByteArray) (hs : s.size ≤ 1000) (k : Nat) (hk : 4000 ≤ k) : gripsackref1_Sixty.f k s = some (sixB s) := by
  unfold gripsackref1_Sixty.f gripsackref1_letters.f
  rw [Option.bind_some]
  have := ref_loop s hs 334 0 [] k (by omega) (by omega) (by simp)
  rw [List.drop_zero, List.nil_append] at this
  exact this
/-! ### What the document reads -/
theorem lt_iff (j c : Int) (h0 : 0 ≤ j) (h1 : j < 64) : lt j = c ↔ lv c = some j := by
  constructor
  · rintro rfl
    exact lv_lt j h0 h1
  · intro h
    unfold lv at h
    unfold lt
    split at h
    · have := Option.some.inj h; rw [if_pos (by omega)]; omega
    · split at h
      · have := Option.some.inj h; rw [if_neg (by omega), if_pos (by omega)]; omega
      · split at h
        · have := Option.some.inj h; rw [if_neg (by omega), if_neg (by omega), if_pos (by omega)]; omega
        · split at h
          · have := Option.some.inj h; rw [if_neg (by omega), if_neg (by omega), if_neg (by omega), if_pos (by omega)]; omega
          · split at h
            · have := Option.some.inj h; rw [if_neg (by omega), if_neg (by omega), if_neg (by omega), if_neg (by omega)]; omega
            · cases h
theorem wrap_small (n : Int) (a : 0 ≤ n) (b : n < 2 ^ 40) : IntKind.i64.wrap n = n := by
  rw [IntKind.wrap_i64]
  omega
theorem mix (n v : Int) (h0 : 0 ≤ n) (h1 : n < 1048576) (v0 : 0 ≤ v) (v1 : v < 64) : Go.bits .and .i64 (Go.bits .or .i64 (wrap64 (n * 64)) v) 1048575 = (n * 64 + v) % 1048576 := by
  rw [show wrap64 (n * 64) = n * 64 from by unfold wrap64; omega]
  have h2 : Go.bits .or .i64 (n * 64) v = n * 64 + v := by
    have := bits_join .i64 40 (by decide) wrap_small 6 (n * 64) v (by omega) (by omega) (by omega) v0 (by omega) (by omega)
    simpa using this
  rw [h2]
  have := bits_mask .i64 40 (by decide) wrap_small 20 (by omega) (n * 64 + v) (by omega) (by omega)
  simpa using this
theorem l1_rest (s : ByteArray) (acc : List Int) (i : Nat) (n b : Int) (hi : i < s.size) : ∀ (d j k : Nat), j + d = 64 → (∀ v, lv (bt s i) = some v → v < j) →
    gripsackref1_GetSixty.l1 (k + d) s L acc n b i j = gripsackref1_GetSixty.l1 k s L acc n b i 64
  | 0, j, k, h, _ => by
    obtain rfl : j = 64 := by omega
    rfl
  | d + 1, j, k, h, hv => by
    have hz : (L.size : Int) = 64 := rfl
    have hne : ¬ bt L (j : Int) = bt s (i : Int) := by
      intro e
      rw [bt_letters _ (by omega) (by omega)] at e
      have := hv _ ((lt_iff _ _ (by omega) (by omega)).1 e)
      omega
    rw [show k + (d + 1) = (k + d) + 1 from by omega, gripsackref1_GetSixty.l1, hz, if_pos (by omega), if_pos (by omega), if_pos (by omega), if_pos (by omega), if_pos (by omega), if_neg hne, show wrap64 ((j : Int) + 1) = ((j + 1 : Nat) : Int) from by unfold wrap64; omega]
    exact l1_rest s acc i n b hi d (j + 1) k (by omega) (fun v h => by have := hv v h; omega)
theorem l1_find (s : ByteArray) (acc : List Int) (i : Nat) (n b v : Int) (hi : i < s.size) (h0 : 0 ≤ n) (h1 : n < 1048576) (hb0 : 0 ≤ b) (hb1 : b < 100) (hv : lv (bt s i) = some v) : ∀ (d j k : Nat), j + d = 64 → (j : Int) ≤ v →
    gripsackref1_GetSixty.l1 (k + d) s L acc n b i j = gripsackref1_GetSixty.l1 k s L acc ((n * 64 + v) % 1048576) (b + 6) i 64
  | 0, j, k, h, hj => by
    have := lv_range _ _ hv
    omega
  | d + 1, j, k, h, hj => by
    have hz : (L.size : Int) = 64 := rfl
    have hr := lv_range _ _ hv
    have hw : wrap64 ((j : Int) + 1) = ((j + 1 : Nat) : Int) := by unfold wrap64; omega
    rw [show k + (d + 1) = (k + d) + 1 from by omega, gripsackref1_GetSixty.l1, hz, if_pos (by omega), if_pos (by omega), if_pos (by omega), if_pos (by omega), if_pos (by omega), hw]
    by_cases e : bt L (j : Int) = bt s (i : Int)
    · have hjv : (j : Int) = v := by
        rw [bt_letters _ (by omega) (by omega)] at e
        have := (lt_iff _ _ (by omega) (by omega)).1 e
        rw [hv] at this
        exact (Option.some.inj this).symm
      rw [if_pos e, hjv, mix n v h0 h1 hr.1 hr.2, show wrap64 (b + 6) = b + 6 from by unfold wrap64; omega]
      exact l1_rest s acc i _ _ hi d (j + 1) k (by omega) (fun u hu => by rw [hv] at hu; have := Option.some.inj hu; omega)
    · have hjv : ¬ (j : Int) = v := by
        intro h2
        apply e
        rw [bt_letters _ (by omega) (by omega)]
        exact (lt_iff _ _ (by omega) (by omega)).2 (by rw [hv, h2])
      rw [if_neg e]
      exact l1_find s acc i n b v hi h0 h1 hb0 hb1 hv d (j + 1) k (by omega) (by omega)
/-- What the document reads from here on, n being what has been read last, b how many of its bits are still to come. -/
def rdD : Int → Nat → List Int → List Int
  | _, _, [] => []
  | n, b, c :: l => match lv c with
    | none => rdD n b l
    | some v => if 2 ≤ b then ((n * 64 + v) % 1048576 / 2 ^ (b - 2) % 256) :: rdD ((n * 64 + v) % 1048576) (b - 2) l else rdD ((n * 64 + v) % 1048576) (b + 6) l
theorem rdD_none (n : Int) (b : Nat) (c : Int) (l : List Int) (h : lv c = none) : rdD n b (c :: l) = rdD n b l := by rw [rdD, h]
theorem rdD_some (n : Int) (b : Nat) (c v : Int) (l : List Int) (h : lv c = some v) : rdD n b (c :: l) = if 2 ≤ b then ((n * 64 + v) % 1048576 / 2 ^ (b - 2) % 256) :: rdD ((n * 64 + v) % 1048576) (b - 2) l else rdD ((n * 64 + v) % 1048576) (b + 6) l := by rw [rdD, h]
theorem rdD_lt (n : Int) (b : Nat) (v : Int) (l : List Int) (h0 : 0 ≤ v) (h1 : v < 64) : rdD n b (lt v :: l) = if 2 ≤ b then ((n * 64 + v) % 1048576 / 2 ^ (b - 2) % 256) :: rdD ((n * 64 + v) % 1048576) (b - 2) l else rdD ((n * 64 + v) % 1048576) (b + 6) l := rdD_some _ _ _ _ _ (lv_lt v h0 h1)
theorem rdD_sixL : ∀ (m : Nat) (l : List Int), l.length ≤ m → (∀ x ∈ l, 0 ≤ x ∧ x < 256) → ∀ n, 0 ≤ n → n < 1048576 → rdD n 0 (sixL l) = l := by
  intro m
  induction m with
  | zero =>
    intro l h hl n _ _
    obtain rfl : l = [] := List.eq_nil_of_length_eq_zero (by omega)
    simp [sixL, rdD]
  | succ m ih =>
    intro l h hl n h0 h1
    have l61 : lv 61 = none := by decide
    rcases l with _ | ⟨a, _ | ⟨b, _ | ⟨c, r⟩⟩⟩
    · simp [sixL, rdD]
    · have ha := hl a (by simp)
      simp only [sixL, four]
      rw [if_neg (by decide), if_pos (by decide), if_pos (by decide), rdD_lt _ _ _ _ (by omega) (by omega), if_neg (by decide), rdD_lt _ _ _ _ (by omega) (by omega), if_pos (by decide), rdD_none _ _ _ _ l61, rdD_none _ _ _ _ l61, rdD]
      congr 1
      unfold n3
      rw [show (2 : Int) ^ (0 + 6 - 2) = 16 from by decide]
      omega
    · have ha := hl a (by simp)
      have hb := hl b (by simp)
      simp only [sixL, four]
      rw [if_neg (by decide), if_neg (by decide), if_pos (by decide), rdD_lt _ _ _ _ (by omega) (by omega), if_neg (by decide), rdD_lt _ _ _ _ (by omega) (by omega), if_pos (by decide), rdD_lt _ _ _ _ (by omega) (by omega), if_pos (by decide), rdD_none _ _ _ _ l61, rdD]
      unfold n3
      rw [show (2 : Int) ^ (0 + 6 - 2) = 16 from by decide, show (2 : Int) ^ (0 + 6 - 2 - 2) = 4 from by decide]
      congr 1
      · omega
      · congr 1
        omega
    · have ha := hl a (by simp)
      have hb := hl b (by simp)
      have hc := hl c (by simp)
      simp only [sixL, four, List.cons_append, List.nil_append]
      rw [if_neg (by decide), if_neg (by decide), if_neg (by decide), rdD_lt _ _ _ _ (by omega) (by omega), if_neg (by decide), rdD_lt _ _ _ _ (by omega) (by omega), if_pos (by decide), rdD_lt _ _ _ _ (by omega) (by omega), if_pos (by decide), rdD_lt _ _ _ _ (by omega) (by omega), if_pos (by decide)]
      rw [show 0 + 6 - 2 - 2 - 2 = 0 from rfl, ih r (by simp at h; omega) (fun x hx => hl x (by simp [hx])) _ (by omega) (by omega)]
      unfold n3
      rw [show (2 : Int) ^ (0 + 6 - 2) = 16 from by decide, show (2 : Int) ^ (0 + 6 - 2 - 2) = 4 from by decide, show (2 : Int) ^ 0 = 1 from by decide, Int.ediv_one]
      congr 1
      · omega
      · congr 1
        · omega
        · congr 1
          omega
theorem get_step (s : ByteArray) (acc : List Int) (i k b : Nat) (n : Int) (hs : s.size ≤ 1000) (hi : i < s.size) (hb : b < 8) (h0 : 0 ≤ n) (h1 : n < 1048576) (ha : acc.length ≤ 2000) :
    gripsackref1_GetSixty.l0 (k + 66) s L acc n b i = match lv (bt s i) with
      | none => gripsackref1_GetSixty.l0 k s L acc n b ((i + 1 : Nat) : Int)
      | some v => if 2 ≤ b then gripsackref1_GetSixty.l0 k s L (acc ++ [(n * 64 + v) % 1048576 / 2 ^ (b - 2) % 256]) ((n * 64 + v) % 1048576) ((b - 2 : Nat) : Int) ((i + 1 : Nat) : Int)
        else gripsackref1_GetSixty.l0 k s L acc ((n * 64 + v) % 1048576) ((b + 6 : Nat) : Int) ((i + 1 : Nat) : Int) := by
  have hw : wrap64 ((i : Int) + 1) = ((i + 1 : Nat) : Int) := by unfold wrap64; omega
  rw [gripsackref1_GetSixty.l0, if_pos (by omega)]
  cases hv : lv (bt s i) with
  | none =>
    have := l1_rest s acc i n b hi 64 0 (k + 1) (by omega) (fun v h => by rw [hv] at h; cases h)
    rw [show k + 65 = k + 1 + 64 from by omega, show (0 : Int) = ((0 : Nat) : Int) from rfl, this, gripsackref1_GetSixty.l1, if_neg (by decide), if_neg (by omega), hw]
  | some v =>
    have hr := lv_range _ _ hv
    have := l1_find s acc i n b v hi h0 h1 (by omega) (by omega) hv 64 0 (k + 1) (by omega) (by omega)
    rw [show k + 65 = k + 1 + 64 from by omega, show (0 : Int) = ((0 : Nat) : Int) from rfl, this, gripsackref1_GetSixty.l1, if_neg (by decide), hw]
    by_cases h2 : 2 ≤ b
    · have hc : wrap64 ((b : Int) + 6 - 8) = ((b - 2 : Nat) : Int) := by unfold wrap64; omega
      rw [if_pos (by omega), hc, if_pos (by omega), if_pos (by omega)]
      simp only [if_pos h2]
      unfold shr
      rw [Int.toNat_natCast, Nat.min_eq_left (by show b - 2 ≤ 64; omega)]
    · rw [if_neg (by omega)]
      simp only [if_neg h2]
      rfl
theorem get_loop (s : ByteArray) (hs : s.size ≤ 1000) : ∀ (d i : Nat) (acc : List Int) (n : Int) (b k : Nat), s.size - i ≤ d → 66 * d + 5000 ≤ k → acc.length ≤ i → i ≤ s.size → b < 8 → 0 ≤ n → n < 1048576 →
    gripsackref1_GetSixty.l0 k s L acc n b i = some (if sixB (strOfNums (acc ++ rdD n b ((bytesOf s).drop i))) = s then (strOfNums (acc ++ rdD n b ((bytesOf s).drop i)), true) else (⟨#[]⟩, false))
  | 0, i, acc, n, b, k, hd, hk, ha, hi, hb, h0, h1 => by
    obtain ⟨k, rfl⟩ : ∃ m, k = m + 1 := ⟨k - 1, by omega⟩
    rw [gripsackref1_GetSixty.l0, if_neg (by omega), List.drop_eq_nil_of_le (by rw [bytesOf_length]; omega), ref_sixty _ (by rw [strOfNums_size]; omega) _ (by omega), Option.bind_some, rdD, List.append_nil]
    by_cases h : sixB (strOfNums acc) = s
    · rw [if_pos (toList_inj.2 h), if_pos h]
    · rw [if_neg (fun e => h (toList_inj.1 e)), if_neg h]
  | d + 1, i, acc, n, b, k, hd, hk, ha, hi, hb, h0, h1 => by
    by_cases hlt : i < s.size
    · obtain ⟨k, rfl⟩ : ∃ m, k = m + 66 := ⟨k - 66, by omega⟩
      rw [get_step s acc i k b n hs hlt hb h0 h1 (by omega), bytesOf_drop s i hlt]
      cases hv : lv (bt s i) with
      | none =>
        rw [rdD_none _ _ _ _ hv]
        exact get_loop s hs d (i + 1) acc n b k (by omega) (by omega) (by omega) hlt hb h0 h1
      | some v =>
        rw [rdD_some _ _ _ _ _ hv]
        by_cases h2 : 2 ≤ b
        · simp only [if_pos h2]
          have := get_loop s hs d (i + 1) (acc ++ [(n * 64 + v) % 1048576 / 2 ^ (b - 2) % 256]) ((n * 64 + v) % 1048576) (b - 2) k (by omega) (by omega) (by simp; omega) hlt (by omega) (by omega) (by omega)
          rw [this]
          simp only [List.append_assoc, List.singleton_append]
        · simp only [if_neg h2]
          exact get_loop s hs d (i + 1) acc ((n * 64 + v) % 1048576) (b + 6) k (by omega) (by omega) (by omega) hlt (by omega) (by omega) (by omega)
    · obtain ⟨k, rfl⟩ : ∃ m, k = m + 1 := ⟨k - 1, by omega⟩
      rw [gripsackref1_GetSixty.l0, if_neg (by omega), List.drop_eq_nil_of_le (by rw [bytesOf_length]; omega), ref_sixty _ (by rw [strOfNums_size]; omega) _ (by omega), Option.bind_some, rdD, List.append_nil]
      by_cases h : sixB (strOfNums acc) = s
      · rw [if_pos (toList_inj.2 h), if_pos h]
      · rw [if_neg (fun e => h (toList_inj.1 e)), if_neg h]
theorem ref_get (s : ByteArray) (hs : s.size ≤ 1000) : gripsackref1_GetSixty.f 80000 s = some (getS s) := by
  unfold gripsackref1_GetSixty.f gripsackref1_letters.f
  rw [Option.bind_some]
  have h := get_loop s hs 1000 0 [] 0 0 80000 (by omega) (by omega) (by simp) (by omega) (by omega) (by omega) (by omega)
  rw [List.drop_zero, List.nil_append] at h
  have h2 : gripsackref1_GetSixty.l0 80000 s L [] 0 0 0 = _ := h
  rw [h2]
  congr 1
  by_cases he : sixB (strOfNums (rdD 0 0 (bytesOf s))) = s
  · rw [if_pos he]
    exact ((getS_iff _ _).2 he).symm
  · rw [if_neg he]
    refine (getS_not s fun t ht => he ?_).symm
    have hx : bytesOf s = sixL (bytesOf t) := by rw [← ht, bytesOf_sixB]
    rw [hx, rdD_sixL _ _ (Nat.le_refl _) (bytesOf_small t) 0 (by omega) (by omega), nums_bytesOf, ht]
end SixtyAllOf
open SixtyAllOf
theorem SixtyAll : gripsacklaw3_SixtyAll.Pure := by
  intro s t _ _
  refine ⟨80001, ?_⟩
  unfold gripsacklaw3_SixtyAll.f
  by_cases h1 : (s.size : Int) > 300
  · rw [if_pos h1, gripsacklaw3_SixtyAll.j0, if_pos rfl, awake_true]; rfl
  · rw [if_neg h1]
    by_cases h2 : (t.size : Int) > 400
    · rw [decide_eq_true h2, gripsacklaw3_SixtyAll.j0, if_pos rfl, awake_true]; rfl
    · rw [decide_eq_false h2, gripsacklaw3_SixtyAll.j0, if_neg (by decide), sixGet_is (by omega), Option.bind_some, ref_get t (by omega), Option.bind_some, sixPut_is (by omega), Option.bind_some, ref_sixty s (by omega) 80000 (by omega), Option.bind_some, if_pos rfl, if_pos rfl, if_pos (by simp), awake_true]
      rfl
end Go.Proofs.Ytnakkfdopfhkcaa.Pure
