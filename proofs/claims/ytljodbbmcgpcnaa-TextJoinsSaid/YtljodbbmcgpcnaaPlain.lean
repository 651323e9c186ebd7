/- What package text's reading comes to, as plain functions over bytes: no program and no memory in it. -/
import Derived.Test.YtljodbbmcgpcnaaWWords
import Derived.Laws.BitsLemmas
namespace Go.Proofs.Ytljodbbmcgpcnaa
set_option linter.unusedVariables false
set_option linter.unusedSimpArgs false
open Go.RowKit Go.Proofs.YtljodbbmcgpcnaaW.PrintWords

/-- A first byte: how many bytes, what it adds, the least number of so many. -/
def lng (c : Int) : Int × Int × Int :=
  if c < 128 then (1, c, 0) else if c / 32 = 6 then (2, c % 32, 128) else if c / 16 = 14 then (3, c % 16, 2048) else if c / 8 = 30 then (4, c % 8, 65536) else (0, 0, 0)
/-- The number behind j further bytes; none: one of them is no further byte. -/
def tailX (s : ByteArray) (a x : Int) : Nat → Option Int
  | 0 => some x
  | j + 1 => (tailX s a x j).bind fun y => if bt s (a + 1 + j) / 64 = 2 then some (y * 64 + bt s (a + 1 + j) % 64) else none
/-- Is a number one of a sign? -/
def okX (x least : Int) : Bool := !(decide (x < least) || decide (x > 1114111) || (decide (x ≥ 55296) && decide (x ≤ 57343)))
/-- Whether the number that was read is one of a sign of n bytes. -/
def sgOf (o : Option Int) (n d : Int) : Int :=
  match o with
  | none => 0
  | some x => if okX x d = true then n else 0
theorem sgOf_none (n d : Int) : sgOf none n d = 0 := rfl
theorem sgOf_ok {x n d : Int} (h : okX x d = true) : sgOf (some x) n d = n := by simp [sgOf, h]
theorem sgOf_bad {x n d : Int} (h : okX x d = false) : sgOf (some x) n d = 0 := by simp [sgOf, h]
/-- How many bytes the sign at a place has; 0: none begins there. -/
def sg (s : ByteArray) (a : Int) : Int :=
  if (lng (bt s a)).1 = 0 ∨ (s.size : Int) < a + (lng (bt s a)).1 then 0 else
    sgOf (tailX s a (lng (bt s a)).2.1 ((lng (bt s a)).1 - 1).toNat) (lng (bt s a)).1 (lng (bt s a)).2.2
theorem tailX_none (s : ByteArray) (a x : Int) (k : Nat) (h : tailX s a x k = none) : ∀ j, tailX s a x (k + j) = none := by
  intro j
  induction j with
  | zero => exact h
  | succ j ih => show (tailX s a x (k + j)).bind _ = none; rw [ih]; rfl
theorem tailX_stop {s : ByteArray} {a x y : Int} {k : Nat} (h : tailX s a x k = some y) (hb : ¬ bt s (a + 1 + k) / 64 = 2) {m : Nat} (hm : k < m) : tailX s a x m = none := by
  have h1 : tailX s a x (k + 1) = none := by show (tailX s a x k).bind _ = none; rw [h]; simp [hb]
  have := tailX_none s a x (k + 1) h1 (m - (k + 1))
  rwa [show k + 1 + (m - (k + 1)) = m from by omega] at this
theorem tailX_step {s : ByteArray} {a x y : Int} {k : Nat} (h : tailX s a x k = some y) (hb : bt s (a + 1 + k) / 64 = 2) : tailX s a x (k + 1) = some (y * 64 + bt s (a + 1 + k) % 64) := by
  show (tailX s a x k).bind _ = _
  rw [h]; simp [hb]

theorem lng_one {c : Int} (h : c < 128) : lng c = (1, c, 0) := by unfold lng; rw [if_pos h]
theorem lng_two {c : Int} (h : ¬ c < 128) (h2 : c / 32 = 6) : lng c = (2, c % 32, 128) := by unfold lng; rw [if_neg h, if_pos h2]
theorem lng_three {c : Int} (h : ¬ c < 128) (h2 : ¬ c / 32 = 6) (h3 : c / 16 = 14) : lng c = (3, c % 16, 2048) := by unfold lng; rw [if_neg h, if_neg h2, if_pos h3]
theorem lng_four {c : Int} (h : ¬ c < 128) (h2 : ¬ c / 32 = 6) (h3 : ¬ c / 16 = 14) (h4 : c / 8 = 30) : lng c = (4, c % 8, 65536) := by unfold lng; rw [if_neg h, if_neg h2, if_neg h3, if_pos h4]
theorem lng_none {c : Int} (h : ¬ c < 128) (h2 : ¬ c / 32 = 6) (h3 : ¬ c / 16 = 14) (h4 : ¬ c / 8 = 30) : lng c = (0, 0, 0) := by unfold lng; rw [if_neg h, if_neg h2, if_neg h3, if_neg h4]
theorem lng_cases (c : Int) : (c < 128 ∧ lng c = (1, c, 0)) ∨ (¬ c < 128 ∧ c / 32 = 6 ∧ lng c = (2, c % 32, 128)) ∨ (¬ c < 128 ∧ ¬ c / 32 = 6 ∧ c / 16 = 14 ∧ lng c = (3, c % 16, 2048)) ∨
    (¬ c < 128 ∧ ¬ c / 32 = 6 ∧ ¬ c / 16 = 14 ∧ c / 8 = 30 ∧ lng c = (4, c % 8, 65536)) ∨ (¬ c < 128 ∧ ¬ c / 32 = 6 ∧ ¬ c / 16 = 14 ∧ ¬ c / 8 = 30 ∧ lng c = (0, 0, 0)) := by
  by_cases h : c < 128
  · exact .inl ⟨h, lng_one h⟩
  by_cases h2 : c / 32 = 6
  · exact .inr (.inl ⟨h, h2, lng_two h h2⟩)
  by_cases h3 : c / 16 = 14
  · exact .inr (.inr (.inl ⟨h, h2, h3, lng_three h h2 h3⟩))
  by_cases h4 : c / 8 = 30
  · exact .inr (.inr (.inr (.inl ⟨h, h2, h3, h4, lng_four h h2 h3 h4⟩)))
  · exact .inr (.inr (.inr (.inr ⟨h, h2, h3, h4, lng_none h h2 h3 h4⟩)))
/-- What is known of a first byte's parts. -/
theorem lng_range (s : ByteArray) (a : Int) : 0 ≤ (lng (bt s a)).1 ∧ (lng (bt s a)).1 ≤ 4 ∧ 0 ≤ (lng (bt s a)).2.1 ∧ (lng (bt s a)).2.1 < 128 := by
  have hb := bt_range s a
  rcases lng_cases (bt s a) with ⟨_, h⟩ | ⟨_, _, h⟩ | ⟨_, _, _, h⟩ | ⟨_, _, _, _, h⟩ | ⟨_, _, _, _, h⟩ <;> rw [h] <;> refine ⟨?_, ?_, ?_, ?_⟩ <;> (dsimp only) <;> omega
theorem tailX_range (s : ByteArray) (a x : Int) (h0 : 0 ≤ x) (h1 : x < 128) : ∀ (j : Nat) (y : Int), j ≤ 3 → tailX s a x j = some y → 0 ≤ y ∧ y < 128 * 64 ^ j := by
  intro j
  induction j with
  | zero => intro y _ h; simp only [tailX, Option.some.injEq] at h; subst h; exact ⟨h0, by omega⟩
  | succ j ih =>
    intro y hj h
    simp only [tailX, Option.bind_eq_some_iff] at h
    obtain ⟨z, hz, h⟩ := h
    obtain ⟨z0, z1⟩ := ih z (by omega) hz
    split at h
    · simp only [Option.some.injEq] at h
      subst h
      have := bt_range s (a + 1 + j)
      rw [show (128 : Int) * 64 ^ (j + 1) = 128 * 64 ^ j * 64 from by rw [Int.pow_succ]; rw [Int.mul_assoc]]
      omega
    · cases h
theorem tailX_lt (s : ByteArray) (a x : Int) (h0 : 0 ≤ x) (h1 : x < 128) (j : Nat) (y : Int) (hj : j ≤ 3) (h : tailX s a x j = some y) : 0 ≤ y ∧ y < 33554432 := by
  obtain ⟨a0, a1⟩ := tailX_range s a x h0 h1 j y hj h
  refine ⟨a0, Int.lt_of_lt_of_le a1 ?_⟩
  obtain rfl | rfl | rfl | rfl : j = 0 ∨ j = 1 ∨ j = 2 ∨ j = 3 := by omega
  all_goals decide
theorem or_six (y b : Int) (h0 : 0 ≤ y) (h1 : y < 33554432) (hb : 0 ≤ b) (hb' : b < 64) : Go.bits .or .i64 (y * 64) b = y * 64 + b := by
  have hw : ∀ n : Int, 0 ≤ n → n < 2 ^ 40 → IntKind.i64.wrap n = n := by
    intro n a b
    simp only [IntKind.wrap, IntKind.bits, IntKind.signed]
    have : (2 : Int) ^ 40 = 1099511627776 := by decide
    simp
    omega
  have e2 : (2 : Int) ^ 40 = 1099511627776 := by decide
  have e3 : (2 : Int) ^ 6 = 64 := by decide
  exact bits_join .i64 40 (by decide) hw 6 _ _ (by omega) (by omega) (by omega) (by omega) (by omega) (by omega)
theorem sg_range (s : ByteArray) (a : Int) : 0 ≤ sg s a ∧ sg s a ≤ 4 ∧ (sg s a ≠ 0 → a + sg s a ≤ s.size) := by
  have hr := lng_range s a
  unfold sg
  by_cases h : (lng (bt s a)).1 = 0 ∨ (s.size : Int) < a + (lng (bt s a)).1
  · rw [if_pos h]; exact ⟨by omega, by omega, fun h => absurd rfl h⟩
  · rw [if_neg h]
    cases ht : tailX s a (lng (bt s a)).2.1 ((lng (bt s a)).1 - 1).toNat with
    | none => rw [sgOf_none]; exact ⟨by omega, by omega, fun h => absurd rfl h⟩
    | some x =>
      cases ho : okX x (lng (bt s a)).2.2 with
      | true => rw [sgOf_ok ho]; exact ⟨by omega, by omega, fun _ => by omega⟩
      | false => rw [sgOf_bad ho]; exact ⟨by omega, by omega, fun h => absurd rfl h⟩
/-- From a place on, so many signs having been read: where none begins (-1: nowhere), and how many there are; the first number: of rounds, more than are wanted. -/
def scan (s : ByteArray) : Nat → Int → Int → Int × Int
  | 0, _, c => (-1, c)
  | k + 1, a, c => if a < s.size then (if sg s a = 0 then (a, c) else scan s k (a + sg s a) (c + 1)) else (-1, c)
theorem scan_end {s : ByteArray} {k : Nat} {a c : Int} (hk : 0 < k) (h : ¬ a < s.size) : scan s k a c = (-1, c) := by
  obtain ⟨k, rfl⟩ : ∃ m, k = m + 1 := ⟨k - 1, by omega⟩
  simp only [scan]; rw [if_neg h]
theorem scan_bad {s : ByteArray} {k : Nat} {a c : Int} (hk : 0 < k) (h : a < s.size) (hz : sg s a = 0) : scan s k a c = (a, c) := by
  obtain ⟨k, rfl⟩ : ∃ m, k = m + 1 := ⟨k - 1, by omega⟩
  simp only [scan]; rw [if_pos h, if_pos hz]
theorem scan_step {s : ByteArray} {k : Nat} {a c : Int} (h : a < s.size) (hz : ¬ sg s a = 0) : scan s (k + 1) a c = scan s k (a + sg s a) (c + 1) := by
  simp only [scan]; rw [if_pos h, if_neg hz]
/-- What package text's reading answers (a text so long that no address tells it: nothing is said). -/
def text_read.f (s : ByteArray) : Option (Int × Int) := if s.size ≤ 140737488351232 then some (scan s (s.size + 1) 0 0) else none

theorem bt_past (s : ByteArray) (i : Int) (h : (s.size : Int) ≤ i) : bt s i = 0 := by
  unfold bt; rw [dif_neg (by omega)]
theorem tailX_in {s : ByteArray} {a x : Int} (ha : a < s.size) : ∀ (j : Nat) (y : Int), tailX s a x j = some y → a + 1 + j ≤ s.size := by
  intro j
  induction j with
  | zero => intro y _; omega
  | succ j ih =>
    intro y h
    simp only [tailX, Option.bind_eq_some_iff] at h
    obtain ⟨z, _, h⟩ := h
    rcases Int.lt_or_le (a + 1 + j) s.size with hlt | hge
    · omega
    · rw [bt_past s _ hge] at h; simp at h

/-- A byte of a part. -/
theorem bt_extract (s : ByteArray) (i j : Nat) (hj : j ≤ s.size) (k : Nat) (hk : i + k < j) : bt (s.extract i j) (k : Int) = bt s ((i : Int) + k) := by
  have h1 : k < (s.extract i j).size := by rw [ByteArray.size_extract]; omega
  have h2 : ((i : Int) + k).toNat = i + k := by omega
  unfold bt
  simp only [h2, Int.toNat_natCast]
  rw [dif_pos h1, dif_pos (show i + k < s.size by omega), ByteArray.getElem_extract]
end Go.Proofs.Ytljodbbmcgpcnaa
