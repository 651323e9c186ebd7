/- The same reading told over lists of bytes: what follows of texts that stand side by side, and of texts that are cut. -/
import Derived.Test.YtljodbbmcgpcnaaPlain
namespace Go.Proofs.Ytljodbbmcgpcnaa
set_option linter.unusedVariables false
set_option linter.unusedSimpArgs false
open Go.RowKit Go.Proofs.YtljodbbmcgpcnaaW.PrintWords

def tailL (x : Int) : List Int → Nat → Option Int
  | _, 0 => some x
  | [], _ + 1 => none
  | b :: r, m + 1 => if b / 64 = 2 then tailL (x * 64 + b % 64) r m else none
/-- How many bytes the sign has that begins a text; 0: none begins. -/
def sgL : List Int → Int
  | [] => 0
  | c :: r => if (lng c).1 = 0 ∨ ((r.length : Int) + 1) < (lng c).1 then 0 else sgOf (tailL (lng c).2.1 r ((lng c).1 - 1).toNat) (lng c).1 (lng c).2.2
def goL : Nat → List Int → Int → Int → Int × Int
  | 0, _, _, c => (-1, c)
  | k + 1, l, a, c => if l = [] then (-1, c) else if sgL l = 0 then (a, c) else goL k (l.drop (sgL l).toNat) (a + sgL l) (c + 1)
/-- Where no sign begins (-1: nowhere), and how many there are ahead. -/
def readL (l : List Int) : Int × Int := goL (l.length + 1) l 0 0

theorem lng_small (c : Int) : 0 ≤ (lng c).1 ∧ (lng c).1 ≤ 4 := by
  rcases lng_cases c with ⟨_, h⟩ | ⟨_, _, h⟩ | ⟨_, _, _, h⟩ | ⟨_, _, _, _, h⟩ | ⟨_, _, _, _, h⟩ <;> rw [h] <;> (dsimp only) <;> omega
theorem sgOf_cases (o : Option Int) (n d : Int) : sgOf o n d = 0 ∨ (sgOf o n d = n ∧ ∃ x, o = some x ∧ okX x d = true) := by
  cases o with
  | none => exact .inl rfl
  | some x =>
    cases h : okX x d with
    | true => exact .inr ⟨sgOf_ok h, x, rfl, h⟩
    | false => exact .inl (sgOf_bad h)
theorem sgL_range (l : List Int) : 0 ≤ sgL l ∧ sgL l ≤ 4 ∧ sgL l ≤ l.length := by
  cases l with
  | nil => simp [sgL]
  | cons c r =>
    have hl := lng_small c
    simp only [sgL, List.length_cons]
    by_cases h : (lng c).1 = 0 ∨ ((r.length : Int) + 1) < (lng c).1
    · rw [if_pos h]; omega
    · rw [if_neg h]
      rcases sgOf_cases (tailL (lng c).2.1 r ((lng c).1 - 1).toNat) (lng c).1 (lng c).2.2 with e | ⟨e, _⟩ <;> rw [e] <;> omega

/-! ### Bytes of strings -/
theorem bytesOf_get (s : ByteArray) (i : Nat) (h : i < s.size) : (bytesOf s)[i]? = some (bt s i) := by
  rw [← rd_bytesOf]
  have hl : i < (bytesOf s).length := by rw [bytesOf_length]; exact h
  simp [rd, List.getD_eq_getElem?_getD, List.getElem?_eq_getElem hl]
theorem bytesOf_drop (s : ByteArray) (i : Nat) (h : i < s.size) : (bytesOf s).drop i = bt s i :: (bytesOf s).drop (i + 1) := by
  have hl : i < (bytesOf s).length := by rw [bytesOf_length]; exact h
  rw [List.drop_eq_getElem_cons hl]
  have := bytesOf_get s i h
  rw [List.getElem?_eq_getElem hl] at this
  rw [Option.some.inj this]
theorem bytesOf_append (s t : ByteArray) : bytesOf (s ++ t) = bytesOf s ++ bytesOf t := by simp [bytesOf, ByteArray.data_append]
theorem bytesOf_strOfNums (l : List Int) (h : ∀ x ∈ l, 0 ≤ x ∧ x < 256) : bytesOf (strOfNums l) = l := by
  unfold bytesOf
  rw [strOfNums_data, List.map_map]
  conv => rhs; rw [← List.map_id l]
  apply List.map_congr_left
  intro x hx
  have := h x hx
  simp only [Function.comp, id]
  rw [UInt8.toNat_ofNat']
  omega
theorem bytesOf_take (s : ByteArray) (n : Nat) : bytesOf (s.extract 0 n) = (bytesOf s).take n := by
  simp [bytesOf, ByteArray.data_extract, List.map_take]

theorem tailL_snoc : ∀ (l : List Int) (x : Int) (j : Nat), tailL x l (j + 1) = (tailL x l j).bind fun y => (l[j]?).bind fun b => if b / 64 = 2 then some (y * 64 + b % 64) else none := by
  intro l
  induction l with
  | nil =>
    intro x j
    cases j with
    | zero => simp [tailL]
    | succ j => simp [tailL]
  | cons c r ih =>
    intro x j
    cases j with
    | zero => simp [tailL]
    | succ j =>
      simp only [tailL]
      by_cases h : c / 64 = 2
      · rw [if_pos h, if_pos h]
        have := ih (x * 64 + c % 64) j
        simp only [List.getElem?_cons_succ] at this ⊢
        rw [← this]
      · rw [if_neg h, if_neg h]; simp
theorem tailX_list (s : ByteArray) (a : Nat) (x : Int) : ∀ j, a + 1 + j ≤ s.size → tailX s a x j = tailL x ((bytesOf s).drop (a + 1)) j := by
  intro j
  induction j with
  | zero => intro _; simp [tailX, tailL]
  | succ j ih =>
    intro h
    rw [tailL_snoc, ← ih (by omega)]
    simp only [tailX]
    congr 1
    funext y
    rw [List.getElem?_drop, bytesOf_get s (a + 1 + j) (by omega)]
    simp
theorem sg_list (s : ByteArray) (a : Nat) (h : a < s.size) : sg s a = sgL ((bytesOf s).drop a) := by
  rw [bytesOf_drop s a h]
  simp only [sg, sgL]
  have hl : (((bytesOf s).drop (a + 1)).length : Int) + 1 = s.size - a := by rw [List.length_drop, bytesOf_length]; omega
  rw [hl]
  by_cases hc : (lng (bt s a)).1 = 0 ∨ (s.size : Int) < (a : Int) + (lng (bt s a)).1
  · rw [if_pos hc, if_pos (by omega)]
  · rw [if_neg hc, if_neg (by omega), tailX_list s a _ _ (by omega)]
theorem scan_list (s : ByteArray) : ∀ (k a : Nat) (c : Int), a ≤ s.size → scan s k a c = goL k ((bytesOf s).drop a) a c := by
  intro k
  induction k with
  | zero => intro a c _; rfl
  | succ k ih =>
    intro a c ha
    simp only [scan, goL]
    by_cases h : (a : Int) < s.size
    · have hr := sg_range s a
      have hne : ¬ (bytesOf s).drop a = [] := by intro e; have := congrArg List.length e; simp [bytesOf_length] at this; omega
      rw [if_pos h, if_neg hne, ← sg_list s a (by omega)]
      by_cases hz : sg s a = 0
      · rw [if_pos hz, if_pos hz]
      · rw [if_neg hz, if_neg hz]
        have := hr.2.2 hz
        obtain ⟨n, hn⟩ := Int.eq_ofNat_of_zero_le hr.1
        rw [hn] at this ⊢
        have e : ((a : Int) + (n : Int)) = ((a + n : Nat) : Int) := by omega
        rw [e, ih (a + n) (c + 1) (by omega), List.drop_drop, Int.toNat_natCast]
    · rw [if_neg h, if_pos (by apply List.eq_nil_of_length_eq_zero; simp [bytesOf_length]; omega)]
theorem read_list (s : ByteArray) (h : s.size ≤ 140737488351232) : text_read.f s = some (readL (bytesOf s)) := by
  unfold text_read.f readL
  rw [if_pos h, bytesOf_length]
  have := scan_list s (s.size + 1) 0 0 (by omega)
  simpa using congrArg some this
end Go.Proofs.Ytljodbbmcgpcnaa
