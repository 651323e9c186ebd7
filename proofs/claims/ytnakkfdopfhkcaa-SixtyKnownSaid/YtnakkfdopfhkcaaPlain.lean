/- What package sixty comes to, as plain functions over rows of numbers: no program and no memory in it. -/
import Derived.Test.YtnakkfdopfhkcaaWWords
import Derived.Laws.BitsLemmas
namespace Go.Proofs.Ytnakkfdopfhkcaa
set_option linter.unusedVariables false
set_option linter.unusedSimpArgs false
open Go.RowKit Go.Proofs.YtnakkfdopfhkcaaW.PrintWords

abbrev letters : ByteArray := ⟨#[65, 66, 67, 68, 69, 70, 71, 72, 73, 74, 75, 76, 77, 78, 79, 80, 81, 82, 83, 84, 85, 86, 87, 88, 89, 90, 97, 98, 99, 100, 101, 102, 103, 104, 105, 106, 107, 108, 109, 110, 111, 112, 113, 114, 115, 116, 117, 118, 119, 120, 121, 122, 48, 49, 50, 51, 52, 53, 54, 55, 56, 57, 43, 47]⟩
/-- A letter. -/
def lt (n : Int) : Int := if n < 26 then 65 + n else if n < 52 then 71 + n else if n < 62 then n - 4 else if n = 62 then 43 else 47
/-- A letter's number. -/
def lv (c : Int) : Option Int := if 65 ≤ c ∧ c ≤ 90 then some (c - 65) else if 97 ≤ c ∧ c ≤ 122 then some (c - 71) else if 48 ≤ c ∧ c ≤ 57 then some (c + 4) else if c = 43 then some 62 else if c = 47 then some 63 else none
/-- Three bytes as one number. -/
def n3 (a b c : Int) : Int := a * 65536 + b * 256 + c
/-- At most three bytes as four letters. -/
def four (a b c : Int) (many : Nat) : List Int :=
  [lt (n3 a b c / 262144 % 64), if many < 1 then 61 else lt (n3 a b c / 4096 % 64), if many < 2 then 61 else lt (n3 a b c / 64 % 64), if many < 3 then 61 else lt (n3 a b c % 64)]
def sixL : List Int → List Int
  | [] => []
  | [a] => four a 0 0 1
  | [a, b] => four a b 0 2
  | a :: b :: c :: r => four a b c 3 ++ sixL r
def sixB (s : ByteArray) : ByteArray := strOfNums (sixL (bytesOf s))
/-- The reading of four signs at most, from the i-th on: the number, and how many bytes. -/
def getG : Nat → Int → Int → List Int → Option (Int × Int)
  | _, n, m, [] => some (n, m)
  | i, n, m, c :: l => if c = 61 ∧ 1 < i then getG (i + 1) (n * 64) (min m ((i : Int) - 1)) l else (lv c).bind fun k => getG (i + 1) (n * 64 + k) m l
def bytes3 (n m : Int) : List Int := [n / 65536 % 256, n / 256 % 256, n % 256].take m.toNat
def getL (l : List Int) : Option (List Int) := (getG 0 0 3 l).map fun r => bytes3 r.1 r.2
def decS : List Int → Option (List Int)
  | [] => some []
  | [a] => getL [a]
  | [a, b] => getL [a, b]
  | [a, b, c] => getL [a, b, c]
  | a :: b :: c :: d :: r => (getL [a, b, c, d]).bind fun x => (decS r).map fun t => x ++ t
def getS (s : ByteArray) : ByteArray × Bool :=
  match decS (bytesOf s) with
  | some l => if sixL l = bytesOf s then (strOfNums l, true) else (⟨#[]⟩, false)
  | none => (⟨#[]⟩, false)
theorem bt_letters_all : ∀ i : Fin 64, bt letters (i.val : Int) = lt (i.val : Int) := by decide +kernel
theorem bt_letters (n : Int) (h0 : 0 ≤ n) (h1 : n < 64) : bt letters n = lt n := by
  have := bt_letters_all ⟨n.toNat, by omega⟩
  simp only at this
  rw [show ((n.toNat : Nat) : Int) = n from by omega] at this
  exact this
theorem lv_lt_all : ∀ i : Fin 64, lv (lt (i.val : Int)) = some (i.val : Int) := by decide +kernel
theorem lv_lt (n : Int) (h0 : 0 ≤ n) (h1 : n < 64) : lv (lt n) = some n := by
  have := lv_lt_all ⟨n.toNat, by omega⟩
  simp only at this
  rw [show ((n.toNat : Nat) : Int) = n from by omega] at this
  exact this
theorem lv_range (c k : Int) (h : lv c = some k) : 0 ≤ k ∧ k < 64 := by
  unfold lv at h
  repeat' split at h
  all_goals first | (obtain rfl := Option.some.inj h; omega) | cases h
theorem bytesOf_small (s : ByteArray) : ∀ x ∈ bytesOf s, 0 ≤ x ∧ x < 256 := by
  intro x hx
  simp only [bytesOf, List.mem_map] at hx
  obtain ⟨b, _, rfl⟩ := hx
  have := b.toNat_lt
  omega
theorem bytesOf_get (s : ByteArray) (i : Nat) (h : i < s.size) : (bytesOf s)[i]? = some (bt s i) := by
  rw [← rd_bytesOf]
  have : i < (bytesOf s).length := by rw [bytesOf_length]; exact h
  simp [rd, List.getD_eq_getElem?_getD, List.getElem?_eq_getElem this]
theorem bytesOf_drop (s : ByteArray) (i : Nat) (h : i < s.size) : (bytesOf s).drop i = bt s i :: (bytesOf s).drop (i + 1) := by
  have hl : i < (bytesOf s).length := by rw [bytesOf_length]; exact h
  rw [List.drop_eq_getElem_cons hl]
  congr 1
  have := bytesOf_get s i h
  rw [List.getElem?_eq_getElem hl] at this
  exact Option.some.inj this
theorem bytesOf_nums (l : List Int) (h : ∀ x ∈ l, 0 ≤ x ∧ x < 256) : bytesOf (strOfNums l) = l := by
  unfold bytesOf
  rw [strOfNums_data, List.map_map]
  conv => rhs; rw [← List.map_id l]
  apply List.map_congr_left
  intro x hx
  have := h x hx
  simp [UInt8.toNat_ofNat']
  omega
theorem nums_bytesOf (s : ByteArray) : strOfNums (bytesOf s) = s := by
  apply ByteArray.ext
  apply Array.ext'
  rw [strOfNums_data, bytesOf, List.map_map]
  conv => rhs; rw [← List.map_id s.data.toList]
  apply List.map_congr_left
  intro x hx
  simp
theorem strOfNums_append (l r : List Int) : strOfNums (l ++ r) = strOfNums l ++ strOfNums r := by
  apply ByteArray.ext
  apply Array.ext'
  simp [strOfNums, ByteArray.data_append]
theorem bytesOf_append (s t : ByteArray) : bytesOf (s ++ t) = bytesOf s ++ bytesOf t := by simp [bytesOf, ByteArray.data_append]
end Go.Proofs.Ytnakkfdopfhkcaa
