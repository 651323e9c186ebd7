/- What package num comes to, as plain functions over rows of numbers: no program and no memory in it. -/
import Derived.Test.YtljahgpincaihaaWWords
import Derived.Laws.BitsLemmas
namespace Go.Proofs.Ytljahgpincaihaa
set_option linter.unusedVariables false
set_option linter.unusedSimpArgs false
open Go.RowKit Go.Proofs.YtljahgpincaihaaW.PrintWords

/-- The last k digits by eights. -/
def dg8 : Nat → Int → List Int
  | 0, _ => []
  | k + 1, n => (48 + n / 8 ^ k % 8) :: dg8 k n
/-- A number by eights. -/
def octL (n w : Int) : Option (List Int) := if (w = 8 ∨ w = 12) ∧ 0 ≤ n ∧ n < 8 ^ (w.toNat - 1) then some (dg8 (w.toNat - 1) n ++ [0]) else none
/-- The last k bytes. -/
def by8 : Nat → Int → List Int
  | 0, _ => []
  | k + 1, n => (n / 256 ^ k % 256) :: by8 k n
/-- A number by bytes. -/
def baseL (n w : Int) : Option (List Int) := if (w = 8 ∨ w = 12) ∧ (w = 12 ∨ (-72057594037927936 ≤ n ∧ n < 72057594037927936)) then some ((if n < 0 then 255 else 128) :: by8 (w.toNat - 1) n) else none
def octS (n w : Int) : ByteArray × Bool := match octL n w with
  | some l => (strOfNums l, true)
  | none => (⟨#[]⟩, false)
def baseS (n w : Int) : ByteArray × Bool := match baseL n w with
  | some l => (strOfNums l, true)
  | none => (⟨#[]⟩, false)
/-- A text without one byte 0 at its end. -/
def trimL (l : List Int) : List Int := if l.getLast? = some 0 then l.dropLast else l
/-- The reading of digits by eights, of whatever bytes. -/
def fo : Int → List Int → Int
  | n, [] => n
  | n, c :: l => fo (Go.bits .or .i64 (wrap64 (n * 8)) (Go.bits .and .i64 ((c - 48) % 256) 7)) l
/-- The reading of bytes. -/
def fb : Int → List Int → Int
  | n, [] => n
  | n, c :: l => fb (Go.bits .or .i64 (wrap64 (n * 256)) c) l
def rdO (l : List Int) : Option Int := if octL (fo 0 (trimL l)) l.length = some l then some (fo 0 (trimL l)) else none
def rdB (l : List Int) : Option Int := if baseL (fb (if l.head? = some 255 then -1 else 0) l.tail) l.length = some l then some (fb (if l.head? = some 255 then -1 else 0) l.tail) else none
def rdOS (s : ByteArray) : Int × Bool := ((rdO (bytesOf s)).getD 0, (rdO (bytesOf s)).isSome)
def rdBS (s : ByteArray) : Int × Bool := ((rdB (bytesOf s)).getD 0, (rdB (bytesOf s)).isSome)
theorem bytesOf_small (s : ByteArray) : ∀ x ∈ bytesOf s, 0 ≤ x ∧ x < 256 := by
  intro x hx
  simp only [bytesOf, List.mem_map] at hx
  obtain ⟨b, _, rfl⟩ := hx
  have := b.toNat_lt
  omega
theorem bytesOf_get (s : ByteArray) (i : Nat) (h : i < s.size) : (bytesOf s)[i]? = some (bt s i) := by
  rw [← rd_bytesOf]
  have : i < (bytesOf s).length := by rw [bytesOf_length]; exact h
  simp [rd, List.getD_eq_getElem?_getD, List.getElem?_eq_getElem this]
theorem bytesOf_drop (s : ByteArray) (i : Nat) (h : i < s.size) : (bytesOf s).drop i = bt s i :: (bytesOf s).drop (i + 1) := by
  have hl : i < (bytesOf s).length := by rw [bytesOf_length]; exact h
  rw [List.drop_eq_getElem_cons hl]
  congr 1
  have := bytesOf_get s i h
  rw [List.getElem?_eq_getElem hl] at this
  exact Option.some.inj this
theorem bytesOf_nums (l : List Int) (h : ∀ x ∈ l, 0 ≤ x ∧ x < 256) : bytesOf (strOfNums l) = l := by
  unfold bytesOf
  rw [strOfNums_data, List.map_map]
  conv => rhs; rw [← List.map_id l]
  apply List.map_congr_left
  intro x hx
  have := h x hx
  simp [UInt8.toNat_ofNat']
  omega
theorem nums_bytesOf (s : ByteArray) : strOfNums (bytesOf s) = s := by
  apply ByteArray.ext
  apply Array.ext'
  rw [strOfNums_data, bytesOf, List.map_map]
  conv => rhs; rw [← List.map_id s.data.toList]
  apply List.map_congr_left
  intro x hx
  simp
theorem strOfNums_append (l r : List Int) : strOfNums (l ++ r) = strOfNums l ++ strOfNums r := by
  apply ByteArray.ext
  apply Array.ext'
  simp [strOfNums, ByteArray.data_append]
theorem bytesOf_append (s t : ByteArray) : bytesOf (s ++ t) = bytesOf s ++ bytesOf t := by simp [bytesOf, ByteArray.data_append]
theorem bytesOf_extract (s : ByteArray) (i j : Nat) : bytesOf (s.extract i j) = ((bytesOf s).take j).drop i := by
  unfold bytesOf
  rw [ByteArray.data_extract, Array.toList_extract]
  simp [List.extract_eq_take_drop, List.map_drop, List.map_take, List.drop_take]
theorem dg8_length (n : Int) : ∀ k, (dg8 k n).length = k
  | 0 => rfl
  | k + 1 => by simp [dg8, dg8_length n k]
theorem by8_length (n : Int) : ∀ k, (by8 k n).length = k
  | 0 => rfl
  | k + 1 => by simp [by8, by8_length n k]
theorem dg8_range (n : Int) : ∀ k, ∀ x ∈ dg8 k n, 48 ≤ x ∧ x < 56
  | 0, x, h => by cases h
  | k + 1, x, h => by
    rcases List.mem_cons.1 h with rfl | h
    · omega
    · exact dg8_range n k x h
theorem by8_range (n : Int) : ∀ k, ∀ x ∈ by8 k n, 0 ≤ x ∧ x < 256
  | 0, x, h => by cases h
  | k + 1, x, h => by
    rcases List.mem_cons.1 h with rfl | h
    · omega
    · exact by8_range n k x h
theorem and7 (x : Int) (h0 : 0 ≤ x) (h1 : x < 9223372036854775808) : Go.bits .and .i64 x 7 = x % 8 := by
  have hw : ∀ n : Int, 0 ≤ n → n < 2 ^ 63 → IntKind.i64.wrap n = n := by
    intro n a b
    rw [IntKind.wrap_i64]
    omega
  have := bits_mask .i64 63 (by decide) hw 3 (by omega) x h0 (by omega)
  simpa using this
end Go.Proofs.Ytljahgpincaihaa
