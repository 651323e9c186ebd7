/- What package caps' reading comes to, as plain functions over bytes and numbers: no program and no memory in it. -/
import Derived.Test.YtaaeidlekmeaiaaWWords
import Derived.Laws.BitsLemmas
namespace Go.Proofs.Ytaaeidlekmeaiaa
set_option linter.unusedVariables false
set_option linter.unusedSimpArgs false
open Go.RowKit Go.Proofs.YtaaeidlekmeaiaaW.PrintWords

/-- A number of four bytes, the lowest first. -/
def w4 (s : ByteArray) (i : Int) : Int := bt s i + 256 * bt s (i + 1) + 65536 * bt s (i + 2) + 16777216 * bt s (i + 3)
theorem w4_range (s : ByteArray) (i : Int) : 0 ≤ w4 s i ∧ w4 s i < 4294967296 := by
  have h0 := bt_range s i
  have h1 := bt_range s (i + 1)
  have h2 := bt_range s (i + 2)
  have h3 := bt_range s (i + 3)
  unfold w4
  omega
/-- A byte of a part. -/
theorem bt_extract (s : ByteArray) (i j : Nat) (hj : j ≤ s.size) (k : Nat) (hk : i + k < j) : bt (s.extract i j) (k : Int) = bt s ((i : Int) + k) := by
  have h1 : k < (s.extract i j).size := by rw [ByteArray.size_extract]; omega
  have h2 : ((i : Int) + k).toNat = i + k := by omega
  unfold bt
  simp only [h2, Int.toNat_natCast]
  rw [dif_pos h1, dif_pos (show i + k < s.size by omega), ByteArray.getElem_extract]
theorem w4_extract (s : ByteArray) (i : Nat) (k : Nat) (hk : i + k + 4 ≤ s.size) : w4 (s.extract i s.size) (k : Int) = w4 s ((i + k : Nat) : Int) := by
  unfold w4
  have e0 := bt_extract s i s.size (Nat.le_refl _) k (by omega)
  have e1 := bt_extract s i s.size (Nat.le_refl _) (k + 1) (by omega)
  have e2 := bt_extract s i s.size (Nat.le_refl _) (k + 2) (by omega)
  have e3 := bt_extract s i s.size (Nat.le_refl _) (k + 3) (by omega)
  rw [show ((k + 1 : Nat) : Int) = (k : Int) + 1 from rfl] at e1
  rw [show ((k + 2 : Nat) : Int) = (k : Int) + 2 from rfl] at e2
  rw [show ((k + 3 : Nat) : Int) = (k : Int) + 3 from rfl] at e3
  rw [e0, e1, e2, e3, show (((i + k : Nat) : Int)) = (i : Int) + k from rfl]
  simp only [Int.add_assoc]
theorem or64 (i : Nat) (hi : i ≤ 63) (x b : Int) (h0 : 0 ≤ x) (h1 : x * 2 ^ i < 18446744073709551616) (hb : 0 ≤ b) (hb' : b < 2 ^ i) (hb2 : b < 18446744073709551616) : Go.bits .or .u64 (x * 2 ^ i) b = x * 2 ^ i + b := by
  have e2 : (2 : Int) ^ 64 = 18446744073709551616 := by decide
  have hw : ∀ n : Int, 0 ≤ n → n < 2 ^ 64 → IntKind.u64.wrap n = n := by
    intro n a b
    simp only [IntKind.wrap, IntKind.bits, IntKind.signed]
    simp
    omega
  have hp : (0 : Int) < 2 ^ i := Int.pow_pos (by decide)
  exact bits_join .u64 64 (by decide) hw i _ _ (Int.mul_nonneg h0 (by omega)) (Int.mul_emod_left _ _) (by omega) hb hb' (by omega)
theorem or_eight (x b : Int) (h0 : 0 ≤ x) (h1 : x < 16777216) (hb : 0 ≤ b) (hb' : b < 256) : Go.bits .or .u64 (x * 256) b = x * 256 + b := by
  have := or64 8 (by omega) x b h0 (by omega) hb (by omega) (by omega)
  simpa using this
theorem bits_or_comm (k : IntKind) (x y : Int) : Go.bits .or k x y = Go.bits .or k y x := by
  simp only [Go.bits, BitVec.or_comm]
theorem or_high (x b : Int) (h0 : 0 ≤ x) (h1 : x < 4294967296) (hb : 0 ≤ b) (hb' : b < 4294967296) : Go.bits .or .u64 b (x * 4294967296) = b + x * 4294967296 := by
  have := or64 32 (by omega) x b h0 (by omega) hb (by omega) (by omega)
  rw [bits_or_comm]
  simp at this
  omega
theorem and_one (x : Int) (h0 : 0 ≤ x) (h1 : x < 4294967296) : Go.bits .and .u64 x 1 = x % 2 := by
  have hw : ∀ n : Int, 0 ≤ n → n < 2 ^ 64 → IntKind.u64.wrap n = n := by
    intro n a b
    simp only [IntKind.wrap, IntKind.bits, IntKind.signed]
    simp
    omega
  have := bits_mask .u64 64 (by decide) hw 1 (by omega) x h0 (by omega)
  simpa using this
theorem wrap_high (x b : Int) (h0 : 0 ≤ x) (h1 : x < 4294967296) (hb : 0 ≤ b) (hb' : b < 4294967296) : Go.bits .or .u64 b (IntKind.u64.wrap (x * 4294967296)) = b + x * 4294967296 := by
  have e : IntKind.u64.wrap (x * 4294967296) = x * 4294967296 := by
    simp only [IntKind.wrap, IntKind.bits, IntKind.signed]
    simp
    omega
  rw [e, or_high x b h0 h1 hb hb']
/-- A number's four bytes, the lowest first. -/
def leL (n : Int) : List Int := [n % 256, n / 256 % 256, n / 65536 % 256, n / 16777216 % 256]
def mayB (v p i : Int) (e : Bool) (r : Int) : Bool :=
  if v = 0 then p == 0 && (i == 0 && (!e && r == 0)) else if v = 2 then r == 0 else if v = 3 then decide (r ≥ 0) && decide (r ≤ 2147483647) else false
def putL (v p i : Int) (e : Bool) (r : Int) : List Int :=
  leL (v * 16777216 + if e = true then 1 else 0) ++ leL p ++ leL i ++ leL (p / 4294967296) ++ leL (i / 4294967296) ++ if v = 3 then leL r else []
/-- The four bytes as a text. -/
def leB (n : Int) : ByteArray := strOfNums (leL n)
theorem leB_size (n : Int) : (leB n).size = 4 := by unfold leB; rw [strOfNums_size]; rfl
theorem strOfNums_append (l r : List Int) : strOfNums (l ++ r) = strOfNums l ++ strOfNums r := by
  apply ByteArray.ext
  apply Array.ext'
  simp [strOfNums, ByteArray.data_append]
/-- The bytes of caps. -/
def putB (v p i : Int) (e : Bool) (r : Int) : ByteArray := if v = 0 ∨ mayB v p i e r = false then ⟨#[]⟩ else strOfNums (putL v p i e r)
theorem putB_of {v p i r : Int} {e : Bool} (hv : v ≠ 0) (hm : mayB v p i e r = true) :
    putB v p i e r = leB (v * 16777216 + if e = true then 1 else 0) ++ leB p ++ leB i ++ leB (p / 4294967296) ++ leB (i / 4294967296) ++ if v = 3 then leB r else strOfNums [] := by
  unfold putB
  rw [if_neg (by simp [hv, hm])]
  unfold putL
  simp only [strOfNums_append, leB]
  by_cases h : v = 3
  · rw [if_pos h, if_pos h]
  · rw [if_neg h, if_neg h]
theorem append_none (s : ByteArray) : s ++ strOfNums [] = s := by
  apply ByteArray.ext
  apply Array.ext'
  simp [strOfNums, ByteArray.data_append]
theorem putB_none {v p i r : Int} {e : Bool} (h : v = 0 ∨ mayB v p i e r = false) : putB v p i e r = ⟨#[]⟩ := by unfold putB; rw [if_pos h]
theorem leL_mod (n : Int) : leL (n % 4294967296) = leL n := by
  unfold leL
  congr 1
  · omega
  congr 1
  · omega
  congr 1
  · omega
  congr 1
  omega
theorem leB_mod (n : Int) : leB (n % 4294967296) = leB n := by unfold leB; rw [leL_mod]
theorem leB_wrap (n : Int) : leB (IntKind.u32.wrap n) = leB n := by unfold leB; rw [IntKind.wrap_u32, leL_mod]
end Go.Proofs.Ytaaeidlekmeaiaa
