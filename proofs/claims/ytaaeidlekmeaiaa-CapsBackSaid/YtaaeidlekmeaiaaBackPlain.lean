/- What CapsBack says of plain bytes: caps are read again; a part, one byte more, a byte turned. No program in it. -/
import Derived.Test.YtaaeidlekmeaiaaLaws
namespace Go.Proofs.Ytaaeidlekmeaiaa
set_option linter.unusedVariables false
set_option linter.unusedSimpArgs false
open Go.RowKit Go.Proofs.YtaaeidlekmeaiaaW.PrintWords

/-! ### The bytes of a row of numbers -/
theorem bytesOf_nums (l : List Int) (h : ∀ x ∈ l, 0 ≤ x ∧ x < 256) : bytesOf (strOfNums l) = l := by
  unfold bytesOf
  rw [strOfNums_data, List.map_map]
  conv => rhs; rw [← List.map_id l]
  apply List.map_congr_left
  intro x hx
  have := h x hx
  simp [UInt8.toNat_ofNat']
  omega
theorem nums_bytesOf (s : ByteArray) : strOfNums (bytesOf s) = s := by
  apply ByteArray.ext
  apply Array.ext'
  rw [strOfNums_data, bytesOf, List.map_map]
  conv => rhs; rw [← List.map_id s.data.toList]
  apply List.map_congr_left
  intro x hx
  simp
theorem bt_nums (l : List Int) (h : ∀ x ∈ l, 0 ≤ x ∧ x < 256) (i : Int) : bt (strOfNums l) i = rd l i := by
  rw [← rd_bytesOf, bytesOf_nums l h]
theorem leL_small (n : Int) : ∀ x ∈ leL n, 0 ≤ x ∧ x < 256 := by
  intro x hx
  simp only [leL, List.mem_cons, List.not_mem_nil, or_false] at hx
  omega
theorem putL_small (v p i : Int) (e : Bool) (r : Int) : ∀ x ∈ putL v p i e r, 0 ≤ x ∧ x < 256 := by
  intro x hx
  unfold putL at hx
  simp only [List.mem_append] at hx
  rcases hx with ((((h | h) | h) | h) | h) | h
  · exact leL_small _ _ h
  · exact leL_small _ _ h
  · exact leL_small _ _ h
  · exact leL_small _ _ h
  · exact leL_small _ _ h
  · split at h
    · exact leL_small _ _ h
    · cases h
theorem w4_le (a : Int) : a % 256 + 256 * (a / 256 % 256) + 65536 * (a / 65536 % 256) + 16777216 * (a / 16777216 % 256) = a % 4294967296 := by omega

theorem put_w (v p i : Int) (e : Bool) (r : Int) : 
    w4 (strOfNums (putL v p i e r)) 0 = (v * 16777216 + if e = true then 1 else 0) % 4294967296 ∧ w4 (strOfNums (putL v p i e r)) 4 = p % 4294967296 ∧
    w4 (strOfNums (putL v p i e r)) 8 = i % 4294967296 ∧ w4 (strOfNums (putL v p i e r)) 12 = p / 4294967296 % 4294967296 ∧ w4 (strOfNums (putL v p i e r)) 16 = i / 4294967296 % 4294967296 := by
  have hb := fun k => bt_nums (putL v p i e r) (putL_small v p i e r) k
  unfold w4
  simp only [hb]
  unfold putL
  refine ⟨w4_le _, w4_le _, w4_le _, w4_le _, w4_le _⟩
theorem put_w3 (p i : Int) (e : Bool) (r : Int) : w4 (strOfNums (putL 3 p i e r)) 20 = r % 4294967296 := by
  have hb := fun k => bt_nums (putL 3 p i e r) (putL_small 3 p i e r) k
  unfold w4
  simp only [hb]
  unfold putL
  exact w4_le _

/-! ### What has been told is read -/
theorem get_put {v p i r : Int} {e : Bool} (hv : ¬ v = 0) (hm : mayB v p i e r = true) (hp : u64b p = true) (hi : u64b i = true) : getS (putB v p i e r) = (v, p, i, e, r, true) := by
  have hsz := leB_sizes v p i r e
  obtain ⟨h23, hr0, hr1⟩ := may_ver hv hm
  simp [u64b] at hp hi
  rw [if_neg (by simp [hv, hm])] at hsz
  have hput : putB v p i e r = strOfNums (putL v p i e r) := by unfold putB; rw [if_neg (by simp [hv, hm])]
  obtain ⟨e0, e4, e8, e12, e16⟩ := put_w v p i e r
  rw [← hput] at e0 e4 e8 e12 e16
  have hh : (0 : Int) ≤ (if e = true then 1 else 0) ∧ (if e = true then 1 else 0 : Int) ≤ 1 := by split <;> omega
  have hver : verOf (putB v p i e r) = v := by unfold verOf; rw [e0]; omega
  have hperm : permOf (putB v p i e r) = p := by unfold permOf; rw [e4, e12]; omega
  have hinh : inhOf (putB v p i e r) = i := by unfold inhOf; rw [e8, e16]; omega
  have heff : effOf (putB v p i e r) = e := by
    unfold effOf; rw [e0]
    cases e
    · simp; omega
    · simp; omega
  have hroot : rootOf (putB v p i e r) = r := by
    unfold rootOf; rw [hver]
    by_cases h3 : v = 3
    · subst h3
      rw [if_pos rfl]
      have := put_w3 p i e r
      rw [← hput] at this
      rw [this]; omega
    · rw [if_neg h3]
      have : v = 2 := by omega
      subst this
      unfold mayB at hm
      simp at hm
      omega
  unfold getS
  rw [hver, hperm, hinh, heff, hroot]
  rw [if_neg (by rw [hsz]; split <;> omega), if_neg (by rw [hsz]; split <;> omega), if_pos rfl]
/-- What is read as some caps is their bytes. -/
theorem get_inj {b : ByteArray} {v p i r : Int} {e : Bool} (hv : ¬ v = 0) (h : getS b = (v, p, i, e, r, true)) : putB v p i e r = b := by
  unfold getS at h
  split at h
  · injection h with h1; omega
  · split at h
    · injection h with h1; omega
    · split at h
      · rename_i hp
        simp only [Prod.mk.injEq] at h
        obtain ⟨rfl, rfl, rfl, rfl, rfl, _⟩ := h
        exact hp
      · injection h with h1; omega
/-- What is read has 20 bytes, or 24, or none. -/
theorem get_size {b : ByteArray} (h : (getS b).2.2.2.2.2 = true) : b.size = 0 ∨ (b.size = 20 ∧ ¬ verOf b = 3) ∨ b.size = 24 := by
  unfold getS at h
  split at h
  · left; assumption
  · split at h
    · simp at h
    · split at h
      · rename_i h0 hx hp
        have := leB_sizes (verOf b) (permOf b) (inhOf b) (rootOf b) (effOf b)
        rw [hp, if_neg (by intro hc; rw [if_pos hc] at this; exact h0 this)] at this
        by_cases h3 : verOf b = 3
        · rw [if_pos h3] at this; exact .inr (.inr this)
        · rw [if_neg h3] at this; exact .inr (.inl ⟨this, h3⟩)
      · simp at h
/-- The tail of what is read. -/
def more (s : ByteArray) : Int × Int × Int × Bool × Int := ((getS s).1, (getS s).2.1, (getS s).2.2.1, (getS s).2.2.2.1, (getS s).2.2.2.2.1)
theorem get_more (s : ByteArray) {b : Bool} (h : (getS s).2.2.2.2.2 = b) : getS s = ((more s).1, (more s).2.1, (more s).2.2.1, (more s).2.2.2.1, (more s).2.2.2.2, b) := by
  unfold more
  rw [← h]
theorem get_nil (s : ByteArray) : (getS (s.extract 0 0)).2.2.2.2.2 = true := by
  unfold getS
  rw [if_pos (by simp [ByteArray.size_extract])]
theorem get_cut {v p i r : Int} {e : Bool} (hv : ¬ v = 0) (hm : mayB v p i e r = true) (k : Nat) (h0 : 0 < k) (hk : k < (putB v p i e r).size) : (getS ((putB v p i e r).extract 0 k)).2.2.2.2.2 = false := by
  have hsz := leB_sizes v p i r e
  obtain ⟨h23, hr0, hr1⟩ := may_ver hv hm
  rw [if_neg (by simp [hv, hm])] at hsz
  have hput : putB v p i e r = strOfNums (putL v p i e r) := by unfold putB; rw [if_neg (by simp [hv, hm])]
  obtain ⟨e0, _⟩ := put_w v p i e r
  rw [← hput] at e0
  have hh : (0 : Int) ≤ (if e = true then 1 else 0) ∧ (if e = true then 1 else 0 : Int) ≤ 1 := by split <;> omega
  have hver : w4 (putB v p i e r) 0 / 16777216 = v := by rw [e0]; omega
  cases hg : (getS ((putB v p i e r).extract 0 k)).2.2.2.2.2 with
  | false => rfl
  | true =>
    exfalso
    have h1 := get_size hg
    have hsk : ((putB v p i e r).extract 0 k).size = k := by rw [ByteArray.size_extract]; omega
    rw [hsk] at h1
    rcases h1 with h1 | ⟨h1, h2⟩ | h1
    · omega
    · have hb := fun (j : Nat) (hj : 0 + j < k) => bt_extract (putB v p i e r) 0 k (by omega) j hj
      have : verOf ((putB v p i e r).extract 0 k) = v := by
        refine Eq.trans ?_ hver
        unfold verOf w4
        have b0 := hb 0 (by omega)
        have b1 := hb 1 (by omega)
        have b2 := hb 2 (by omega)
        have b3 := hb 3 (by omega)
        simp at b0 b1 b2 b3
        simp only [Int.zero_add]
        rw [b0, b1, b2, b3]
      rw [this] at h2
      rw [if_neg h2] at hsz
      omega
    · split at hsz <;> omega
theorem get_longer {v p i r : Int} {e : Bool} (hv : ¬ v = 0) (hm : mayB v p i e r = true) (t : ByteArray) (ht : t.size = 1) : (getS (putB v p i e r ++ t)).2.2.2.2.2 = false := by
  have hsz := leB_sizes v p i r e
  rw [if_neg (by simp [hv, hm])] at hsz
  cases hg : (getS (putB v p i e r ++ t)).2.2.2.2.2 with
  | false => rfl
  | true =>
    exfalso
    have h1 := get_size hg
    rw [ByteArray.size_append, ht] at h1
    split at hsz <;> omega
theorem fix {α : Type} (l : List α) (j : Nat) (x y : α) (hj : l[j]? = some y) (h : l.set j x = l) : x = y := by
  have hlt : j < l.length := (List.getElem?_eq_some_iff.1 hj).1
  have := congrArg (fun m => m[j]?) h
  simp only [List.getElem?_set_self hlt, hj] at this
  exact Option.some.inj this
/-- A byte turned: other caps, or none. -/
theorem get_turned {v p i r : Int} {e : Bool} (hv : ¬ v = 0) (j : Nat) (hj : j < (putB v p i e r).size) (x : Int) (hx : 0 ≤ x ∧ x < 256) (hne : ¬ x = bt (putB v p i e r) j) :
    ¬ getS (strOfNums ((bytesOf (putB v p i e r)).set j x)) = (v, p, i, e, r, true) := by
  intro h
  have h1 := get_inj hv h
  have h2 := congrArg bytesOf h1
  rw [bytesOf_nums _ (by
    intro y hy
    rcases List.mem_or_eq_of_mem_set hy with hy | rfl
    · simp only [bytesOf, List.mem_map] at hy
      obtain ⟨b, _, rfl⟩ := hy
      have := b.toNat_lt
      omega
    · exact hx)] at h2
  have hl : (bytesOf (putB v p i e r))[j]? = some (bt (putB v p i e r) j) := by
    rw [← rd_bytesOf]
    have : j < (bytesOf (putB v p i e r)).length := by rw [bytesOf_length]; exact hj
    simp [rd, List.getD_eq_getElem?_getD, List.getElem?_eq_getElem this]
  exact hne (fix _ _ _ _ hl h2.symm)
/-- A byte over which another, not nought, is laid is another byte. -/
theorem xor_ne (a b : Int) (ha : 0 ≤ a ∧ a < 256) (hb : 0 ≤ b ∧ b < 256) (h0 : ¬ b = 0) : ¬ Go.bits .xor .u8 a b = a ∧ 0 ≤ Go.bits .xor .u8 a b ∧ Go.bits .xor .u8 a b < 256 := by
  refine ⟨?_, ?_, ?_⟩
  · intro h
    have e : Go.bits .xor .u8 a b = ((BitVec.ofInt 8 a ^^^ BitVec.ofInt 8 b).toNat : Int) := by
      have hl : ((BitVec.ofInt 8 a ^^^ BitVec.ofInt 8 b).toNat : Int) < 256 := by have := (BitVec.ofInt 8 a ^^^ BitVec.ofInt 8 b).isLt; omega
      simp only [Go.bits, IntKind.bits, IntKind.wrap, IntKind.signed]
      simp only [Bool.false_and, Bool.false_eq_true, if_false]
      exact Int.emod_eq_of_lt (Int.natCast_nonneg _) hl
    have hx : BitVec.ofInt 8 a ^^^ BitVec.ofInt 8 b = BitVec.ofInt 8 a := by
      apply BitVec.eq_of_toNat_eq
      have : ((BitVec.ofInt 8 a).toNat : Int) = a := by rw [BitVec.toNat_ofInt]; omega
      omega
    have hy := congrArg (BitVec.ofInt 8 a ^^^ ·) hx
    simp only [← BitVec.xor_assoc, BitVec.xor_self, BitVec.zero_xor] at hy
    have := congrArg BitVec.toNat hy
    rw [BitVec.toNat_ofInt] at this
    simp at this
    omega
  · simp only [Go.bits, IntKind.bits, IntKind.wrap, IntKind.signed]; simp; omega
  · simp only [Go.bits, IntKind.bits, IntKind.wrap, IntKind.signed]; simp; omega
end Go.Proofs.Ytaaeidlekmeaiaa
