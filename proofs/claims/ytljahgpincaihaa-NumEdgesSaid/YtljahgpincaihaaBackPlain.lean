/- Plain facts of a field turned: of another width it is none; with a byte turned another number, or none. -/
import Derived.Test.YtljahgpincaihaaFields
namespace Go.Proofs.Ytljahgpincaihaa
set_option linter.unusedVariables false
set_option linter.unusedSimpArgs false
open Go.RowKit Go.Proofs.YtljahgpincaihaaW.PrintWords

theorem octL_head {n w : Int} {l : List Int} (h : octL n w = some l) : ∃ c, l.head? = some c ∧ 48 ≤ c ∧ c < 56 := by
  obtain ⟨⟨hw, _⟩, rfl⟩ := octL_iff.1 h
  obtain ⟨k, hk⟩ : ∃ k, w.toNat - 1 = k + 1 := ⟨w.toNat - 2, by omega⟩
  rw [hk, dg8]
  exact ⟨_, rfl, by omega, by omega⟩
theorem baseL_head {n w : Int} {l : List Int} (h : baseL n w = some l) : l.head? = some 255 ∨ l.head? = some 128 := by
  obtain ⟨_, rfl⟩ := baseL_iff.1 h
  by_cases hn : n < 0
  · rw [if_pos hn]; exact .inl rfl
  · rw [if_neg hn]; exact .inr rfl
theorem octS_size {n w : Int} (h : (octS n w).2 = true) : ((octS n w).1.size : Int) = w := by
  cases hl : octL n w with
  | none => rw [octS_none hl] at h; cases h
  | some l => rw [octS_some hl, strOfNums_size]; exact octL_length hl
theorem baseS_size {n w : Int} (h : (baseS n w).2 = true) : ((baseS n w).1.size : Int) = w := by
  cases hl : baseL n w with
  | none => rw [baseS_none hl] at h; cases h
  | some l => rw [baseS_some hl, strOfNums_size]; exact baseL_length hl
theorem field_size {n w : Int} (h : (fieldS n w).2 = true) : ((fieldS n w).1.size : Int) = w := by
  unfold fieldS at h ⊢
  by_cases ho : (octS n w).2 = true
  · rw [if_pos ho]; exact octS_size ho
  · rw [if_neg ho] at h ⊢; exact baseS_size h
/-- What a field says has just this field. -/
theorem rf_true {s : ByteArray} (h : (rfS s).2 = true) : fieldS (rfS s).1 s.size = (s, true) := by
  unfold rfS at h ⊢
  by_cases ho : (rdOS s).2 = true
  · rw [if_pos ho] at h ⊢
    have := octS_iff.2 (rdOS_true ho)
    unfold fieldS
    rw [this, if_pos rfl]
  · rw [if_neg ho] at h ⊢
    by_cases hb : (rdBS s).2 = true ∧ ¬ (octS (rdBS s).1 s.size).2 = true
    · rw [if_pos hb] at h ⊢
      have := baseS_iff.2 (rdBS_true hb.1).1
      unfold fieldS
      rw [if_neg hb.2, this]
    · rw [if_neg hb] at h; cases h
/-- What Field tells ReadField reads. -/
theorem rf_field {n w : Int} {s : ByteArray} (h : fieldS n w = (s, true)) (h0 : -9223372036854775808 ≤ n) (h1 : n < 9223372036854775808) : rfS s = (n, true) := by
  have hz : (s.size : Int) = w := by have := field_size (n := n) (w := w) (by rw [h]); rw [h] at this; exact this
  unfold fieldS at h
  by_cases ho : (octS n w).2 = true
  · rw [if_pos ho] at h
    have := rdOS_some (s := s) (m := n) (by rw [hz]; exact octS_iff.1 h)
    unfold rfS
    rw [this, if_pos rfl]
  · rw [if_neg ho] at h
    have hB := baseS_iff.1 h
    have hr := rdBS_some (s := s) (m := n) (by rw [hz]; exact hB) h0 h1
    have hno : rdOS s = (0, false) := by
      refine rdOS_none fun m hm => ?_
      obtain ⟨c, hc, c0, c1⟩ := octL_head hm
      rcases baseL_head hB with h | h
      · rw [hc] at h; have := Option.some.inj h; omega
      · rw [hc] at h; have := Option.some.inj h; omega
    unfold rfS
    rw [hno, if_neg (by decide), hr, if_pos ⟨rfl, by rw [hz]; exact ho⟩]
theorem rf_size {s : ByteArray} (h8 : ¬ s.size = 8) (h12 : ¬ s.size = 12) : rfS s = (0, false) := by
  unfold rfS
  rw [rdOS_none (fun m hm => by have := (octL_iff.1 hm).1.1; omega), if_neg (by decide), rdBS_none (fun m _ _ hm => by have := (baseL_iff.1 hm).1.1; omega), if_neg (fun h => by cases h.1)]
theorem field_none {n w : Int} (hw : w = 8 ∨ w = 12) (h0 : -9223372036854775808 ≤ n) (h1 : n < 9223372036854775808) (h : (fieldS n w).2 = false) : fieldS n w = (⟨#[]⟩, false) ∧ w = 8 ∧ (n ≥ 72057594037927936 ∨ n < -72057594037927936) := by
  unfold fieldS at h ⊢
  by_cases ho : (octS n w).2 = true
  · rw [if_pos ho, ho] at h; cases h
  · rw [if_neg ho] at h ⊢
    cases hl : baseL n w with
    | some l => rw [baseS_some hl] at h; cases h
    | none =>
      refine ⟨baseS_none hl, ?_⟩
      by_cases hc : (w = 8 ∨ w = 12) ∧ (w = 12 ∨ (-72057594037927936 ≤ n ∧ n < 72057594037927936))
      · rw [baseL_some hc] at hl; cases hl
      · omega
theorem field_turned {n w : Int} {s t : ByteArray} (h : fieldS n w = (s, true)) (hz : t.size = s.size) (hne : ¬ t = s) : (rfS t).2 = false ∨ ((rfS t).2 = true ∧ ¬ (rfS t).1 = n) := by
  have hw : (s.size : Int) = w := by have := field_size (n := n) (w := w) (by rw [h]); rw [h] at this; exact this
  cases ht : (rfS t).2 with
  | false => exact .inl rfl
  | true =>
    refine .inr ⟨rfl, fun e => hne ?_⟩
    have := rf_true ht
    rw [e, hz, hw, h] at this
    exact (Prod.mk.inj this).1.symm
theorem fix {α : Type} (l : List α) (j : Nat) (x y : α) (hj : l[j]? = some y) (h : l.set j x = l) : x = y := by
  have hlt : j < l.length := (List.getElem?_eq_some_iff.1 hj).1
  have := congrArg (fun m => m[j]?) h
  simp only [List.getElem?_set_self hlt, hj] at this
  exact Option.some.inj this
/-- A byte over which another, not nought, is laid is another byte. -/
theorem xor_ne (a b : Int) (ha : 0 ≤ a ∧ a < 256) (hb : 0 ≤ b ∧ b < 256) (h0 : ¬ b = 0) : ¬ Go.bits .xor .u8 a b = a ∧ 0 ≤ Go.bits .xor .u8 a b ∧ Go.bits .xor .u8 a b < 256 := by
  refine ⟨?_, ?_, ?_⟩
  · intro h
    have e : Go.bits .xor .u8 a b = ((BitVec.ofInt 8 a ^^^ BitVec.ofInt 8 b).toNat : Int) := by
      have hl : ((BitVec.ofInt 8 a ^^^ BitVec.ofInt 8 b).toNat : Int) < 256 := by have := (BitVec.ofInt 8 a ^^^ BitVec.ofInt 8 b).isLt; omega
      simp only [Go.bits, IntKind.bits, IntKind.wrap, IntKind.signed]
      simp only [Bool.false_and, Bool.false_eq_true, if_false]
      exact Int.emod_eq_of_lt (Int.natCast_nonneg _) hl
    have hx : BitVec.ofInt 8 a ^^^ BitVec.ofInt 8 b = BitVec.ofInt 8 a := by
      apply BitVec.eq_of_toNat_eq
      have : ((BitVec.ofInt 8 a).toNat : Int) = a := by rw [BitVec.toNat_ofInt]; omega
      omega
    have hy := congrArg (BitVec.ofInt 8 a ^^^ ·) hx
    simp only [← BitVec.xor_assoc, BitVec.xor_self, BitVec.zero_xor] at hy
    have := congrArg BitVec.toNat hy
    rw [BitVec.toNat_ofInt] at this
    simp at this
    omega
  · simp only [Go.bits, IntKind.bits, IntKind.wrap, IntKind.signed]; simp; omega
  · simp only [Go.bits, IntKind.bits, IntKind.wrap, IntKind.signed]; simp; omega
/-- The text with one byte turned is another text. -/
theorem turned_ne (q : ByteArray) (j : Nat) (hj : j < q.size) (b : Int) (b0 : 0 ≤ b) (b1 : b < 256) (h0 : ¬ b = 0) : ¬ strOfNums ((bytesOf q).set j (Go.bits .xor .u8 (bt q j) b)) = q := by
  intro h
  have hr := bt_range q j
  obtain ⟨hne, x0, x1⟩ := xor_ne (bt q j) b (by omega) ⟨b0, b1⟩ h0
  have h2 := congrArg bytesOf h
  rw [bytesOf_nums _ (by
    intro y hy
    rcases List.mem_or_eq_of_mem_set hy with hy | rfl
    · exact bytesOf_small q y hy
    · exact ⟨x0, x1⟩)] at h2
  exact hne (fix _ _ _ _ (bytesOf_get q j hj) h2)
end Go.Proofs.Ytljahgpincaihaa
