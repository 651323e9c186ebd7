/- num.Field and num.ReadField told plainly, and the document's ReadField walked. -/
import Derived.Test.YtljahgpincaihaaRefs
namespace Go.Proofs.Ytljahgpincaihaa
set_option linter.unusedVariables false
set_option linter.unusedSimpArgs false
open Go.RowKit Go.Proofs.Ytljahgpincaihaa.GE Go.Proofs.YtljahgpincaihaaW.PrintWords Go.Proofs.YtljahgpincaihaaW.PrintLast Go.Proofs.YtljahgpincaihaaW.PrintMore

theorem numOct_is {n w : Int} (h0 : -9223372036854775808 ≤ n) (h1 : n < 9223372036854775808) : numOct.f n w = some (octS n w) := by unfold numOct.f; rw [if_pos ⟨h0, h1⟩]
theorem numBase_is {n w : Int} (h0 : -9223372036854775808 ≤ n) (h1 : n < 9223372036854775808) : numBase.f n w = some (baseS n w) := by unfold numBase.f; rw [if_pos ⟨h0, h1⟩]
theorem field_is {n w : Int} (h0 : -9223372036854775808 ≤ n) (h1 : n < 9223372036854775808) : num_Field.f n w = some (fieldS n w) := by
  unfold num_Field.f fieldS
  rw [numOct_is h0 h1, Option.bind_some, numBase_is h0 h1, Option.bind_some]
  by_cases h : (octS n w).2 = true
  · rw [if_pos h, if_pos h]
    congr 1
    exact Prod.ext rfl h.symm
  · rw [if_neg h, if_neg h]
/-- What a field says. -/
def rfS (s : ByteArray) : Int × Bool := if (rdOS s).2 = true then rdOS s else if (rdBS s).2 = true ∧ ¬ (octS (rdBS s).1 s.size).2 = true then rdBS s else (0, false)
theorem rdOS_true {s : ByteArray} (h : (rdOS s).2 = true) : octL (rdOS s).1 s.size = some (bytesOf s) := by
  unfold rdOS at h ⊢
  cases hr : rdO (bytesOf s) with
  | none => rw [hr] at h; cases h
  | some m => have := (rdO_iff _ _).1 hr; rwa [bytesOf_length] at this
theorem rdBS_true {s : ByteArray} (h : (rdBS s).2 = true) : baseL (rdBS s).1 s.size = some (bytesOf s) ∧ -9223372036854775808 ≤ (rdBS s).1 ∧ (rdBS s).1 < 9223372036854775808 := by
  unfold rdBS at h ⊢
  cases hr : rdB (bytesOf s) with
  | none => rw [hr] at h; cases h
  | some m => have := (rdB_iff _ _).1 hr; rwa [bytesOf_length] at this
theorem rdBS_range (s : ByteArray) : -9223372036854775808 ≤ (rdBS s).1 ∧ (rdBS s).1 < 9223372036854775808 := by
  unfold rdBS
  cases hr : rdB (bytesOf s) with
  | none => show -9223372036854775808 ≤ (0 : Int) ∧ (0 : Int) < 9223372036854775808; omega
  | some m => exact ((rdB_iff _ _).1 hr).2
theorem rdOS_pair {s : ByteArray} (h : (rdOS s).2 = true) : rdOS s = ((rdOS s).1, true) := Prod.ext rfl h
theorem rdBS_pair {s : ByteArray} (h : (rdBS s).2 = true) : rdBS s = ((rdBS s).1, true) := Prod.ext rfl h
theorem readField_is {s : ByteArray} (hs : s.size ≤ 140737488351232) : num_ReadField.f s = some (rfS s) := by
  have ro : numRdO.f s = some (rdOS s) := by unfold numRdO.f; rw [if_pos hs]
  have rb : numRdB.f s = some (rdBS s) := by unfold numRdB.f; rw [if_pos hs]
  have hr := rdBS_range s
  unfold num_ReadField.f
  rw [ro, Option.bind_some, rb, Option.bind_some, field_is hr.1 hr.2, Option.bind_some]
  unfold rfS
  by_cases h : (rdOS s).2 = true
  · rw [if_pos h, if_pos h]
    congr 1
    exact (rdOS_pair h).symm
  · rw [if_neg h, if_neg h]
    by_cases hb : (rdBS s).2 = true
    · have hB := (rdBS_true hb).1
      rw [if_pos hb]
      unfold fieldS
      by_cases ho : (octS (rdBS s).1 s.size).2 = true
      · have hne : ¬ (octS (rdBS s).1 s.size).1.toList = s.toList := by
          intro he
          have he := toList_inj.1 he
          have hO : octS (rdBS s).1 s.size = (s, true) := Prod.ext he ho
          have := rdOS_some (octS_iff.1 hO)
          rw [this] at h
          exact h rfl
        rw [if_pos ho, if_pos ho, if_neg hne, if_neg (fun e => e.2 ho)]
      · have hS := baseS_iff.2 hB
        rw [if_neg ho, hS, if_pos rfl, if_pos rfl, if_pos (And.intro hb ho)]
        congr 1
        exact (rdBS_pair hb).symm
    · rw [if_neg hb, if_neg (fun e => hb e.1)]
/-! ### The document's ReadField -/
set_option maxHeartbeats 4000000 in
set_option maxRecDepth 100000 in
theorem ref_rf (s : ByteArray) (w : World) : Calls Try.prog 20 #[.string s] w fun e w' => e = .returned (.agg #[.int .i64 (rfS s).1, .bool (rfS s).2]) ∧ Below w.heap.size w w' := by
  have HO := Aside0.mk (fun W => gripsackref1_ReadOctal.calls 60 s (rdOS s).1 (rdOS s).2 W (ref_rdo s 60 (Nat.le_refl _)))
  have HB := Aside0.mk (fun W => gripsackref1_ReadBase.calls 60 s (rdBS s).1 (rdBS s).2 W (ref_rdb s 60 (Nat.le_refl _)))
  have hr := rdBS_range s
  have HX := Aside0.mk (fun W => gripsackref1_Octal.calls 60 (rdBS s).1 s.size (octS (rdBS s).1 s.size).1 (octS (rdBS s).1 s.size).2 W (ref_octal _ _ hr.2 60 (by decide)))
  have HR : Aside0 (rfS s = if (rdOS s).2 = true then ((rdOS s).1, (rdOS s).2) else if (rdBS s).2 = true ∧ ¬ (octS (rdBS s).1 s.size).2 = true then ((rdBS s).1, (rdBS s).2) else (0, false)) := ⟨rfl⟩
  clear hr
  generalize rfS s = r at *
  generalize (rdOS s).1 = a at *
  generalize (rdOS s).2 = ao at *
  generalize (octS (rdBS s).1 s.size).1 = t at *
  generalize (octS (rdBS s).1 s.size).2 = x at *
  generalize (rdBS s).1 = b at *
  generalize (rdBS s).2 = bo at *
  have hu := Try.underlying31
  have hfl : ∀ (u : ByteArray) (y : Bool) (W : World), (Instr.field 26 (.agg #[.string u, .bool y]) 1).run Try.prog W = .ok (.bool y) W := fun _ _ _ => by rfl
  generalize hg : w.heap.size = g at *
  cases ao with
  | true =>
    rw [if_pos rfl] at HR
    go_enter Try.func20, Try.ntmps20
    go_wp2_with fail
    refine (HO.out _).mono ?_
    rintro e w1 ⟨rfl, hb1⟩
    have B0 := heap_alloc_new w (.cells #[.int .i64 0, .bool false] 31)
    rw [hg] at B0
    have B1 : Aside0 ((w1.alloc (.cells #[.int .i64 a, .bool true] 31)).heap[g]? = some (.cells #[.int .i64 0, .bool false] 31 (0, 0))) := ⟨blk_alloc ((hb1.block g (by simp; omega)).trans B0) _⟩
    have W1 : Aside0 (Below g w (w1.alloc (.cells #[.int .i64 a, .bool true] 31))) := ⟨(((Below.refl g w).alloc (by omega) _).trans (hb1.mono (by simp; omega))).alloc (by have := hb1.size; simp at this; omega) _⟩
    clear hb1 B0
    have c0 : (w1.alloc (.cells #[.int .i64 a, .bool true] 31)).cell? ⟨g, 0, none⟩ = some (.int .i64 0) := (blk_cell B1.out 0).trans rfl
    have c1 : (w1.alloc (.cells #[.int .i64 a, .bool true] 31)).cell? ⟨g, 1, none⟩ = some (.bool false) := (blk_cell B1.out 1).trans rfl
    have z0 := blk_frozen B1.out 0
    have z1 := blk_frozen B1.out 1
    go_wp2_with fail
    refine bodyPost_ret (results_cell_row rfl _ _ g 31 #[.int .i64 a, .bool true] (0, 0) _ rfl (blk_put (cs := #[.int .i64 a, .bool false]) (blk_put (cs := #[.int .i64 0, .bool false]) B1.out 0 _ rfl) 1 _ rfl) Try.underlying31 rfl (by kernel_rfl)) rfl ?_
    exact ⟨by rw [HR.out], (W1.out.setCell (p := ⟨g, 0, none⟩) (Nat.le_refl _) _).setCell (p := ⟨g, 1, none⟩) (Nat.le_refl _) _⟩
  | false =>
    rw [if_neg (by decide)] at HR
    go_enter Try.func20, Try.ntmps20
    go_wp2_with fail
    refine (HO.out _).mono ?_
    rintro e w1 ⟨rfl, hb1⟩
    have B0 := heap_alloc_new w (.cells #[.int .i64 0, .bool false] 31)
    rw [hg] at B0
    have B1 : Aside0 ((w1.alloc (.cells #[.int .i64 a, .bool false] 31)).heap[g]? = some (.cells #[.int .i64 0, .bool false] 31 (0, 0))) := ⟨blk_alloc ((hb1.block g (by simp; omega)).trans B0) _⟩
    have W1 : Aside0 (Below g w (w1.alloc (.cells #[.int .i64 a, .bool false] 31))) := ⟨(((Below.refl g w).alloc (by omega) _).trans (hb1.mono (by simp; omega))).alloc (by have := hb1.size; simp at this; omega) _⟩
    clear hb1 B0
    cases bo with
    | false =>
      rw [if_neg (fun h => by cases h.1)] at HR
      go_wp2_with fail
      generalize w1.alloc (.cells #[.int .i64 a, .bool false] 31) = w2 at *
      refine (HB.out _).mono ?_
      rintro e w3 ⟨rfl, hb3⟩
      have B3 : Aside0 ((w3.alloc (.cells #[.int .i64 b, .bool false] 31)).heap[g]? = some (.cells #[.int .i64 0, .bool false] 31 (0, 0))) := ⟨blk_alloc (blk_below B1.out hb3) _⟩
      have W3 : Aside0 (Below g w (w3.alloc (.cells #[.int .i64 b, .bool false] 31))) := ⟨(below_then W1.out (Nat.le_of_lt (blk_lt B1.out)) hb3).alloc (Nat.le_of_lt (blk_lt (blk_below B1.out hb3))) _⟩
      clear hb3 B1 W1
      have c0 : (w3.alloc (.cells #[.int .i64 b, .bool false] 31)).cell? ⟨g, 0, none⟩ = some (.int .i64 0) := (blk_cell B3.out 0).trans rfl
      have c1 : (w3.alloc (.cells #[.int .i64 b, .bool false] 31)).cell? ⟨g, 1, none⟩ = some (.bool false) := (blk_cell B3.out 1).trans rfl
      have z0 := blk_frozen B3.out 0
      have z1 := blk_frozen B3.out 1
      go_wp2_with fail
      refine bodyPost_ret (results_cell_row rfl _ _ g 31 #[.int .i64 0, .bool false] (0, 0) _ rfl (blk_put (cs := #[.int .i64 0, .bool false]) (blk_put (cs := #[.int .i64 0, .bool false]) B3.out 0 _ rfl) 1 _ rfl) Try.underlying31 rfl (by kernel_rfl)) rfl ?_
      exact ⟨by rw [HR.out], (W3.out.setCell (p := ⟨g, 0, none⟩) (Nat.le_refl _) _).setCell (p := ⟨g, 1, none⟩) (Nat.le_refl _) _⟩
    | true =>
      go_wp2_with fail
      generalize w1.alloc (.cells #[.int .i64 a, .bool false] 31) = w2 at *
      refine (HB.out _).mono ?_
      rintro e w3 ⟨rfl, hb3⟩
      have B3 : Aside0 ((w3.alloc (.cells #[.int .i64 b, .bool true] 31)).heap[g]? = some (.cells #[.int .i64 0, .bool false] 31 (0, 0))) := ⟨blk_alloc (blk_below B1.out hb3) _⟩
      have W3 : Aside0 (Below g w (w3.alloc (.cells #[.int .i64 b, .bool true] 31))) := ⟨(below_then W1.out (Nat.le_of_lt (blk_lt B1.out)) hb3).alloc (Nat.le_of_lt (blk_lt (blk_below B1.out hb3))) _⟩
      clear hb3 B1 W1
      have B4 := heap_alloc_new w3 (.cells #[.int .i64 b, .bool true] 31)
      go_wp2_with fail
      refine (HX.out _).mono ?_
      rintro e w5 ⟨rfl, hb5⟩
      have B5 := Aside0.mk (blk_below B3.out hb5)
      have B6 := blk_below B4 hb5
      have W5 := Aside0.mk (below_then W3.out (Nat.le_of_lt (blk_lt B3.out)) hb5)
      clear hb5 B4 B3 W3
      cases x with
      | true =>
        rw [if_neg (fun h => h.2 rfl)] at HR
        clear B6
        have c0 : w5.cell? ⟨g, 0, none⟩ = some (.int .i64 0) := (blk_cell B5.out 0).trans rfl
        have c1 : w5.cell? ⟨g, 1, none⟩ = some (.bool false) := (blk_cell B5.out 1).trans rfl
        have z0 := blk_frozen B5.out 0
        have z1 := blk_frozen B5.out 1
        go_wp2_with fail
        refine bodyPost_ret (results_cell_row rfl _ _ g 31 #[.int .i64 0, .bool false] (0, 0) _ rfl (blk_put (cs := #[.int .i64 0, .bool false]) (blk_put (cs := #[.int .i64 0, .bool false]) B5.out 0 _ rfl) 1 _ rfl) Try.underlying31 rfl (by kernel_rfl)) rfl ?_
        exact ⟨by rw [HR.out], (W5.out.setCell (p := ⟨g, 0, none⟩) (Nat.le_refl _) _).setCell (p := ⟨g, 1, none⟩) (Nat.le_refl _) _⟩
      | false =>
        rw [if_pos (by simp)] at HR
        have x0 : w5.cell? ⟨w3.heap.size, 0, none⟩ = some (.int .i64 b) := (blk_cell B6 0).trans rfl
        have x1 : w5.cell? ⟨w3.heap.size, 1, none⟩ = some (.bool true) := (blk_cell B6 1).trans rfl
        clear B6
        have c0 : w5.cell? ⟨g, 0, none⟩ = some (.int .i64 0) := (blk_cell B5.out 0).trans rfl
        have c1 : w5.cell? ⟨g, 1, none⟩ = some (.bool false) := (blk_cell B5.out 1).trans rfl
        have z0 := blk_frozen B5.out 0
        have z1 := blk_frozen B5.out 1
        go_wp2_with fail
        refine bodyPost_ret (results_cell_row rfl _ _ g 31 #[.int .i64 b, .bool true] (0, 0) _ rfl (blk_put (cs := #[.int .i64 b, .bool false]) (blk_put (cs := #[.int .i64 0, .bool false]) B5.out 0 _ rfl) 1 _ rfl) Try.underlying31 rfl (by kernel_rfl)) rfl ?_
        exact ⟨by rw [HR.out], (W5.out.setCell (p := ⟨g, 0, none⟩) (Nat.le_refl _) _).setCell (p := ⟨g, 1, none⟩) (Nat.le_refl _) _⟩
end Go.Proofs.Ytljahgpincaihaa
