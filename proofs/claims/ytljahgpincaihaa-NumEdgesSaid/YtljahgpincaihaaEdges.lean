/- NumEdges walked: the last numbers of each form are, the next ones are of the other, or of none; bytes that begin otherwise are none. -/
import Derived.Test.YtljahgpincaihaaBack
import Derived.Lib.BufferWrite
import Derived.Laws.CopyOwn
namespace Go.Proofs.Ytljahgpincaihaa
set_option linter.unusedVariables false
set_option linter.unusedSimpArgs false
open Go.RowKit Go.Proofs.Ytljahgpincaihaa.GE Go.Proofs.YtljahgpincaihaaW.PrintWords

/-- Bytes that begin otherwise are none. -/
theorem rf_head {s : ByteArray} (h : (rfS s).2 = true) (h1 : 1 ≤ s.size) : bt s 0 = 128 ∨ bt s 0 = 255 ∨ (48 ≤ bt s 0 ∧ bt s 0 ≤ 55) := by
  have hd := bytesOf_drop s 0 (by omega)
  rw [List.drop_zero] at hd
  have hh : (bytesOf s).head? = some (bt s 0) := by rw [hd]; rfl
  unfold rfS at h
  by_cases ho : (rdOS s).2 = true
  · obtain ⟨c, hc, c0, c1⟩ := octL_head (rdOS_true ho)
    rw [hh] at hc
    have := Option.some.inj hc
    omega
  · rw [if_neg ho] at h
    by_cases hb : (rdBS s).2 = true ∧ ¬ (octS (rdBS s).1 s.size).2 = true
    · rcases baseL_head (rdBS_true hb.1).1 with hc | hc
      · rw [hh] at hc; have := Option.some.inj hc; omega
      · rw [hh] at hc; have := Option.some.inj hc; omega
    · rw [if_neg hb] at h; cases h
theorem e1 : octS 2097151 8 = (⟨#[55, 55, 55, 55, 55, 55, 55, 0]⟩, true) := by decide +kernel
theorem e2 : octS 2097152 8 = (⟨#[]⟩, false) := by decide +kernel
theorem e3 : fieldS 2097152 8 = (⟨#[128, 0, 0, 0, 0, 32, 0, 0]⟩, true) := by decide +kernel
theorem e4 : fieldS 8589934591 12 = (⟨#[55, 55, 55, 55, 55, 55, 55, 55, 55, 55, 55, 0]⟩, true) := by decide +kernel
theorem e5 : fieldS 8589934592 12 = (⟨#[128, 0, 0, 0, 0, 0, 0, 2, 0, 0, 0, 0]⟩, true) := by decide +kernel
theorem e6 : fieldS 72057594037927936 8 = (⟨#[]⟩, false) := by decide +kernel
theorem e7 : (fieldS 72057594037927935 8).2 = true := by decide +kernel
theorem e8 : fieldS (-72057594037927937) 8 = (⟨#[]⟩, false) := by decide +kernel
/-- copy(dst, s), s a text of whatever length, dst lying in row g. -/
theorem run_copy_any {P : Program} (w : World) (dT sT ty elem : TypeId) (g o dLen dCap : Nat) (s : ByteArray) (cur : Array Value) (t : TypeId)
    (hu : P.underlying dT = some (.slice elem)) (hs : (P.info? elem).map (·.size) = some 1) (hg : w.heap[g]? = some (.cells cur t (0, 0))) (hfit : o + Nat.min s.size dLen ≤ cur.size) :
    (Builtin.copy_ #[dT, sT] ty #[.slice (some ⟨g, o, none⟩) dLen dCap, .string s]).run P w =
      .ok (goInt (Nat.min s.size dLen)) (w.setRow g (cur.toList.take o ++ (Lib.byteCells s.data.toList).take (Nat.min s.size dLen) ++ cur.toList.drop (o + Nat.min s.size dLen)).toArray) := by
  have hlen : ((Lib.byteCells s.data.toList).take (Nat.min s.size dLen)).length = Nat.min s.size dLen := by
    rw [List.length_take, Lib.byteCells_length, ← Lib.size_eq]
    exact Nat.min_eq_left (Nat.min_le_left _ _)
  have hst := run_storeCells_at P g o t ((Lib.byteCells s.data.toList).take (Nat.min s.size dLen)) 0 cur w hg (by rw [hlen]; simpa using hfit) (fun v hv => Lib.byteCells_one _ v (List.mem_of_mem_take hv))
  have htk : List.take (Nat.min s.size dLen) (List.map (fun b : UInt8 => Value.int IntKind.u8 (b.toNat : Int)) s.data.toList) = (Lib.byteCells s.data.toList).take (Nat.min s.size dLen) := rfl
  rw [hlen] at hst
  simp only [Nat.add_zero] at hst
  cases hq : P.info? elem with
  | none => simp [hq] at hs
  | some i =>
    simp [Builtin.copy_, run_underlying hu, Builtin.lenOf, Builtin.firstCells, sizeOf, typeInfo, hq]
    rw [htk, hst]
    simp [Result.andThen]
/-- Eight bytes, a text's first ones ahead. -/
def rowK (s : ByteArray) : List Int := (bytesOf s).take (Nat.min s.size 8) ++ List.replicate (8 - Nat.min s.size 8) 0
theorem rowK_length (s : ByteArray) : (rowK s).length = 8 := by
  unfold rowK
  have : Nat.min s.size 8 ≤ s.size ∧ Nat.min s.size 8 ≤ 8 := ⟨Nat.min_le_left _ _, Nat.min_le_right _ _⟩
  simp only [List.length_append, List.length_take, List.length_replicate, bytesOf_length]
  omega
theorem rowK_cells (s : ByteArray) : (madeCells #[Value.int .u8 0] 8).toList.take 0 ++ (Lib.byteCells s.data.toList).take (Nat.min s.size 8) ++ (madeCells #[Value.int .u8 0] 8).toList.drop (0 + Nat.min s.size 8) = nums .u8 (rowK s) := by
  have h1 : ∀ m : Nat, (madeCells #[Value.int .u8 0] m).toList = nums .u8 (List.replicate m 0) := by
    intro m
    apply List.ext_getElem
    · simp [nums, madeCells]
    · intro i h1 h2
      simp [nums, madeCells, Nat.mod_one]
  have h2 : Lib.byteCells s.data.toList = nums .u8 (bytesOf s) := by
    unfold Lib.byteCells nums bytesOf
    rw [List.map_map]
    rfl
  rw [h1, h2]
  unfold rowK
  rw [List.take_zero, List.nil_append, Nat.zero_add, nums_append]
  congr 1
  · simp only [nums, List.map_take]
  · simp only [nums, List.map_replicate, List.drop_replicate]
theorem rowK_range (s : ByteArray) (c : Int) (c0 : 0 ≤ c) (c1 : c < 256) : ∀ x ∈ (rowK s).set 0 c, 0 ≤ x ∧ x < 256 := by
  intro x hx
  rcases List.mem_or_eq_of_mem_set hx with hx | rfl
  · unfold rowK at hx
    rcases List.mem_append.1 hx with hx | hx
    · exact bytesOf_small s x (List.mem_of_mem_take hx)
    · have := (List.mem_replicate.1 hx).2; omega
  · omega
/-- The row with its first byte turned. -/
def textK (s : ByteArray) (c : Int) : ByteArray := strOfNums ((rowK s).set 0 c)
theorem textK_size (s : ByteArray) (c : Int) : (textK s c).size = 8 := by unfold textK; rw [strOfNums_size, List.length_set, rowK_length]
theorem textK_head (s : ByteArray) (c : Int) (c0 : 0 ≤ c) (c1 : c < 256) : bt (textK s c) 0 = c := by
  have h := bytesOf_get (textK s c) 0 (by rw [textK_size]; omega)
  unfold textK at h ⊢
  rw [bytesOf_nums _ (rowK_range s c c0 c1), List.getElem?_set_self (by rw [rowK_length]; omega)] at h
  exact (Option.some.inj h).symm
set_option maxHeartbeats 8000000 in
set_option maxRecDepth 100000 in
theorem edges (c : Int) (s : ByteArray) (c0 : 0 ≤ c) (c1 : c ≤ 255) (w : World) : Calls Try.prog 7 #[.int .u8 c, .string s] w fun e w' => e = .returned (.bool true) ∧ Below w.heap.size w w' := by
  have HAW := Aside0.mk awake_calls
  have H1 := Aside0.mk (oct_calls 2097151 8 (by decide) (by decide))
  have H2 := Aside0.mk (oct_calls 2097152 8 (by decide) (by decide))
  have fc := fun (n m : Int) (h0 : -9223372036854775808 ≤ n) (h1 : n < 9223372036854775808) W => num_Field.calls n m (fieldS n m).1 (fieldS n m).2 W (field_is h0 h1)
  have H3 := Aside0.mk (fc 2097152 8 (by decide) (by decide))
  have H4 := Aside0.mk (fc 8589934591 12 (by decide) (by decide))
  have H5 := Aside0.mk (fc 8589934592 12 (by decide) (by decide))
  have H6 := Aside0.mk (fc 72057594037927936 8 (by decide) (by decide))
  have H7 := Aside0.mk (fc 72057594037927935 8 (by decide) (by decide))
  have H8 := Aside0.mk (fc (-72057594037927937) 8 (by decide) (by decide))
  rw [e1] at H1
  rw [e2] at H2
  rw [e3] at H3
  rw [e4] at H4
  rw [e5] at H5
  rw [e6] at H6
  rw [e7] at H7
  rw [e8] at H8
  clear fc
  generalize (fieldS 72057594037927935 8).1 = z7 at *
  have hmk : ∀ W : World, (Instr.makeSlice 34 (.int .i64 8) (.int .i64 8)).run Try.prog W = .ok (.slice (some ⟨W.heap.size, 0, none⟩) 8 8) (W.alloc (.cells (madeCells #[.int .u8 0] 8) 5)) := fun W => print_make (P := Try.prog) 34 5 .u8 1 Try.underlying34 info5 (by decide) 8 (by decide) W
  have hcp : ∀ W : World, (Builtin.copy_ #[34, 9] 3 #[.slice (some ⟨W.heap.size, 0, none⟩) 8 8, .string s]).run Try.prog (W.alloc (.cells (madeCells #[.int .u8 0] 8) 5)) = .ok (goInt (Nat.min s.size 8)) ((W.alloc (.cells (madeCells #[.int .u8 0] 8) 5)).setRow W.heap.size (nums .u8 (rowK s)).toArray) := fun W => by
    have h := run_copy_any (P := Try.prog) (W.alloc (.cells (madeCells #[.int .u8 0] 8) 5)) 34 9 3 5 W.heap.size 0 8 8 s (madeCells #[.int .u8 0] 8) 5 Try.underlying34 (by kernel_rfl) (heap_alloc_new _ _) (by rw [size_madeCells]; have : Nat.min s.size 8 ≤ 8 := Nat.min_le_right _ _; omega)
    rw [rowK_cells] at h
    exact h
  have hT : (rfS (textK s c)).2 = false ∨ ((rfS (textK s c)).2 = true ∧ (c = 128 ∨ c = 255 ∨ (48 ≤ c ∧ c ≤ 55))) := by
    cases h : (rfS (textK s c)).2 with
    | false => exact .inl rfl
    | true =>
      refine .inr ⟨rfl, ?_⟩
      have := rf_head h (by rw [textK_size]; omega)
      rwa [textK_head s c c0 (by omega)] at this
  have HR := Aside0.mk (rf_calls (textK s c) (by rw [textK_size]; omega))
  go_enter Try.func7, Try.ntmps7
  go_wp2_with fail
  refine (H1.out _).mono ?_
  rintro e w1 ⟨rfl, hb⟩
  have B1 := Aside0.mk hb
  clear hb
  go_wp2_with fail
  refine (H2.out _).mono ?_
  rintro e w2 ⟨rfl, hb⟩
  have B2 := Aside0.mk (below_then B1.out B1.out.size hb)
  clear hb B1
  go_wp2_with fail
  refine (H3.out _).mono ?_
  rintro e w3 ⟨rfl, hb⟩
  have B3 := Aside0.mk (below_then B2.out B2.out.size hb)
  clear hb B2
  go_wp2_with fail
  refine (H4.out _).mono ?_
  rintro e w4 ⟨rfl, hb⟩
  have B4 := Aside0.mk (below_then B3.out B3.out.size hb)
  clear hb B3
  go_wp2_with fail
  refine (H5.out _).mono ?_
  rintro e w5 ⟨rfl, hb⟩
  have B5 := Aside0.mk (below_then B4.out B4.out.size hb)
  clear hb B4
  go_wp2_with fail
  refine (H6.out _).mono ?_
  rintro e w6 ⟨rfl, hb⟩
  have B6 := Aside0.mk (below_then B5.out B5.out.size hb)
  clear hb B5
  go_wp2_with fail
  refine (H7.out _).mono ?_
  rintro e w7 ⟨rfl, hb⟩
  have B7 := Aside0.mk (below_then B6.out B6.out.size hb)
  clear hb B6
  go_wp2_with fail
  refine (H8.out _).mono ?_
  rintro e w8 ⟨rfl, hb⟩
  have B8 := Aside0.mk (below_then B7.out B7.out.size hb)
  clear hb B7
  generalize hg : w8.heap.size = g at *
  have K9 : ((w8.alloc (.cells (madeCells #[.int .u8 0] 8) 5)).setRow g (nums .u8 (rowK s)).toArray).heap[g]? = some (.cells (nums .u8 (rowK s)).toArray 5 (0, 0)) := setRow_heap _ g _ _ 5 (0, 0) (by rw [← hg]; exact heap_alloc_new _ _)
  have c9 : ((w8.alloc (.cells (madeCells #[.int .u8 0] 8) 5)).setRow g (nums .u8 (rowK s)).toArray).cell? ⟨g, 0, none⟩ = some (.int .u8 (rd (rowK s) 0)) := by
    rw [blk_cell K9 0]
    have := rowK_length s
    rcases h : rowK s with _ | ⟨x, l⟩
    · rw [h] at this; cases this
    · rfl
  have z9 := blk_frozen K9 0
  have K10 : (((w8.alloc (.cells (madeCells #[.int .u8 0] 8) 5)).setRow g (nums .u8 (rowK s)).toArray).setCell ⟨g, 0, none⟩ (.int .u8 c)).heap[g]? = some (.cells (nums .u8 ((rowK s).set 0 c)).toArray 5 (0, 0)) := by
    rw [blk_set K9 0 (.int .u8 c)]
    simp [nums, List.map_set]
  have hst := fun cp => string_of_reads (P := Try.prog) (src := 34) (dst := 9) (c := cp) (xs := (rowK s).set 0 c) (n := 8) (A := some ⟨g, 0, none⟩) (w := ((w8.alloc (.cells (madeCells #[.int .u8 0] 8) 5)).setRow g (nums .u8 (rowK s)).toArray).setCell ⟨g, 0, none⟩ (.int .u8 c)) Try.underlying34 Try.underlying5 Try.underlying9 ⟨by rw [List.length_set, rowK_length], by decide, fun _ => ⟨_, rfl, fun j hj => by
    have hl : j < ((rowK s).set 0 c).length := by rw [List.length_set, rowK_length]; exact hj
    rw [add_plain, blk_cell K10 j]
    simp only [nums, List.getElem?_toArray, List.getElem?_map, List.getElem?_eq_getElem hl, List.getD_eq_getElem?_getD, Option.map_some, Option.getD_some]⟩⟩
  have hB : Aside0 (Below w.heap.size w (((w8.alloc (.cells (madeCells #[.int .u8 0] 8) 5)).setRow g (nums .u8 (rowK s)).toArray).setCell ⟨g, 0, none⟩ (.int .u8 c))) := ⟨(below_setRow (B8.out.alloc B8.out.size _) (by rw [← hg]; exact B8.out.size) _).setCell (p := ⟨g, 0, none⟩) (by rw [← hg]; exact B8.out.size) _⟩
  have hcp8 := hcp w8
  rw [hg] at hcp8
  rw [show strOfNums ((rowK s).set 0 c) = textK s c from rfl] at hst
  clear K9 K10 hcp B8
  go_wp2_with fail
  refine (HR.out _).mono ?_
  rintro e w10 ⟨rfl, hb⟩
  have B10 := Aside0.mk (below_then hB.out hB.out.size hb)
  clear hb hB hst hcp8 c9 z9 HR
  generalize (rfS (textK s c)).1 = y at *
  generalize (rfS (textK s c)).2 = is at *
  rcases hT with hT | ⟨hT, h | h | ⟨h0, h1⟩⟩
  · subst hT
    go_wp2_with fail
    refine (HAW.out _).mono ?_
    rintro e w11 ⟨rfl, hb⟩
    have B11 := Aside0.mk (below_then B10.out B10.out.size hb)
    clear hb B10
    go_wp2_with fail
    go_ret
    exact ⟨rfl, B11.out⟩
  · subst hT
    have k0 : (c == 128) = true := beq_iff_eq.mpr h
    clear h
    go_wp2_with fail
    refine (HAW.out _).mono ?_
    rintro e w11 ⟨rfl, hb⟩
    have B11 := Aside0.mk (below_then B10.out B10.out.size hb)
    clear hb B10
    go_wp2_with fail
    go_ret
    exact ⟨rfl, B11.out⟩
  · subst hT
    have k0 : (c == 128) = false := beq_eq_false_iff_ne.mpr (by omega)
    have k1 : (c == 255) = true := beq_iff_eq.mpr h
    clear h
    go_wp2_with fail
    refine (HAW.out _).mono ?_
    rintro e w11 ⟨rfl, hb⟩
    have B11 := Aside0.mk (below_then B10.out B10.out.size hb)
    clear hb B10
    go_wp2_with fail
    go_ret
    exact ⟨rfl, B11.out⟩
  · subst hT
    have k0 : (c == 128) = false := beq_eq_false_iff_ne.mpr (by omega)
    have k1 : (c == 255) = false := beq_eq_false_iff_ne.mpr (by omega)
    have k2 : decide (c ≥ 48) = true := decide_eq_true h0
    have k3 : decide (c ≤ 55) = true := decide_eq_true h1
    go_wp2_with fail
    refine (HAW.out _).mono ?_
    rintro e w11 ⟨rfl, hb⟩
    have B11 := Aside0.mk (below_then B10.out B10.out.size hb)
    clear hb B10
    go_wp2_with fail
    go_ret
    exact ⟨rfl, B11.out⟩
theorem num_edges (c : Int) (s : ByteArray) (w : World) (h0 : (Lit.int .u8 c).wf = true) (h1 : s.size ≤ 140737488351232) : Calls Try.prog 7 #[.int .u8 c, .string s] w fun e w' => e = .returned (.bool true) ∧ Below w.heap.size w w' := by
  obtain ⟨c0, c1⟩ := bounds_u8 h0
  exact edges c s c0 c1 w
end Go.Proofs.Ytljahgpincaihaa
