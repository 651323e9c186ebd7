/- CapsBack's walk, once for each version. -/
import Derived.Test.YtaaeidlekmeaiaaMake
import Derived.Test.YtaaeidlekmeaiaaGets
namespace Go.Proofs.Ytaaeidlekmeaiaa
set_option linter.unusedVariables false
set_option linter.unusedSimpArgs false
open Go.RowKit Go.Proofs.YtaaeidlekmeaiaaW.PrintWords
attribute [local go_sem high] GC.eqA24

/-- Two boxes of caps in memory; all that was there is as it was. -/
structure Pair (g h : Nat) (w wz : World) (cs ds : Array Value) : Prop where
  below : Below w.heap.size w wz
  one : wz.heap[g]? = some (.cells cs 24 (0, 0))
  two : wz.heap[h]? = some (.cells ds 24 (0, 0))
theorem Pair.keep {g h : Nat} {w wz w2 : World} {cs ds : Array Value} (t : Pair g h w wz cs ds) (hb : Below wz.heap.size wz w2) : Pair g h w w2 cs ds :=
  ⟨below_then t.below t.below.size hb, blk_below t.one hb, blk_below t.two hb⟩
theorem Pair.alloc {g h : Nat} {w wz : World} {cs ds : Array Value} (t : Pair g h w wz cs ds) (o : Obj) : Pair g h w (wz.alloc o) cs ds :=
  t.keep ((Below.refl _ _).alloc (Nat.le_refl _) _)
/-- A store into a block behind all that was there, and into none of the two. -/
theorem Pair.far {g h : Nat} {w wz : World} {cs ds : Array Value} (t : Pair g h w wz cs ds) (p : Addr) (hw : w.heap.size ≤ p.block) (hg : g ≠ p.block) (hh : h ≠ p.block) (v : Value) : Pair g h w (wz.setCell p v) cs ds :=
  ⟨t.below.setCell hw v, blk_far t.one hg v, blk_far t.two hh v⟩
theorem Pair.put {g h : Nat} {w wz : World} {cs ds : Array Value} (t : Pair g h w wz cs ds) (hw : w.heap.size ≤ g) (hgh : h ≠ g) (j : Nat) (v : Value) : Pair g h w (wz.setCell ⟨g, j, none⟩ v) (cs.setIfInBounds j v) ds :=
  ⟨t.below.setCell (p := ⟨g, j, none⟩) hw v, blk_set t.one j v, blk_far t.two (p := ⟨g, j, none⟩) hgh v⟩
theorem Pair.bytes {g h : Nat} {w wz : World} {cs ds : Array Value} (t : Pair g h w wz cs ds) (e : TypeId) (s : ByteArray) : Pair g h w (Lib.bytesWorld wz e s) cs ds :=
  t.keep (bytes_below (Below.refl _ _) (Nat.le_refl _) e s)
theorem bytes_thaw (W : World) (e : TypeId) (s : ByteArray) (j : Nat) (hj : j < s.size) : (Lib.bytesWorld W e s).frozen? ⟨W.heap.size, j, none⟩ = false := by
  have h := Lib.bytesWorld_at_new W e s
  have hl : s.size ≤ (Lib.bytesCells W e s).size := by unfold Lib.bytesCells; rw [Array.size_append, Array.size_map]; exact Nat.le_add_right _ _
  unfold World.frozen?
  rw [h]
  simp
  omega
/-- A byte of []byte(s) turned: what is read there. -/
theorem reads_set {W : World} {g n : Nat} {xs : List Int} (h : ReadsInt W .u8 (some ⟨g, 0, none⟩) n xs) (j : Nat) (hj : j < n) (x : Int) : ReadsInt (W.setCell ⟨g, j, none⟩ (.int .u8 x)) .u8 (some ⟨g, 0, none⟩) n (xs.set j x) := by
  obtain ⟨h1, h2, h3⟩ := h
  refine ⟨by rw [List.length_set]; exact h1, h2, fun hn => ⟨_, rfl, fun i hi => ?_⟩⟩
  obtain ⟨ad, e, hc⟩ := h3 hn
  obtain rfl := (Option.some.inj e).symm
  by_cases hij : i = j
  · subst hij
    have := hc i hi
    rw [add_plain] at this ⊢
    rw [World.cell?_setCell_same W _ _ this]
    simp [List.getD_eq_getElem?_getD, List.getElem?_set_self (show i < xs.length by omega)]
  · have := hc i hi
    rw [add_plain] at this ⊢
    rw [World.cell?_setCell_other W _ _ _ (by intro hc; injection hc with _ hc; omega), this]
    simp [List.getD_eq_getElem?_getD, List.getElem?_set_ne (Ne.symm hij)]

set_option maxHeartbeats 4000000 in
set_option maxRecDepth 100000 in
theorem back_2 (p i wh root cut at_ by_ r : Int) (e : Bool) (HMk : Aside0 (∀ w, Calls Try.prog 14 #[.int .u64 p, .int .u64 i, .int .u8 wh, .int .u32 root] w fun x w' => x = .returned (.agg #[.int .i64 2, .int .u64 p, .int .u64 i, .bool e, .int .i64 r]) ∧ Below w.heap.size w w'))
    (hp : u64b p = true) (hi : u64b i = true) (hm : mayB 2 p i e r = true) (u0 : 0 ≤ cut) (u1 : cut ≤ 255) (a0 : 0 ≤ at_) (a1 : at_ ≤ 255) (b0 : 0 ≤ by_) (b1 : by_ ≤ 255) (w : World) :
    Calls Try.prog 4 #[.int .u64 p, .int .u64 i, .int .u8 wh, .int .u32 root, .int .u8 cut, .int .u8 at_, .int .u8 by_] w fun x w' => x = .returned (.bool true) ∧ Below w.heap.size w w' := by
  have hv : ¬ (2 : Int) = 0 := by decide
  have HP := Aside0.mk (fun w => put_calls 2 p i r e hp hi w)
  have hsz : (putB 2 p i e r).size = 20 := by rw [leB_sizes, if_neg (by simp [hm])]; rfl
  have HM := Aside0.mk (fun w => may_calls 2 p i r e w)
  rw [hm] at HM
  have HN := Aside0.mk (fun w => may_calls 2 p i (-1) e w)
  rw [show mayB 2 p i e (-1) = false from by unfold mayB; simp] at HN
  have HGs := fun s => Aside0.mk (fun (hs : s.size ≤ 140737488351232) (r1 r2 r3 : Int) (r4 : Bool) (r5 : Int) (r6 : Bool) (he : getS s = (r1, r2, r3, r4, r5, r6)) w => capsGet.calls s r1 r2 r3 r4 r5 r6 w (by unfold capsGet.f; rw [if_pos hs, he]))
  have HG := Aside0.mk ((HGs (putB 2 p i e r)).out (by omega) _ _ _ _ _ _ (get_put hv hm hp hi))
  have hlt : (cut % 20).toNat < (putB 2 p i e r).size := by omega
  have hless : (getS ((putB 2 p i e r).extract 0 (cut % 20).toNat)).2.2.2.2.2 = decide ((cut % 20).toNat = 0) := by
    by_cases h0 : (cut % 20).toNat = 0
    · rw [h0, get_nil]; rfl
    · rw [get_cut hv hm _ (by omega) hlt, decide_eq_false h0]
  have HL := Aside0.mk ((HGs ((putB 2 p i e r).extract 0 (cut % 20).toNat)).out (by rw [ByteArray.size_extract]; omega) _ _ _ _ _ _ (get_more _ hless))
  have HO := Aside0.mk ((HGs (putB 2 p i e r ++ ⟨#[0]⟩)).out (by rw [ByteArray.size_append, hsz]; decide) _ _ _ _ _ _ (get_more _ (get_longer hv hm ⟨#[0]⟩ rfl)))
  have htc : Int.tmod cut 20 = ((cut % 20).toNat : Int) := by rw [Int.tmod_eq_emod_of_nonneg u0]; omega
  have hta : Int.tmod at_ 20 = ((at_ % 20).toNat : Int) := by rw [Int.tmod_eq_emod_of_nonneg a0]; omega
  have hjt : (at_ % 20).toNat < (putB 2 p i e r).size := by omega
  have hbr := bt_range (putB 2 p i e r) ((at_ % 20).toNat : Int)
  have hx : by_ = 0 ∨ (¬ Go.bits .xor .u8 (bt (putB 2 p i e r) ((at_ % 20).toNat : Int)) by_ = bt (putB 2 p i e r) ((at_ % 20).toNat : Int) ∧ 0 ≤ Go.bits .xor .u8 (bt (putB 2 p i e r) ((at_ % 20).toNat : Int)) by_ ∧ Go.bits .xor .u8 (bt (putB 2 p i e r) ((at_ % 20).toNat : Int)) by_ < 256) := by
    by_cases hz : by_ = 0
    · exact .inl hz
    · exact .inr (xor_ne _ _ (by omega) (by omega) hz)
  have hty : by_ = 0 ∨ ¬ getS (strOfNums ((bytesOf (putB 2 p i e r)).set (at_ % 20).toNat (Go.bits .xor .u8 (bt (putB 2 p i e r) ((at_ % 20).toNat : Int)) by_))) = (2, p, i, e, r, true) :=
    hx.imp id fun h => get_turned hv _ hjt _ h.2 h.1
  have hts : (strOfNums ((bytesOf (putB 2 p i e r)).set (at_ % 20).toNat (Go.bits .xor .u8 (bt (putB 2 p i e r) ((at_ % 20).toNat : Int)) by_))).size = 20 := by
    rw [strOfNums_size, List.length_set, bytesOf_length, hsz]
  have HY := Aside0.mk ((HGs (strOfNums ((bytesOf (putB 2 p i e r)).set (at_ % 20).toNat (Go.bits .xor .u8 (bt (putB 2 p i e r) ((at_ % 20).toNat : Int)) by_)))).out (by omega) _ _ _ _ _ _ (get_more _ rfl))
  clear hts
  have hvb : bt (putB 2 p i e r) 3 = 2 := by
    have hput : putB 2 p i e r = strOfNums (putL 2 p i e r) := by unfold putB; rw [if_neg (by simp [hm])]
    rw [hput, bt_nums _ (putL_small _ _ _ _ _)]
    show (2 * 16777216 + if e = true then 1 else 0) / 16777216 % 256 = 2
    split <;> decide
  have hcw : IntKind.i64.wrap cut = cut := by simp only [IntKind.wrap, IntKind.bits, IntKind.signed]; simp; omega
  have hcw2 : wrap64 cut = cut := by unfold wrap64; omega
  have haw : IntKind.i64.wrap at_ = at_ := by simp only [IntKind.wrap, IntKind.bits, IntKind.signed]; simp; omega
  have haw2 : wrap64 at_ = at_ := by unfold wrap64; omega
  clear hless hx hm HGs
  have k0 : (0 ≤ ((cut % 20).toNat : Int)) = True := eq_true (Int.natCast_nonneg _)
  have k1 : (((cut % 20).toNat : Int) ≤ 20) = True := eq_true (by omega)
  have hkn : (cut % 20).toNat < 20 := by omega
  have j0 : (0 ≤ ((at_ % 20).toNat : Int)) = True := eq_true (Int.natCast_nonneg _)
  have j1 : (((at_ % 20).toNat : Int) < 20) = True := eq_true (by omega)
  have hjn : (at_ % 20).toNat < 20 := by omega
  clear u0 u1 a0 a1 b0 b1 hlt hjt
  generalize hK : (cut % 20).toNat = k at *
  generalize hJ : (at_ % 20).toNat = j at *
  generalize more ((putB 2 p i e r).extract 0 k) = ml at *
  generalize more (putB 2 p i e r ++ ⟨#[0]⟩) = mo at *
  generalize putB 2 p i e r = q at *
  obtain ⟨l1, l2, l3, l4, l5⟩ := ml
  obtain ⟨o1, o2, o3, o4, o5⟩ := mo
  have kb := fun W => print_bytes (P := Try.prog) 9 36 5 Try.underlying9 Try.underlying36 Try.underlying5 q W
  rw [hsz] at kb
  clear hK hJ hp hi
  have hu24 := Try.underlying24
  go_enter Try.func4, Try.ntmps4
  go_wp2_with fail
  refine (HMk.out _).mono ?_
  rintro x w1 ⟨rfl, hb1⟩
  clear HMk
  have W1 := Aside0.mk hb1
  clear hb1
  go_wp2_with fail
  refine (HP.out _).mono ?_
  rintro x w2 ⟨rfl, hb2⟩
  have B2 := (hb2.block w1.heap.size (by simp)).trans (heap_alloc_new w1 _)
  have W2 := Aside0.mk (below_then (W1.out.alloc W1.out.size _) (by have := W1.out.size; simp; omega) hb2)
  have G0 := Aside0.mk W1.out.size
  have L2 := blk_lt B2
  clear W1 hb2 HP
  generalize w1.heap.size = g at *
  obtain ⟨c0, c1, c2, c3, c4⟩ := box_cells B2
  have B2 := Aside0.mk B2
  have L2 := Aside0.mk L2
  go_wp2_with fail
  refine (HG.out _).mono ?_
  rintro x w3 ⟨rfl, hb3⟩
  have B3 := blk_below B2.out hb3
  have W3 := Aside0.mk (below_then W2.out W2.out.size hb3)
  have G3 := Aside0.mk (blk_lt B3)
  clear hb3 HG B2 W2 c0 c1 c2 c3 c4 L2
  have T3 := Aside0.mk (⟨W3.out.alloc W3.out.size _, blk_alloc B3 _, heap_alloc_new _ _⟩ : Pair g w3.heap.size w (w3.alloc (.cells #[.int .i64 2, .int .u64 p, .int .u64 i, .bool e, .int .i64 r] 24)) #[.int .i64 2, .int .u64 p, .int .u64 i, .bool e, .int .i64 r] #[.int .i64 2, .int .u64 p, .int .u64 i, .bool e, .int .i64 r])
  generalize hh : w3.heap.size = h at *
  obtain ⟨c0, c1, c2, c3, c4⟩ := box_cells T3.out.one
  obtain ⟨x0, x1, x2, x3, x4⟩ := box_cells T3.out.two
  clear B3
  go_wp2_with fail
  refine (HM.out _).mono ?_
  rintro x w4 ⟨rfl, hb4⟩
  have T4 := Aside0.mk (T3.out.keep hb4)
  clear T3 hb4 HM c0 c1 c2 c3 c4 x0 x1 x2 x3 x4 W3
  obtain ⟨c0, c1, c2, c3, c4⟩ := box_cells T4.out.one
  obtain ⟨x0, x1, x2, x3, x4⟩ := box_cells T4.out.two
  go_wp2_with fail
  clear c0 c1 c2 c3 c4 x0 x1 x2 x3 x4
  refine (HL.out _).mono ?_
  rintro x w5 ⟨rfl, hb5⟩
  have T5 := Aside0.mk (T4.out.keep hb5)
  clear T4 hb5 HL
  go_wp2_with fail
  refine (HO.out _).mono ?_
  rintro x w6 ⟨rfl, hb6⟩
  have T6 := Aside0.mk (((T5.out.alloc _).keep hb6).alloc (.cells #[.int .i64 o1, .int .u64 o2, .int .u64 o3, .bool o4, .int .i64 o5] 24))
  clear T5 hb6 HO
  have hrd := Aside0.mk (bytes_reads (w6.alloc (.cells #[.int .i64 o1, .int .u64 o2, .int .u64 o3, .bool o4, .int .i64 o5] 24)) 5 q (by omega))
  have hzf := bytes_thaw (w6.alloc (.cells #[.int .i64 o1, .int .u64 o2, .int .u64 o3, .bool o4, .int .i64 o5] 24)) 5 q j (by omega)
  have hsl : (w6.alloc (.cells #[.int .i64 o1, .int .u64 o2, .int .u64 o3, .bool o4, .int .i64 o5] 24)).heap.size = w6.heap.size + 1 := by simp
  rw [hsl] at hzf
  have hcl : (Lib.bytesWorld (w6.alloc (.cells #[.int .i64 o1, .int .u64 o2, .int .u64 o3, .bool o4, .int .i64 o5] 24)) 5 q).cell? ⟨w6.heap.size + 1, j, none⟩ = some (.int .u8 (bt q j)) := by
    obtain ⟨ad, e1, hc⟩ := hrd.out.at_ (j : Int) (Int.natCast_nonneg _) (by omega)
    obtain rfl := Option.some.inj e1
    rw [add_plain, rd_bytesOf, hsl] at hc
    simpa using hc
  have hst := fun c => string_of_reads (P := Try.prog) (src := 36) (dst := 9) (c := c) Try.underlying36 Try.underlying5 Try.underlying9 (reads_set hrd.out j (by omega) (Go.bits .xor .u8 (bt q j) by_))
  rw [hsl, hsz] at hst
  clear hsl hrd
  go_wp2_with fail
  refine (HY.out _).mono ?_
  rintro x w7 ⟨rfl, hb7⟩
  have hg0 : w.heap.size ≤ g := G0.out
  have T7 := Aside0.mk (((T6.out.bytes 5 q).far ⟨w6.heap.size + 1, j, none⟩ (by have := blk_lt T6.out.one; simp at this ⊢; omega) (by have := blk_lt T6.out.one; simp at this ⊢; omega) (by have := blk_lt T6.out.two; simp at this ⊢; omega) (.int .u8 (Go.bits .xor .u8 (bt q j) by_))).keep hb7)
  clear hb7 T6 hcl hzf hst hg0 kb
  have hyx : (by_ == 0) = true ∨ (getS (strOfNums ((bytesOf q).set j (Go.bits .xor .u8 (bt q j) by_)))).2.2.2.2.2 = false ∨ ((more (strOfNums ((bytesOf q).set j (Go.bits .xor .u8 (bt q j) by_)))).1 == 2 && ((more (strOfNums ((bytesOf q).set j (Go.bits .xor .u8 (bt q j) by_)))).2.1 == p && ((more (strOfNums ((bytesOf q).set j (Go.bits .xor .u8 (bt q j) by_)))).2.2.1 == i && ((more (strOfNums ((bytesOf q).set j (Go.bits .xor .u8 (bt q j) by_)))).2.2.2.1 == e && ((more (strOfNums ((bytesOf q).set j (Go.bits .xor .u8 (bt q j) by_)))).2.2.2.2 == r))))) = false := by
    rcases hty with hty | hty
    · exact .inl (by rw [hty]; rfl)
    · right
      generalize strOfNums ((bytesOf q).set j (Go.bits .xor .u8 (bt q j) by_)) = T at *
      cases hT : (getS T).2.2.2.2.2 with
      | false => exact .inl rfl
      | true =>
        right
        cases hB : ((more T).1 == 2 && ((more T).2.1 == p && ((more T).2.2.1 == i && ((more T).2.2.2.1 == e && ((more T).2.2.2.2 == r))))) with
        | false => rfl
        | true =>
          exfalso
          apply hty
          rw [get_more T hT]
          simp only [Bool.and_eq_true, beq_iff_eq] at hB
          obtain ⟨m1, m2, m3, m4, m5⟩ := hB
          rw [m1, m2, m3, m4, m5]
  clear hty HY
  generalize (getS (strOfNums ((bytesOf q).set j (Go.bits .xor .u8 (bt q j) by_)))).2.2.2.2.2 = is at *
  generalize more (strOfNums ((bytesOf q).set j (Go.bits .xor .u8 (bt q j) by_))) = my at *
  obtain ⟨y1, y2, y3, y4, y5⟩ := my
  have T8 := Aside0.mk ((T7.out.alloc (.cells #[.int .i64 y1, .int .u64 y2, .int .u64 y3, .bool y4, .int .i64 y5] 24)).put G0.out (Nat.ne_of_gt G3.out) 4 (.int .i64 (-1)))
  have hzg := blk_frozen (T7.out.alloc (.cells #[.int .i64 y1, .int .u64 y2, .int .u64 y3, .bool y4, .int .i64 y5] 24)).one 4
  have hb4 := blk_cell (T7.out.alloc (.cells #[.int .i64 y1, .int .u64 y2, .int .u64 y3, .bool y4, .int .i64 y5] 24)).one 4
  have hyb := blk_far (heap_alloc_new w7 (.cells #[.int .i64 y1, .int .u64 y2, .int .u64 y3, .bool y4, .int .i64 y5] 24)) (p := ⟨g, 4, none⟩) (by have := blk_lt T7.out.one; simp; omega) (.int .i64 (-1))
  obtain ⟨c0, c1, c2, c3, c4⟩ := box_cells T8.out.one
  obtain ⟨x0, x1, x2, x3, x4⟩ := box_cells T8.out.two
  obtain ⟨y0_, y1_, y2_, y3_, y4_⟩ := box_cells hyb
  clear hyb T7
  have hh7 := Aside0.mk (blk_lt T8.out.two)
  have hq3 : ∀ hx : 3 < q.size, ((q[3]'hx).toNat : Int) = 2 := fun hx => by
    have := bt_at q 3 hx
    rw [hvb] at this
    exact this
  have hq3n : ∀ hx : 3 < q.size, (q[3]'hx).toNat = 2 := fun hx => by have := hq3 hx; omega
  have hkk : (decide (k = 0) = true ∧ (((k : Int) == 0) = true)) ∨ (decide (k = 0) = false ∧ (((k : Int) == 0) = false)) := by
    by_cases hk0 : k = 0
    · exact .inl ⟨decide_eq_true hk0, by rw [hk0]; rfl⟩
    · exact .inr ⟨decide_eq_false hk0, beq_eq_false_iff_ne.mpr (by omega)⟩
  have hm20 : (((k : Int) == 20) = true) ∨ (((k : Int) == 20) = false) := by cases ((k : Int) == 20) <;> simp
  generalize decide (k = 0) = kz at *
  obtain ⟨bz, hbz⟩ : ∃ b, (by_ == 0) = b := ⟨_, rfl⟩
  rw [hbz] at hyx
  have hyz : bz = true ∨ (bz = false ∧ is = false) ∨ (bz = false ∧ is = true ∧ (y1 == 2 && (y2 == p && (y3 == i && (y4 == e && (y5 == r))))) = false) := by
    cases hb : bz with
    | true => exact .inl rfl
    | false =>
      cases hi : is with
      | false => exact .inr (.inl ⟨rfl, rfl⟩)
      | true =>
        rcases hyx with h | h | h
        · rw [hb] at h; cases h
        · rw [hi] at h; cases h
        · exact .inr (.inr ⟨rfl, rfl, h⟩)
  clear hyx
  clear hbr hkn hjn k0 k1 j0 j1 htc hta hcw hcw2 haw haw2 hh hh7
  rcases hkk with ⟨rfl, hk1⟩ | ⟨rfl, hk1⟩ <;> rcases hyz with rfl | ⟨rfl, rfl⟩ | ⟨rfl, rfl, hyz⟩
  all_goals
    go_wp2_with fail
    refine (HN.out _).mono ?_
    rintro x w8 ⟨rfl, hb8⟩
    have T9 := Aside0.mk (T8.out.keep hb8)
    clear T8 hb8 c0 c1 c2 c3 c4 x0 x1 x2 x3 x4 y0_ y1_ y2_ y3_ y4_
    go_wp2_with fail
    refine (awake_calls _).mono ?_
    rintro x w9 ⟨rfl, hb9⟩
    have T10 := Aside0.mk (T9.out.keep hb9)
    clear T9 hb9
    go_wp2_with fail
    go_ret
    exact ⟨rfl, T10.out.below⟩

set_option maxHeartbeats 4000000 in
set_option maxRecDepth 100000 in
theorem back_3 (p i wh root cut at_ by_ r : Int) (e : Bool) (HMk : Aside0 (∀ w, Calls Try.prog 14 #[.int .u64 p, .int .u64 i, .int .u8 wh, .int .u32 root] w fun x w' => x = .returned (.agg #[.int .i64 3, .int .u64 p, .int .u64 i, .bool e, .int .i64 r]) ∧ Below w.heap.size w w'))
    (hp : u64b p = true) (hi : u64b i = true) (hm : mayB 3 p i e r = true) (u0 : 0 ≤ cut) (u1 : cut ≤ 255) (a0 : 0 ≤ at_) (a1 : at_ ≤ 255) (b0 : 0 ≤ by_) (b1 : by_ ≤ 255) (w : World) :
    Calls Try.prog 4 #[.int .u64 p, .int .u64 i, .int .u8 wh, .int .u32 root, .int .u8 cut, .int .u8 at_, .int .u8 by_] w fun x w' => x = .returned (.bool true) ∧ Below w.heap.size w w' := by
  have hv : ¬ (3 : Int) = 0 := by decide
  have HP := Aside0.mk (fun w => put_calls 3 p i r e hp hi w)
  have hsz : (putB 3 p i e r).size = 24 := by rw [leB_sizes, if_neg (by simp [hm])]; rfl
  have HM := Aside0.mk (fun w => may_calls 3 p i r e w)
  rw [hm] at HM
  have HN := Aside0.mk (fun w => may_calls 3 p i (-1) e w)
  rw [show mayB 3 p i e (-1) = false from by unfold mayB; simp] at HN
  have HGs := fun s => Aside0.mk (fun (hs : s.size ≤ 140737488351232) (r1 r2 r3 : Int) (r4 : Bool) (r5 : Int) (r6 : Bool) (he : getS s = (r1, r2, r3, r4, r5, r6)) w => capsGet.calls s r1 r2 r3 r4 r5 r6 w (by unfold capsGet.f; rw [if_pos hs, he]))
  have HG := Aside0.mk ((HGs (putB 3 p i e r)).out (by omega) _ _ _ _ _ _ (get_put hv hm hp hi))
  have hlt : (cut % 24).toNat < (putB 3 p i e r).size := by omega
  have hless : (getS ((putB 3 p i e r).extract 0 (cut % 24).toNat)).2.2.2.2.2 = decide ((cut % 24).toNat = 0) := by
    by_cases h0 : (cut % 24).toNat = 0
    · rw [h0, get_nil]; rfl
    · rw [get_cut hv hm _ (by omega) hlt, decide_eq_false h0]
  have HL := Aside0.mk ((HGs ((putB 3 p i e r).extract 0 (cut % 24).toNat)).out (by rw [ByteArray.size_extract]; omega) _ _ _ _ _ _ (get_more _ hless))
  have HO := Aside0.mk ((HGs (putB 3 p i e r ++ ⟨#[0]⟩)).out (by rw [ByteArray.size_append, hsz]; decide) _ _ _ _ _ _ (get_more _ (get_longer hv hm ⟨#[0]⟩ rfl)))
  have htc : Int.tmod cut 24 = ((cut % 24).toNat : Int) := by rw [Int.tmod_eq_emod_of_nonneg u0]; omega
  have hta : Int.tmod at_ 24 = ((at_ % 24).toNat : Int) := by rw [Int.tmod_eq_emod_of_nonneg a0]; omega
  have hjt : (at_ % 24).toNat < (putB 3 p i e r).size := by omega
  have hbr := bt_range (putB 3 p i e r) ((at_ % 24).toNat : Int)
  have hx : by_ = 0 ∨ (¬ Go.bits .xor .u8 (bt (putB 3 p i e r) ((at_ % 24).toNat : Int)) by_ = bt (putB 3 p i e r) ((at_ % 24).toNat : Int) ∧ 0 ≤ Go.bits .xor .u8 (bt (putB 3 p i e r) ((at_ % 24).toNat : Int)) by_ ∧ Go.bits .xor .u8 (bt (putB 3 p i e r) ((at_ % 24).toNat : Int)) by_ < 256) := by
    by_cases hz : by_ = 0
    · exact .inl hz
    · exact .inr (xor_ne _ _ (by omega) (by omega) hz)
  have hty : by_ = 0 ∨ ¬ getS (strOfNums ((bytesOf (putB 3 p i e r)).set (at_ % 24).toNat (Go.bits .xor .u8 (bt (putB 3 p i e r) ((at_ % 24).toNat : Int)) by_))) = (3, p, i, e, r, true) :=
    hx.imp id fun h => get_turned hv _ hjt _ h.2 h.1
  have hts : (strOfNums ((bytesOf (putB 3 p i e r)).set (at_ % 24).toNat (Go.bits .xor .u8 (bt (putB 3 p i e r) ((at_ % 24).toNat : Int)) by_))).size = 24 := by
    rw [strOfNums_size, List.length_set, bytesOf_length, hsz]
  have HY := Aside0.mk ((HGs (strOfNums ((bytesOf (putB 3 p i e r)).set (at_ % 24).toNat (Go.bits .xor .u8 (bt (putB 3 p i e r) ((at_ % 24).toNat : Int)) by_)))).out (by omega) _ _ _ _ _ _ (get_more _ rfl))
  clear hts
  have hvb : bt (putB 3 p i e r) 3 = 3 := by
    have hput : putB 3 p i e r = strOfNums (putL 3 p i e r) := by unfold putB; rw [if_neg (by simp [hm])]
    rw [hput, bt_nums _ (putL_small _ _ _ _ _)]
    show (3 * 16777216 + if e = true then 1 else 0) / 16777216 % 256 = 3
    split <;> decide
  have hcw : IntKind.i64.wrap cut = cut := by simp only [IntKind.wrap, IntKind.bits, IntKind.signed]; simp; omega
  have hcw2 : wrap64 cut = cut := by unfold wrap64; omega
  have haw : IntKind.i64.wrap at_ = at_ := by simp only [IntKind.wrap, IntKind.bits, IntKind.signed]; simp; omega
  have haw2 : wrap64 at_ = at_ := by unfold wrap64; omega
  clear hless hx hm HGs
  have k0 : (0 ≤ ((cut % 24).toNat : Int)) = True := eq_true (Int.natCast_nonneg _)
  have k1 : (((cut % 24).toNat : Int) ≤ 24) = True := eq_true (by omega)
  have hkn : (cut % 24).toNat < 24 := by omega
  have j0 : (0 ≤ ((at_ % 24).toNat : Int)) = True := eq_true (Int.natCast_nonneg _)
  have j1 : (((at_ % 24).toNat : Int) < 24) = True := eq_true (by omega)
  have hjn : (at_ % 24).toNat < 24 := by omega
  clear u0 u1 a0 a1 b0 b1 hlt hjt
  generalize hK : (cut % 24).toNat = k at *
  generalize hJ : (at_ % 24).toNat = j at *
  generalize more ((putB 3 p i e r).extract 0 k) = ml at *
  generalize more (putB 3 p i e r ++ ⟨#[0]⟩) = mo at *
  generalize putB 3 p i e r = q at *
  obtain ⟨l1, l2, l3, l4, l5⟩ := ml
  obtain ⟨o1, o2, o3, o4, o5⟩ := mo
  have kb := fun W => print_bytes (P := Try.prog) 9 36 5 Try.underlying9 Try.underlying36 Try.underlying5 q W
  rw [hsz] at kb
  clear hK hJ hp hi
  have hu24 := Try.underlying24
  go_enter Try.func4, Try.ntmps4
  go_wp2_with fail
  refine (HMk.out _).mono ?_
  rintro x w1 ⟨rfl, hb1⟩
  clear HMk
  have W1 := Aside0.mk hb1
  clear hb1
  go_wp2_with fail
  refine (HP.out _).mono ?_
  rintro x w2 ⟨rfl, hb2⟩
  have B2 := (hb2.block w1.heap.size (by simp)).trans (heap_alloc_new w1 _)
  have W2 := Aside0.mk (below_then (W1.out.alloc W1.out.size _) (by have := W1.out.size; simp; omega) hb2)
  have G0 := Aside0.mk W1.out.size
  have L2 := blk_lt B2
  clear W1 hb2 HP
  generalize w1.heap.size = g at *
  obtain ⟨c0, c1, c2, c3, c4⟩ := box_cells B2
  have B2 := Aside0.mk B2
  have L2 := Aside0.mk L2
  go_wp2_with fail
  refine (HG.out _).mono ?_
  rintro x w3 ⟨rfl, hb3⟩
  have B3 := blk_below B2.out hb3
  have W3 := Aside0.mk (below_then W2.out W2.out.size hb3)
  have G3 := Aside0.mk (blk_lt B3)
  clear hb3 HG B2 W2 c0 c1 c2 c3 c4 L2
  have T3 := Aside0.mk (⟨W3.out.alloc W3.out.size _, blk_alloc B3 _, heap_alloc_new _ _⟩ : Pair g w3.heap.size w (w3.alloc (.cells #[.int .i64 3, .int .u64 p, .int .u64 i, .bool e, .int .i64 r] 24)) #[.int .i64 3, .int .u64 p, .int .u64 i, .bool e, .int .i64 r] #[.int .i64 3, .int .u64 p, .int .u64 i, .bool e, .int .i64 r])
  generalize hh : w3.heap.size = h at *
  obtain ⟨c0, c1, c2, c3, c4⟩ := box_cells T3.out.one
  obtain ⟨x0, x1, x2, x3, x4⟩ := box_cells T3.out.two
  clear B3
  go_wp2_with fail
  refine (HM.out _).mono ?_
  rintro x w4 ⟨rfl, hb4⟩
  have T4 := Aside0.mk (T3.out.keep hb4)
  clear T3 hb4 HM c0 c1 c2 c3 c4 x0 x1 x2 x3 x4 W3
  obtain ⟨c0, c1, c2, c3, c4⟩ := box_cells T4.out.one
  obtain ⟨x0, x1, x2, x3, x4⟩ := box_cells T4.out.two
  go_wp2_with fail
  clear c0 c1 c2 c3 c4 x0 x1 x2 x3 x4
  refine (HL.out _).mono ?_
  rintro x w5 ⟨rfl, hb5⟩
  have T5 := Aside0.mk (T4.out.keep hb5)
  clear T4 hb5 HL
  go_wp2_with fail
  refine (HO.out _).mono ?_
  rintro x w6 ⟨rfl, hb6⟩
  have T6 := Aside0.mk (((T5.out.alloc _).keep hb6).alloc (.cells #[.int .i64 o1, .int .u64 o2, .int .u64 o3, .bool o4, .int .i64 o5] 24))
  clear T5 hb6 HO
  have hrd := Aside0.mk (bytes_reads (w6.alloc (.cells #[.int .i64 o1, .int .u64 o2, .int .u64 o3, .bool o4, .int .i64 o5] 24)) 5 q (by omega))
  have hzf := bytes_thaw (w6.alloc (.cells #[.int .i64 o1, .int .u64 o2, .int .u64 o3, .bool o4, .int .i64 o5] 24)) 5 q j (by omega)
  have hsl : (w6.alloc (.cells #[.int .i64 o1, .int .u64 o2, .int .u64 o3, .bool o4, .int .i64 o5] 24)).heap.size = w6.heap.size + 1 := by simp
  rw [hsl] at hzf
  have hcl : (Lib.bytesWorld (w6.alloc (.cells #[.int .i64 o1, .int .u64 o2, .int .u64 o3, .bool o4, .int .i64 o5] 24)) 5 q).cell? ⟨w6.heap.size + 1, j, none⟩ = some (.int .u8 (bt q j)) := by
    obtain ⟨ad, e1, hc⟩ := hrd.out.at_ (j : Int) (Int.natCast_nonneg _) (by omega)
    obtain rfl := Option.some.inj e1
    rw [add_plain, rd_bytesOf, hsl] at hc
    simpa using hc
  have hst := fun c => string_of_reads (P := Try.prog) (src := 36) (dst := 9) (c := c) Try.underlying36 Try.underlying5 Try.underlying9 (reads_set hrd.out j (by omega) (Go.bits .xor .u8 (bt q j) by_))
  rw [hsl, hsz] at hst
  clear hsl hrd
  go_wp2_with fail
  refine (HY.out _).mono ?_
  rintro x w7 ⟨rfl, hb7⟩
  have hg0 : w.heap.size ≤ g := G0.out
  have T7 := Aside0.mk (((T6.out.bytes 5 q).far ⟨w6.heap.size + 1, j, none⟩ (by have := blk_lt T6.out.one; simp at this ⊢; omega) (by have := blk_lt T6.out.one; simp at this ⊢; omega) (by have := blk_lt T6.out.two; simp at this ⊢; omega) (.int .u8 (Go.bits .xor .u8 (bt q j) by_))).keep hb7)
  clear hb7 T6 hcl hzf hst hg0 kb
  have hyx : (by_ == 0) = true ∨ (getS (strOfNums ((bytesOf q).set j (Go.bits .xor .u8 (bt q j) by_)))).2.2.2.2.2 = false ∨ ((more (strOfNums ((bytesOf q).set j (Go.bits .xor .u8 (bt q j) by_)))).1 == 3 && ((more (strOfNums ((bytesOf q).set j (Go.bits .xor .u8 (bt q j) by_)))).2.1 == p && ((more (strOfNums ((bytesOf q).set j (Go.bits .xor .u8 (bt q j) by_)))).2.2.1 == i && ((more (strOfNums ((bytesOf q).set j (Go.bits .xor .u8 (bt q j) by_)))).2.2.2.1 == e && ((more (strOfNums ((bytesOf q).set j (Go.bits .xor .u8 (bt q j) by_)))).2.2.2.2 == r))))) = false := by
    rcases hty with hty | hty
    · exact .inl (by rw [hty]; rfl)
    · right
      generalize strOfNums ((bytesOf q).set j (Go.bits .xor .u8 (bt q j) by_)) = T at *
      cases hT : (getS T).2.2.2.2.2 with
      | false => exact .inl rfl
      | true =>
        right
        cases hB : ((more T).1 == 3 && ((more T).2.1 == p && ((more T).2.2.1 == i && ((more T).2.2.2.1 == e && ((more T).2.2.2.2 == r))))) with
        | false => rfl
        | true =>
          exfalso
          apply hty
          rw [get_more T hT]
          simp only [Bool.and_eq_true, beq_iff_eq] at hB
          obtain ⟨m1, m2, m3, m4, m5⟩ := hB
          rw [m1, m2, m3, m4, m5]
  clear hty HY
  generalize (getS (strOfNums ((bytesOf q).set j (Go.bits .xor .u8 (bt q j) by_)))).2.2.2.2.2 = is at *
  generalize more (strOfNums ((bytesOf q).set j (Go.bits .xor .u8 (bt q j) by_))) = my at *
  obtain ⟨y1, y2, y3, y4, y5⟩ := my
  have T8 := Aside0.mk ((T7.out.alloc (.cells #[.int .i64 y1, .int .u64 y2, .int .u64 y3, .bool y4, .int .i64 y5] 24)).put G0.out (Nat.ne_of_gt G3.out) 4 (.int .i64 (-1)))
  have hzg := blk_frozen (T7.out.alloc (.cells #[.int .i64 y1, .int .u64 y2, .int .u64 y3, .bool y4, .int .i64 y5] 24)).one 4
  have hb4 := blk_cell (T7.out.alloc (.cells #[.int .i64 y1, .int .u64 y2, .int .u64 y3, .bool y4, .int .i64 y5] 24)).one 4
  have hyb := blk_far (heap_alloc_new w7 (.cells #[.int .i64 y1, .int .u64 y2, .int .u64 y3, .bool y4, .int .i64 y5] 24)) (p := ⟨g, 4, none⟩) (by have := blk_lt T7.out.one; simp; omega) (.int .i64 (-1))
  obtain ⟨c0, c1, c2, c3, c4⟩ := box_cells T8.out.one
  obtain ⟨x0, x1, x2, x3, x4⟩ := box_cells T8.out.two
  obtain ⟨y0_, y1_, y2_, y3_, y4_⟩ := box_cells hyb
  clear hyb T7
  have hh7 := Aside0.mk (blk_lt T8.out.two)
  have hq3 : ∀ hx : 3 < q.size, ((q[3]'hx).toNat : Int) = 3 := fun hx => by
    have := bt_at q 3 hx
    rw [hvb] at this
    exact this
  have hq3n : ∀ hx : 3 < q.size, (q[3]'hx).toNat = 3 := fun hx => by have := hq3 hx; omega
  have hkk : (decide (k = 0) = true ∧ (((k : Int) == 0) = true)) ∨ (decide (k = 0) = false ∧ (((k : Int) == 0) = false)) := by
    by_cases hk0 : k = 0
    · exact .inl ⟨decide_eq_true hk0, by rw [hk0]; rfl⟩
    · exact .inr ⟨decide_eq_false hk0, beq_eq_false_iff_ne.mpr (by omega)⟩
  have hm20 : (((k : Int) == 20) = true) ∨ (((k : Int) == 20) = false) := by cases ((k : Int) == 20) <;> simp
  generalize decide (k = 0) = kz at *
  obtain ⟨bz, hbz⟩ : ∃ b, (by_ == 0) = b := ⟨_, rfl⟩
  rw [hbz] at hyx
  have hyz : bz = true ∨ (bz = false ∧ is = false) ∨ (bz = false ∧ is = true ∧ (y1 == 3 && (y2 == p && (y3 == i && (y4 == e && (y5 == r))))) = false) := by
    cases hb : bz with
    | true => exact .inl rfl
    | false =>
      cases hi : is with
      | false => exact .inr (.inl ⟨rfl, rfl⟩)
      | true =>
        rcases hyx with h | h | h
        · rw [hb] at h; cases h
        · rw [hi] at h; cases h
        · exact .inr (.inr ⟨rfl, rfl, h⟩)
  clear hyx
  clear hbr hkn hjn k0 k1 j0 j1 htc hta hcw hcw2 haw haw2 hh hh7
  rcases hkk with ⟨rfl, hk1⟩ | ⟨rfl, hk1⟩ <;> rcases hyz with rfl | ⟨rfl, rfl⟩ | ⟨rfl, rfl, hyz⟩ <;> rcases hm20 with hm20 | hm20
  all_goals
    go_wp2_with fail
    refine (HN.out _).mono ?_
    rintro x w8 ⟨rfl, hb8⟩
    have T9 := Aside0.mk (T8.out.keep hb8)
    clear T8 hb8 c0 c1 c2 c3 c4 x0 x1 x2 x3 x4 y0_ y1_ y2_ y3_ y4_
    go_wp2_with fail
    refine (awake_calls _).mono ?_
    rintro x w9 ⟨rfl, hb9⟩
    have T10 := Aside0.mk (T9.out.keep hb9)
    clear T9 hb9
    go_wp2_with fail
    go_ret
    exact ⟨rfl, T10.out.below⟩
end Go.Proofs.Ytaaeidlekmeaiaa
