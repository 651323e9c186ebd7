/- The walks of package text's own functions: long, sign (it panics where no sign begins), and read with its deferred closure. -/
import Derived.Test.YtljodbbmcgpcnaaProg
import Derived.Test.YtljodbbmcgpcnaaPlain
import Derived.Defers
import Derived.Recover
import Derived.WalkLawsBesides
import Derived.WalkSpells
import Derived.Outline
namespace Go.Proofs.Ytljodbbmcgpcnaa
set_option linter.unusedVariables false
set_option linter.unusedSimpArgs false
open Go.RowKit Go.Proofs.YtljodbbmcgpcnaaW.PrintWords

theorem long_calls (c : Int) (h0 : 0 ≤ c) (h1 : c ≤ 255) (w : World) :
    Calls Try.prog 19 #[.int .u8 c] w fun e w' => e = .returned (.tuple #[.int .i64 (lng c).1, .int .i64 (lng c).2.1, .int .i64 (lng c).2.2]) ∧ w = w' := by
  by_cases c2 : c < 128
  · rw [lng_one c2]
    go_enter Try.func19, Try.ntmps19
    go_wp2
    go_ret3
    exact ⟨rfl, rfl⟩
  by_cases c3 : (c / 32) = 6
  · rw [lng_two c2 c3]
    have k3 : ((c / 32) == 6) = true := beq_iff_eq.mpr c3
    clear c3
    go_enter Try.func19, Try.ntmps19
    go_wp2
    go_ret3
    exact ⟨rfl, rfl⟩
  have k3 : ((c / 32) == 6) = false := beq_eq_false_iff_ne.mpr c3
  by_cases c4 : (c / 16) = 14
  · rw [lng_three c2 c3 c4]
    have k4 : ((c / 16) == 14) = true := beq_iff_eq.mpr c4
    clear c4 c3
    go_enter Try.func19, Try.ntmps19
    go_wp2
    go_ret3
    exact ⟨rfl, rfl⟩
  have k4 : ((c / 16) == 14) = false := beq_eq_false_iff_ne.mpr c4
  by_cases c5 : (c / 8) = 30
  · rw [lng_four c2 c3 c4 c5]
    have k5 : ((c / 8) == 30) = true := beq_iff_eq.mpr c5
    clear c5 c4 c3
    go_enter Try.func19, Try.ntmps19
    go_wp2
    go_ret3
    exact ⟨rfl, rfl⟩
  · have k5 : ((c / 8) == 30) = false := beq_eq_false_iff_ne.mpr c5
    rw [lng_none c2 c3 c4 c5]
    clear c5 c4 c3
    go_enter Try.func19, Try.ntmps19
    go_wp2
    go_ret3
    exact ⟨rfl, rfl⟩

/-- What a reading that ends early throws. -/
def early (a : Int) : Ending := .panicked [{ v := .iface 37 (.agg #[.int .i64 a]), recovered := false }]

set_option maxHeartbeats 800000 in
/-- No sign of so many bytes: the first byte begins none, or too few bytes are left. -/
theorem sign_short (s : ByteArray) (a : Int) (h0 : 0 ≤ a) (h1 : a < s.size) (hs : s.size ≤ 140737488351232) (w : World)
    (hb : (lng (bt s a)).1 = 0 ∨ (s.size : Int) < a + (lng (bt s a)).1) :
    Calls Try.prog 18 #[.string s, .int .i64 a] w fun e w' => e = early a ∧ Below w.heap.size w w' := by
  have hr := lng_range s a
  have hl := long_calls (bt s a) (bt_range s a).1 (bt_range s a).2
  generalize hn : (lng (bt s a)).1 = n at *
  generalize hx : (lng (bt s a)).2.1 = x at *
  generalize hd : (lng (bt s a)).2.2 = d at *
  have HL := Aside0.mk hl
  clear hl hn hx hd
  have hx13 := bt_at s a
  have p13 : (0 ≤ a) = True := eq_true h0
  have q13 : (a < (s.size : Int)) = True := eq_true h1
  by_cases hn0 : n = 0
  · subst hn0
    clear hb
    go_enter Try.func18, Try.ntmps18
    go_wp2_with (go_at_call 19; refine (HL.out _).mono ?_; rintro e w' ⟨rfl, rfl⟩)
    exact ⟨rfl, rfl, Below.refl _ _⟩
  · have hb' : (s.size : Int) < a + n := by omega
    have k0 : (n == 0) = false := beq_eq_false_iff_ne.mpr hn0
    clear hb hn0
    go_enter Try.func18, Try.ntmps18
    go_wp2_with (go_at_call 19; refine (HL.out _).mono ?_; rintro e w' ⟨rfl, rfl⟩)
    exact ⟨rfl, rfl, Below.refl _ _⟩

/-- How a reading of one sign ends. -/
def SignEnd (s : ByteArray) (a : Int) (w : World) (e : Ending) (w' : World) : Prop := e = (if sg s a = 0 then early a else .returned (.int .i64 (sg s a))) ∧ Below w.heap.size w w'
theorem SignEnd.bad {s : ByteArray} {a : Int} {w w' : World} (h : sg s a = 0) (hb : Below w.heap.size w w') : SignEnd s a w (early a) w' := ⟨by rw [if_pos h], hb⟩
theorem SignEnd.good {s : ByteArray} {a n : Int} {w w' : World} (h : sg s a = n) (hn : n ≠ 0) (hb : Below w.heap.size w w') : SignEnd s a w (.returned (.int .i64 n)) w' := ⟨by rw [if_neg (by omega), h], hb⟩

set_option maxHeartbeats 800000 in
/-- There are bytes enough. -/
theorem sign_long (s : ByteArray) (a : Int) (h0 : 0 ≤ a) (h1 : a < s.size) (hs : s.size ≤ 140737488351232) (w : World)
    (hb1 : ¬ (lng (bt s a)).1 = 0) (hb2 : a + (lng (bt s a)).1 ≤ (s.size : Int)) :
    Calls Try.prog 18 #[.string s, .int .i64 a] w (SignEnd s a w) := by
  have hr := lng_range s a
  have hl := long_calls (bt s a) (bt_range s a).1 (bt_range s a).2
  have hsg : sg s a = sgOf (tailX s a (lng (bt s a)).2.1 ((lng (bt s a)).1 - 1).toNat) (lng (bt s a)).1 (lng (bt s a)).2.2 := by unfold sg; rw [if_neg (by omega)]
  have htr := tailX_lt s a (lng (bt s a)).2.1 hr.2.2.1 hr.2.2.2
  generalize hn : (lng (bt s a)).1 = n at *
  generalize hx : (lng (bt s a)).2.1 = x at *
  generalize hd : (lng (bt s a)).2.2 = d at *
  have HL := Aside0.mk hl
  clear hl hn hx hd
  have HSG := Aside0.mk hsg
  have HTR := Aside0.mk htr
  clear hsg htr
  have hx13 := bt_at s a
  have p13 : (0 ≤ a) = True := eq_true h0
  have q13 : (a < (s.size : Int)) = True := eq_true h1
  have k0 : (n == 0) = false := beq_eq_false_iff_ne.mpr hb1
  have k1 : decide (a + n > (s.size : Int)) = false := decide_eq_false (by omega)
  have k2 : (0 ≤ a + 1) = True := eq_true (by omega)
  have k3 : (a + 1 ≤ a + n) = True := eq_true (by omega)
  have k4 : (a + n ≤ (s.size : Int)) = True := eq_true (by omega)
  have hrn := hr.2.1
  have hn1 : 1 ≤ n := by omega
  clear hr hb1
  generalize hE : s.extract (a + 1).toNat (a + n).toNat = t
  have htz : t.size = (n - 1).toNat := by rw [← hE, ByteArray.size_extract]; omega
  have HE := Aside0.mk hE
  have HTZ := Aside0.mk htz
  have kb := fun W => print_bytes (P := Try.prog) 9 28 5 Try.underlying9 Try.underlying28 Try.underlying5 t W
  clear htz
  go_enter Try.func18, Try.ntmps18
  go_wp2_with (go_at_call 19; refine (HL.out _).mono ?_; rintro e w' ⟨rfl, rfl⟩)
  go_loop [6, 40] (fun v6 v40 => ∃ (y : Int) (k : Nat), v6 = .int .i64 y ∧ v40 = .int .i64 k ∧ k ≤ t.size ∧ Aside0 (tailX s a x k = some y)) (fun _ v40 => t.size - (intOf v40).toNat)
  case atStart => exact ⟨x, 0, rfl, rfl, by omega, ⟨rfl⟩⟩
  case round =>
    obtain ⟨y, k, rfl, rfl, hk, HY⟩ := hrel
    obtain ⟨hy0, hy1⟩ := HTR.out k y (by have := HTZ.out; omega) HY.out
    have hk3 : k ≤ 3 := by have := HTZ.out; omega
    have HB' : Aside0 (Below w.heap.size w (Lib.bytesWorld w 5 t)) := ⟨bytes_below (Below.refl _ _) (Nat.le_refl _) 5 t⟩
    by_cases hlt : k < t.size
    · have hcell : (Lib.bytesWorld w 5 t).cell? ⟨w.heap.size, k, none⟩ = some (.int .u8 (bt s (a + 1 + k))) := by
        have h1 := (bytes_reads w 5 t (by have := HTZ.out; omega)).at_ k (by omega) (by omega)
        obtain ⟨ad, e, hc⟩ := h1
        cases e
        rw [add_plain, rd_bytesOf] at hc
        have e2 := bt_extract s (a + 1).toNat (a + n).toNat (by omega) k (by have := HTZ.out; omega)
        rw [hE] at e2
        rw [Int.toNat_natCast, e2, show (((a + 1).toNat : Int) + k) = a + 1 + k from by omega] at hc
        exact hc
      clear hE
      generalize hB : bt s (a + 1 + k) = b at *
      have hb0 : 0 ≤ b := by rw [← hB]; exact (bt_range _ _).1
      have hb1 : b ≤ 255 := by rw [← hB]; exact (bt_range _ _).2
      have HB := Aside0.mk hB
      clear hB
      by_cases hc : b / 64 = 2
      · have kc : ((b / 64) == 2) = true := beq_iff_eq.mpr hc
        have kd : ((b / 64) != 2) = false := bne_eq_false_iff_eq.mpr hc
        have HC := Aside0.mk hc
        clear hc
        go_wp2
        go_round
        case rel => exact ⟨y * 64 + b % 64, k + 1, by rw [or_six y (b % 64) hy0 hy1 (by omega) (by omega)], by go_num, by omega, ⟨by rw [← HB.out]; exact tailX_step HY.out (by rw [HB.out]; exact HC.out)⟩⟩
        case measure => simp [intOf]; omega
      · have kc : ((b / 64) == 2) = false := beq_eq_false_iff_ne.mpr hc
        have kd : ((b / 64) != 2) = true := bne_iff_ne.mpr hc
        have HC := Aside0.mk hc
        clear hc
        go_wp2
        refine ⟨rfl, SignEnd.bad ?_ HB'.out⟩
        rw [HSG.out, tailX_stop HY.out (by rw [HB.out]; exact HC.out) (by have := HTZ.out; omega)]; rfl
    · have hkt : k = (n - 1).toNat := by have := HTZ.out; omega
      have HK := Aside0.mk hkt
      clear hkt hE
      have hmid : SignEnd s a w (if okX y d = true then .returned (.int .i64 n) else early a) (Lib.bytesWorld w 5 t) := by
        cases ho : okX y d with
        | true => simp only [if_true]; exact SignEnd.good (by rw [HSG.out, ← HK.out, HY.out, sgOf_ok ho]) (by omega) HB'.out
        | false => simp only [Bool.false_eq_true, if_false]; exact SignEnd.bad (by rw [HSG.out, ← HK.out, HY.out, sgOf_bad ho]) HB'.out
      have HM := Aside0.mk hmid
      clear hmid
      by_cases c1 : y < d
      · have k1 : decide (y < d) = true := decide_eq_true c1
        have HM2 : Aside0 (SignEnd s a w (early a) (Lib.bytesWorld w 5 t)) := ⟨by have h := HM.out; rw [if_neg (by simp [okX, c1])] at h; exact h⟩
        clear HM
        go_wp2
        exact ⟨rfl, HM2.out⟩
      have k1 : decide (y < d) = false := decide_eq_false c1
      by_cases c2 : y > 1114111
      · have k2 : decide (y > 1114111) = true := decide_eq_true c2
        have HM2 : Aside0 (SignEnd s a w (early a) (Lib.bytesWorld w 5 t)) := ⟨by have h := HM.out; rw [if_neg (by simp [okX, c2])] at h; exact h⟩
        clear HM
        go_wp2
        exact ⟨rfl, HM2.out⟩
      have k2 : decide (y > 1114111) = false := decide_eq_false c2
      by_cases c3 : y ≥ 55296 ∧ y ≤ 57343
      · have k3 : decide (y ≥ 55296) = true := decide_eq_true c3.1
        have k4 : decide (y ≤ 57343) = true := decide_eq_true c3.2
        have HM2 : Aside0 (SignEnd s a w (early a) (Lib.bytesWorld w 5 t)) := ⟨by have h := HM.out; rw [if_neg (by simp [okX, c3])] at h; exact h⟩
        clear HM c3
        go_wp2
        exact ⟨rfl, HM2.out⟩
      have HM2 : Aside0 (SignEnd s a w (.returned (.int .i64 n)) (Lib.bytesWorld w 5 t)) := ⟨by have h := HM.out; rw [if_pos (by simp [okX]; omega)] at h; exact h⟩
      clear HM
      by_cases c4 : y ≥ 55296
      · have k3 : decide (y ≥ 55296) = true := decide_eq_true c4
        have k4 : decide (y ≤ 57343) = false := decide_eq_false (by omega)
        clear c3
        go_wp2
        go_ret
        exact HM2.out
      · have k3 : decide (y ≥ 55296) = false := decide_eq_false c4
        clear c3
        go_wp2
        go_ret
        exact HM2.out

theorem sign_calls (s : ByteArray) (a : Int) (h0 : 0 ≤ a) (h1 : a < s.size) (hs : s.size ≤ 140737488351232) (w : World) : Calls Try.prog 18 #[.string s, .int .i64 a] w (SignEnd s a w) := by
  by_cases hb : (lng (bt s a)).1 = 0 ∨ (s.size : Int) < a + (lng (bt s a)).1
  · exact (sign_short s a h0 h1 hs w hb).mono fun e w' ⟨he, hw⟩ => by subst he; exact SignEnd.bad (by unfold sg; rw [if_pos hb]) hw
  · exact sign_long s a h0 h1 hs w (by omega) (by omega)

/-- The deferred closure, its frame having panicked early: the named result tells where. -/
theorem catch_early (p : Addr) (a x : Int) (older : List PanicEntry) (w : World) (hp : p.block < w.heap.size) (hc : w.cell? p = some (.int .i64 x)) (hz : w.frozen? p = false) :
    CallsD Try.prog 17 #[.pointer (some p)] (.panicking ({ v := .iface 37 (.agg #[.int .i64 a]), recovered := false } :: older)) w fun e u' w' =>
      e = .returned (.tuple #[]) ∧ u' = .panicking ({ v := .iface 37 (.agg #[.int .i64 a]), recovered := true } :: older) ∧ w' = (w.alloc (.cells #[.int .i64 a] 37)).setCell p (.int .i64 a) := by
  refine callsD_of_wpS Try.func17 rfl fun c₀ cs hu => ?_
  have hta : ∀ (v : Value) (W : World), (Instr.typeAssert (.iface 37 v) 20 37 true).run Try.prog W = .ok (.tuple #[v, .bool true]) W := fun v W => by rfl
  apply wpS_seq
  apply wpS_region
  simp [wpOpsS, go_sem, recoverD, hu, Try.ntmps17, Exit.thenS]
  apply wpS_seq
  apply wpS_region
  simp [wpOpsS, go_sem, Exit.thenS]
  refine wpS_cond (t := true) (by simp [Act.eval, Array.replicate]) ?_
  simp only [if_true]
  apply wpS_seq
  apply wpS_region
  simp [wpOpsS, go_sem, Exit.thenS, hta]
  apply wpS_seq
  apply wpS_seq
  apply wpS_region
  simp [wpOpsS, go_sem, Exit.thenS]
  refine wpS_cond (t := false) (by simp [Act.eval, Array.replicate]) ?_
  simp only [Bool.false_eq_true, if_false]
  refine wpS_of_wp (wp_skip ?_)
  simp only [Exit.thenS]
  apply wpS_region
  have hc' : ∀ o : Obj, (w.alloc o).cell? p = some (.int .i64 x) := fun o => (((Below.refl w.heap.size w).alloc (Nat.le_refl _) o).cell hp).trans hc
  have hz' : ∀ o : Obj, (w.alloc o).frozen? p = false := fun o => (((Below.refl w.heap.size w).alloc (Nat.le_refl _) o).frozen hp).trans hz
  simp [wpOpsS, go_sem, hc', hz', bodyPostS, results, Try.results17]

/-- The deferred closure, its frame returning: it finds nothing. -/
theorem catch_idle (p : Addr) (w : World) :
    CallsD Try.prog 17 #[.pointer (some p)] .returning w fun e u' w' => e = .returned (.tuple #[]) ∧ u' = .returning ∧ w' = w := by
  refine callsD_of_wpS Try.func17 rfl fun c₀ cs hu => ?_
  apply wpS_seq
  apply wpS_region
  simp [wpOpsS, go_sem, recoverD, hu, Try.ntmps17, Exit.thenS]
  apply wpS_seq
  apply wpS_region
  simp [wpOpsS, go_sem, Exit.thenS]
  refine wpS_cond (t := false) (by simp [Act.eval, Array.replicate]) ?_
  simp only [Bool.false_eq_true, if_false]
  refine wpS_of_wp (wp_skip ?_)
  cases c₀
  simp_all [bodyPostS, results, Try.results17]

theorem sign_bad (s : ByteArray) (a : Int) (h0 : 0 ≤ a) (h1 : a < s.size) (hs : s.size ≤ 140737488351232) (hz : sg s a = 0) (w : World) :
    Calls Try.prog 18 #[.string s, .int .i64 a] w fun e w' => e = .panicked [{ v := .iface 37 (.agg #[.int .i64 a]), recovered := false }] ∧ Below w.heap.size w w' :=
  (sign_calls s a h0 h1 hs w).mono fun e w' ⟨he, hw⟩ => ⟨by rw [he, if_pos hz]; rfl, hw⟩
theorem sign_good (s : ByteArray) (a n : Int) (h0 : 0 ≤ a) (h1 : a < s.size) (hs : s.size ≤ 140737488351232) (hz : sg s a = n) (hn : n ≠ 0) (w : World) :
    Calls Try.prog 18 #[.string s, .int .i64 a] w fun e w' => e = .returned (.int .i64 n) ∧ Below w.heap.size w w' :=
  (sign_calls s a h0 h1 hs w).mono fun e w' ⟨he, hw⟩ => ⟨by rw [he, if_neg (by omega), hz], hw⟩

/-- How the reading ends. -/
def ReadEnd (r : Int × Int) (w : World) (e : Ending) (w' : World) : Prop := e = .returned (.tuple #[.int .i64 r.1, .int .i64 r.2]) ∧ Below w.heap.size w w'

set_option maxHeartbeats 800000 in
theorem read_calls (s : ByteArray) (hs : s.size ≤ 140737488351232) (w : World) : Calls Try.prog 15 #[.string s] w (ReadEnd (scan s (s.size + 1) 0 0) w) := by
  have hmf : ∀ (fn : Fn) (first cap : Array Value) (w : World), (Instr.makeFunc fn first cap).run Try.prog w = .ok (.func fn first cap) w := fun _ _ _ _ => rfl
  go_enter_defers Try.func15, Try.ntmps15
  go_wp2
  go_loopw [3, 4] (fun v3 v4 wr => ∃ (a c : Int) (k : Nat), v3 = .int .i64 c ∧ v4 = .int .i64 a ∧ 0 ≤ a ∧ a ≤ s.size ∧ 0 ≤ c ∧ c ≤ a ∧ s.size < a + k ∧ Aside0 (scan s (s.size + 1) 0 0 = scan s k a c) ∧
    Aside0 (wr.heap[w.heap.size]? = some (.cells #[.int .i64 0] 3 (0, 0))) ∧ Aside0 (Below w.heap.size w wr)) (fun _ v4 _ => s.size - (intOf v4).toNat)
  case atStart => exact ⟨0, 0, s.size + 1, rfl, rfl, by omega, by omega, by omega, by omega, by omega, ⟨rfl⟩, ⟨heap_alloc_new _ _⟩, ⟨(Below.refl _ _).alloc (Nat.le_refl _) _⟩⟩
  case round =>
    obtain ⟨a, c, k, rfl, rfl, ha0, ha1, hc0, hc1, hk, HS, HB, HW⟩ := hrel
    by_cases hlt : a < s.size
    · by_cases hz : sg s a = 0
      · have HZ := Aside0.mk hz
        clear hz
        go_wp2_with (go_at_call 18; refine (sign_bad s a ha0 hlt hs HZ.out _).mono ?_; rintro e w1 ⟨rfl, hb1⟩)
        have hb2 : w1.heap[w.heap.size]? = some (.cells #[.int .i64 0] 3 (0, 0)) := (hb1.block _ (blk_lt HB.out)).trans HB.out
        have hw2 : Below w.heap.size w w1 := HW.out.trans (hb1.mono HW.out.size)
        refine leaves_cons (f := 17) (args := #[.pointer (some ⟨w.heap.size, 0, none⟩)]) (by simp) (by simp [go_sem]) ?_
        refine (catch_early ⟨w.heap.size, 0, none⟩ a 0 [] _ (blk_lt hb2) ((blk_cell hb2 0).trans rfl) (blk_frozen hb2 0)).mono ?_
        rintro e u' w'' ⟨rfl, rfl, rfl⟩
        have hb3 : ((w1.alloc (.cells #[.int .i64 a] 37)).setCell ⟨w.heap.size, 0, none⟩ (.int .i64 a)).heap[w.heap.size]? = some (.cells #[.int .i64 a] 3 (0, 0)) :=
          blk_set ((((Below.refl _ _).alloc (Nat.le_refl _) _).block _ (blk_lt hb2)).trans hb2) 0 (.int .i64 a)
        have hc3 : ((w1.alloc (.cells #[.int .i64 a] 37)).setCell ⟨w.heap.size, 0, none⟩ (.int .i64 a)).cell? ⟨w.heap.size, 0, none⟩ = some (.int .i64 a) := (blk_cell hb3 0).trans rfl
        have hfin : ReadEnd (scan s (s.size + 1) 0 0) w (.returned (.tuple #[.int .i64 a, .int .i64 c])) ((w1.alloc (.cells #[.int .i64 a] 37)).setCell ⟨w.heap.size, 0, none⟩ (.int .i64 a)) :=
          ⟨by rw [HS.out, scan_bad (by omega) hlt HZ.out], (hw2.alloc hw2.size _).setCell (Nat.le_refl _) _⟩
        generalize (w1.alloc (.cells #[.int .i64 a] 37)).setCell ⟨w.heap.size, 0, none⟩ (.int .i64 a) = w2 at *
        have HF := Aside0.mk hfin
        clear hfin
        simp [Leaves, settle, results, Try.results15, go_sem, hc3, HF.out]
      · generalize hn : sg s a = n at *
        have hr := sg_range s a
        rw [hn] at hr
        obtain ⟨hn0, hn1, hn2⟩ := hr
        have hn3 := hn2 hz
        have HZ := Aside0.mk hz
        have HN := Aside0.mk hn
        clear hz hn hn2
        go_wp2_with (go_at_call 18; refine (sign_good s a n ha0 hlt hs HN.out HZ.out _).mono ?_; rintro e w1 ⟨rfl, hb1⟩)
        have hb2 : w1.heap[w.heap.size]? = some (.cells #[.int .i64 0] 3 (0, 0)) := (hb1.block _ (blk_lt HB.out)).trans HB.out
        have hw2 : Below w.heap.size w w1 := HW.out.trans (hb1.mono HW.out.size)
        go_roundw
        case rel =>
          have hnz := HZ.out
          refine ⟨a + n, c + 1, k - 1, rfl, rfl, by omega, by omega, by omega, by omega, by omega, ⟨?_⟩, ⟨hb2⟩, ⟨hw2⟩⟩
          · obtain ⟨k, rfl⟩ : ∃ m, k = m + 1 := ⟨k - 1, by omega⟩
            rw [HS.out, scan_step hlt (by rw [HN.out]; exact HZ.out), HN.out]; rfl
        case measure => have := HZ.out; simp [intOf]; omega
    · have hc0 : wr.cell? ⟨w.heap.size, 0, none⟩ = some (.int .i64 0) := (blk_cell HB.out 0).trans rfl
      have hz0 : wr.frozen? ⟨w.heap.size, 0, none⟩ = false := blk_frozen HB.out 0
      go_wp2
      have hb3 : (wr.setCell ⟨w.heap.size, 0, none⟩ (.int .i64 (-1))).heap[w.heap.size]? = some (.cells #[.int .i64 (-1)] 3 (0, 0)) := blk_set HB.out 0 (.int .i64 (-1))
      have hc3 : (wr.setCell ⟨w.heap.size, 0, none⟩ (.int .i64 (-1))).cell? ⟨w.heap.size, 0, none⟩ = some (.int .i64 (-1)) := (blk_cell hb3 0).trans rfl
      have hfin : ReadEnd (scan s (s.size + 1) 0 0) w (.returned (.tuple #[.int .i64 (-1), .int .i64 c])) (wr.setCell ⟨w.heap.size, 0, none⟩ (.int .i64 (-1))) :=
        ⟨by rw [HS.out, scan_end (by omega) (by omega)], HW.out.setCell (Nat.le_refl _) _⟩
      refine leaves_cons (f := 17) (args := #[.pointer (some ⟨w.heap.size, 0, none⟩)]) (by simp) (by simp [go_sem]) ?_
      refine (catch_idle ⟨w.heap.size, 0, none⟩ _).mono ?_
      rintro e u' w'' ⟨rfl, rfl, rfl⟩
      generalize wr.setCell ⟨w.heap.size, 0, none⟩ (.int .i64 (-1)) = w2 at *
      have HF := Aside0.mk hfin
      clear hfin
      simp [Leaves, settle, results, Try.results15, go_sem, hc3, HF.out]

/-- As the callers' walks want it. -/
theorem text_read.calls (a0 : ByteArray) (r1 r2 : Int) (w : World) (h : text_read.f a0 = some (r1, r2)) :
    Calls Try.prog 15 #[.string a0] w fun e w' => e = .returned (.tuple #[.int .i64 r1, .int .i64 r2]) ∧ Below w.heap.size w w' := by
  unfold text_read.f at h
  split at h
  · rename_i hs
    obtain h := Option.some.inj h
    exact (read_calls a0 hs w).mono fun e w' ⟨he, hw⟩ => ⟨by rw [he, h], hw⟩
  · cases h
end Go.Proofs.Ytljodbbmcgpcnaa
