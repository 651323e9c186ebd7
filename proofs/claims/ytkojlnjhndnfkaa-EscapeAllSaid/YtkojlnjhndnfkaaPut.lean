/- escape.Put walked: the name of whatever bytes. -/
import Derived.Test.YtkojlnjhndnfkaaWriters
import Derived.Test.YtkojlnjhndnfkaaPlain
import Derived.Test.YtkojlnjhndnfkaaGBx1
import Derived.StillTailTactics
namespace Go.Proofs.Ytkojlnjhndnfkaa
set_option linter.unusedVariables false
set_option linter.unusedSimpArgs false
open Go.RowKit Go.Proofs.YtkojlnjhndnfkaaW.PrintWords

theorem plain_calls (c : Int) (w : World) : Calls Try.prog 14 #[.int .u8 c] w fun e w' => e = .returned (.bool (plainB c)) ∧ Below w.heap.size w w' := by
  refine (GB.escape_plain.calls c (plainB c) w ?_).mono fun e w' ⟨he, hd⟩ => ⟨he, hd.below⟩
  unfold GB.escape_plain.f plainB
  by_cases h0 : c ≥ 33
  · rw [if_pos h0, decide_eq_true (show 33 ≤ c from h0)]
    by_cases h1 : c ≤ 126
    · rw [if_pos h1, decide_eq_true h1]
      by_cases h2 : c = 37
      · rw [if_pos h2, h2]; rfl
      · rw [if_neg h2]; simp [h2]
    · rw [if_neg h1, decide_eq_false h1]; rfl
  · rw [if_neg h0, decide_eq_false (show ¬ 33 ≤ c from h0)]; rfl
theorem byteCells_nums (l : List Int) (h : ∀ x ∈ l, 0 ≤ x ∧ x < 256) : Lib.byteCells (l.map fun n => UInt8.ofNat n.toNat) = nums .u8 l := by
  unfold Lib.byteCells nums
  rw [List.map_map]
  apply List.map_congr_left
  intro x hx
  have := h x hx
  simp [UInt8.toNat_ofNat']
  omega
theorem bytes_block (W : World) (e : TypeId) (s : ByteArray) (w2 : World) (h : w2.heap[W.heap.size]? = (Lib.bytesWorld W e s).heap[W.heap.size]?) (j : Nat) (hj : j < s.size) (hs : s.size ≤ 9223372036854775807) :
    w2.cell? ⟨W.heap.size, j, none⟩ = some (.int .u8 (bt s j)) := by
  obtain ⟨ad, e1, hc⟩ := (bytes_reads W e s hs).at_ (j : Int) (Int.natCast_nonneg _) (by omega)
  obtain rfl := Option.some.inj e1
  rw [add_plain, rd_bytesOf, Int.toNat_natCast] at hc
  rw [← hc]
  simp [World.cell?, h]

set_option maxHeartbeats 4000000 in
set_option maxRecDepth 100000 in
theorem put_calls (s : ByteArray) (hs : s.size ≤ 35184372088832) (w : World) : Calls Try.prog 9 #[.string s] w fun e w' => e = .returned (.string (escB s)) ∧ Below w.heap.size w w' := by
  have kb := fun W => print_bytes (P := Try.prog) 9 30 5 Try.underlying9 Try.underlying30 Try.underlying5 s W
  have hW : (w.alloc (.cells #[.pointer none, .slice none 0 0] 40)).heap.size = w.heap.size + 1 := by simp
  have HF : Aside0 (Bu (w.heap.size + 2) w.heap.size [] (Lib.bytesWorld (w.alloc (.cells #[.pointer none, .slice none 0 0] 40)) 5 s)) :=
    ⟨(Bu.fresh (w.heap.size + 2) w).grown (grown_of (bytes_below (Below.refl _ _) (Nat.le_refl _) 5 s))⟩
  have HK : Aside0 (Below w.heap.size w (Lib.bytesWorld (w.alloc (.cells #[.pointer none, .slice none 0 0] 40)) 5 s)) :=
    ⟨((Below.refl _ _).alloc (Nat.le_refl _) _).trans (bytes_below (Below.refl _ _) (by simp) 5 s)⟩
  have HZ := Aside0.mk (Lib.bytesWorld_size (w.alloc (.cells #[.pointer none, .slice none 0 0] 40)) 5 s)
  have HC := Aside0.mk (fun w2 h j hj => bytes_block (w.alloc (.cells #[.pointer none, .slice none 0 0] 40)) 5 s w2 h j hj (by omega))
  rw [hW] at HZ HC
  replace hW := Aside0.mk hW
  go_enter Try.func9, Try.ntmps9
  go_wp2_with fail
  generalize hW2 : Lib.bytesWorld (w.alloc (.cells #[.pointer none, .slice none 0 0] 40)) 5 s = W2 at *
  go_loopw [9] (fun v9 wr => ∃ k : Nat, v9 = .int .i64 k ∧ k ≤ s.size ∧ Aside0 (Bu (w.heap.size + 2) w.heap.size (nums .u8 (escL ((bytesOf s).take k))) wr) ∧ Aside0 (Kp (w.heap.size + 2) w.heap.size W2 wr)) (fun v9 _ => s.size - (intOf v9).toNat)
  case atStart => exact ⟨0, rfl, by omega, HF, ⟨Kp.refl _ _ _⟩⟩
  case round =>
    obtain ⟨k, rfl, hk, hB, hP⟩ := hrel
    have hsz : W2.heap.size ≤ wr.heap.size := hP.out.size
    have hsz2 : w.heap.size + 2 ≤ wr.heap.size := by have := HZ.out; omega
    clear hsz
    by_cases hlt : k < s.size
    · have hcell := HC.out wr (hP.out.block _ (by omega) (by omega)) k hlt
      have hcr := bt_range s k
      have hnx := Aside0.mk (bytesOf_take s k hlt)
      have hll : Aside0 ((escL ((bytesOf s).take k)).length ≤ 3 * k) := ⟨by have := escL_len ((bytesOf s).take k); rw [List.length_take] at this; omega⟩
      generalize bt s k = c at *
      have hc0 : 0 ≤ c := hcr.1
      have hc1 : c ≤ 255 := hcr.2
      clear hcr
      have q0 : (0 ≤ (k : Int)) = True := eq_true (by omega)
      have q1 : ((k : Int) < (s.size : Int)) = True := eq_true (by omega)
      have q2 : decide ((k : Int) < (s.size : Int)) = true := decide_eq_true (by omega)
      have hsz2' := Aside0.mk hsz2
      clear hsz2
      cases hpl : plainB c with
      | true =>
        have HPL := Aside0.mk (plain_calls c)
        rw [hpl] at HPL
        go_wp2_with fail
        refine (HPL.out _).mono ?_
        rintro e w1 ⟨rfl, hb1⟩
        have hB1 := Aside0.mk (hB.out.grown (grown_of hb1))
        have hP1 := Aside0.mk (hP.out.below (hb1.mono hsz2'.out))
        have hs1 : Aside0 (w.heap.size + 2 ≤ w1.heap.size) := ⟨Nat.le_trans hsz2'.out hb1.size⟩
        clear hB hP hb1
        go_wp2_with fail
        refine (Builder_WriteByte _ _ _ c w1 hB1.out (by rw [nums_length]; have := hll.out; omega) hs1.out).mono ?_
        rintro e w3 ⟨rfl, hB3, hP3⟩
        have HB3 := Aside0.mk hB3
        have HP3 := Aside0.mk (hP1.out.trans hP3)
        clear hB3 hP3
        go_wp2_with fail
        go_roundw
        case rel => exact ⟨k + 1, by go_num, by omega, ⟨by rw [hnx.out, escL_append, escL_one, nums_append]; unfold esc1; rw [if_pos hpl]; exact HB3.out⟩, HP3⟩
        case measure => simp [intOf]; omega
      | false =>
        have HPL := Aside0.mk (plain_calls c)
        rw [hpl] at HPL
        have hand : Go.bits .and .u8 c 15 = c % 16 := and15 c hc0 (by omega)
        have hdh := bt_dg (c / 16) (by omega) (by omega)
        have hdl := bt_dg (c % 16) (by omega) (by omega)
        have h0h : (0 ≤ c / 16) = True := eq_true (by omega)
        have h1h : (c / 16 < 16) = True := eq_true (by omega)
        have h0l : (0 ≤ c % 16) = True := eq_true (by omega)
        have h1l : (c % 16 < 16) = True := eq_true (by omega)
        have hxh := bt_at ⟨#[48, 49, 50, 51, 52, 53, 54, 55, 56, 57, 65, 66, 67, 68, 69, 70]⟩ (c / 16)
        have hxl := bt_at ⟨#[48, 49, 50, 51, 52, 53, 54, 55, 56, 57, 65, 66, 67, 68, 69, 70]⟩ (c % 16)
        rw [hdh] at hxh
        rw [hdl] at hxl
        have hesc : Aside0 (esc1 c = [37, dg (c / 16), dg (c % 16)]) := ⟨by unfold esc1; rw [if_neg (by rw [hpl]; simp)]⟩
        clear hdh hdl
        generalize dg (c / 16) = dh at *
        generalize dg (c % 16) = dl at *
        generalize hch : c / 16 = ch at *
        generalize c % 16 = cl at *
        go_wp2_with fail
        refine (HPL.out _).mono ?_
        rintro e w1 ⟨rfl, hb1⟩
        have hB1 := Aside0.mk (hB.out.grown (grown_of hb1))
        have hP1 := Aside0.mk (hP.out.below (hb1.mono hsz2'.out))
        have hs1 : Aside0 (w.heap.size + 2 ≤ w1.heap.size) := ⟨Nat.le_trans hsz2'.out hb1.size⟩
        clear hB hP hb1
        go_wp2_with fail
        go_still_tail 6, (by kernel_rfl)
        change wpList _ _ _ _ _ w1.drew
        have hdw : Aside0 (Below w1.heap.size w1 w1.drew) := ⟨below_drew (Below.refl _ _)⟩
        have hB2 := Aside0.mk ((hB1.out.grown (grown_of hdw.out)).grown (grown_alloc _ (.cells #[.int .u8 37, .int .u8 dh, .int .u8 dl] 5)))
        have hP2 := Aside0.mk ((hP1.out.below (hdw.out.mono hs1.out)).alloc hs1.out (.cells #[.int .u8 37, .int .u8 dh, .int .u8 dl] 5))
        have hs2 : Aside0 (w.heap.size + 2 ≤ (w1.drew.alloc (.cells #[.int .u8 37, .int .u8 dh, .int .u8 dl] 5)).heap.size) := ⟨by have := hs1.out; simp; omega⟩
        have hnb : Aside0 (¬ w1.drew.heap.size = w.heap.size) := ⟨by have := hs1.out; simp; omega⟩
        clear hdw hB1 hP1 hs1
        generalize w1.drew = w2 at *
        have hnew := Aside0.mk (heap_alloc_new w2 (.cells #[.int .u8 37, .int .u8 dh, .int .u8 dl] 5))
        go_wp2_with fail
        refine (Builder_Write _ _ _ w2.heap.size 3 3 [.int .u8 37, .int .u8 dh, .int .u8 dl] (w2.alloc (.cells #[.int .u8 37, .int .u8 dh, .int .u8 dl] 5)) hB2.out rfl (by decide) (by rw [nums_length]; have := hll.out; omega) hs2.out hnb.out ?hx ?ho).mono ?_
        case hx =>
          intro j u hj
          rw [blk_cell hnew.out j]
          simpa using hj
        case ho =>
          intro u hu
          simp only [List.mem_cons, List.not_mem_nil, or_false] at hu
          rcases hu with rfl | rfl | rfl <;> rfl
        rintro e w3 ⟨rfl, hB3, hP3⟩
        have HB3 := Aside0.mk hB3
        have HP3 := Aside0.mk (hP2.out.trans hP3)
        clear hB3 hP3
        go_wp2_with fail
        go_roundw
        case rel => exact ⟨k + 1, by go_num, by omega, ⟨by rw [hnx.out, escL_append, escL_one, hesc.out, nums_append]; exact HB3.out⟩, HP3⟩
        case measure => simp [intOf]; omega
    · obtain rfl : k = s.size := by omega
      have hsm := escL_small _ (bytesOf_small s)
      have hfull : (bytesOf s).take s.size = bytesOf s := by rw [← bytesOf_length]; exact List.take_length
      rw [hfull, ← byteCells_nums _ hsm] at hB
      have HS := Aside0.mk (Builder_String_any w.heap.size w.heap.size ((escL (bytesOf s)).map fun n => UInt8.ofNat n.toNat) wr (hB.out.lib _ (by omega) (Nat.le_refl _)) (by omega))
      have HL := Aside0.mk (HK.out.trans (hP.out.less w.heap.size (by omega) (Nat.le_refl _)))
      clear hsm hfull hB hP hsz2
      go_wp2_with fail
      refine HS.out.mono ?_
      rintro e w3 ⟨rfl, hb3⟩
      have HL2 := Aside0.mk (HL.out.trans hb3)
      clear hb3 HS HL
      go_wp2_with fail
      go_ret
      exact ⟨rfl, HL2.out⟩
end Go.Proofs.Ytkojlnjhndnfkaa
