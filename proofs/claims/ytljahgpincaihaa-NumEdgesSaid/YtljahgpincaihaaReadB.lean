/- num.ReadBase's reckoning walked. -/
import Derived.Test.YtljahgpincaihaaReads
namespace Go.Proofs.Ytljahgpincaihaa
set_option linter.unusedVariables false
set_option linter.unusedSimpArgs false
open Go.RowKit Go.Proofs.YtljahgpincaihaaW.PrintWords

theorem baseL_length {n w : Int} {l : List Int} (h : baseL n w = some l) : (l.length : Int) = w := by
  unfold baseL at h
  split at h
  · rename_i h1
    obtain rfl := Option.some.inj h
    simp only [List.length_cons, by8_length]
    omega
  · cases h
theorem baseL_range {n w : Int} {l : List Int} (h : baseL n w = some l) : ∀ x ∈ l, 0 ≤ x ∧ x < 256 := by
  unfold baseL at h
  split at h
  · obtain rfl := Option.some.inj h
    intro x hx
    rcases List.mem_cons.1 hx with rfl | hx
    · split <;> omega
    · exact by8_range _ _ x hx
  · cases h
/-- What stands ahead of the first byte. -/
def fi (s : ByteArray) : Int := if bt s 0 = 255 then -1 else 0
theorem rdB_is (s : ByteArray) (h : 1 ≤ s.size) (n : Int) (hn : n = fb (fi s) ((bytesOf s).drop 1)) : rdB (bytesOf s) = if baseL n s.size = some (bytesOf s) then some n else none := by
  have hd := bytesOf_drop s 0 (by omega)
  rw [List.drop_zero] at hd
  have hh : (bytesOf s).head? = some (bt s 0) := by rw [hd]; rfl
  have ht : (bytesOf s).tail = (bytesOf s).drop 1 := by rw [List.drop_one]
  have hf : (if (bytesOf s).head? = some 255 then (-1 : Int) else 0) = fi s := by
    unfold fi
    rw [hh]
    by_cases h : bt s 0 = 255
    · rw [if_pos h, if_pos (by rw [h])]
    · rw [if_neg h, if_neg (fun e => h (Option.some.inj e))]
  unfold rdB
  rw [hf, ht, ← hn, bytesOf_length]
set_option maxHeartbeats 4000000 in
set_option maxRecDepth 100000 in
theorem rdbase_reck (g : Nat) (s : ByteArray) (hs : s.size ≤ 140737488351232) (W : World) (hb : W.heap[g]? = some (.cells #[.string s] 9 (0, 0))) :
    Calls Try.prog 30 #[.pointer (some ⟨g, 0, none⟩)] W (Reck_n (rdB (bytesOf s)) W) := by
  have HWI := Aside0.mk (wide_calls s.size)
  have HMT := Aside0.mk must_true
  have HMF := Aside0.mk must_false
  have HB0 := Aside0.mk hb
  have c0 : W.cell? ⟨g, 0, none⟩ = some (.string s) := (blk_cell hb 0).trans rfl
  clear hb
  by_cases hm : (s.size : Int) = 8 ∨ (s.size : Int) = 12
  · have hw : ((s.size : Int) == 8 || (s.size : Int) == 12) = true := by rcases hm with h | h <;> simp [h]
    rw [hw] at HWI
    have kb := fun W => print_bytes (P := Try.prog) 9 34 5 Try.underlying9 Try.underlying34 Try.underlying5 (s.extract 1 s.size) W
    have HC : Aside0 (∀ w, ∀ j, j < (s.extract 1 s.size).size → (Lib.bytesWorld w 5 (s.extract 1 s.size)).cell? ⟨w.heap.size, j, none⟩ = some (.int .u8 (bt (s.extract 1 s.size) j))) := ⟨fun w j hj => by
      obtain ⟨ad, e1, hc⟩ := (bytes_reads w 5 (s.extract 1 s.size) (by rw [ByteArray.size_extract]; omega)).at_ (j : Int) (Int.natCast_nonneg _) (by omega)
      obtain rfl := Option.some.inj e1
      rw [add_plain, rd_bytesOf, Int.toNat_natCast] at hc
      exact hc⟩
    have HTB : Aside0 (bytesOf (s.extract 1 s.size) = (bytesOf s).drop 1) := ⟨by rw [bytesOf_extract, List.take_of_length_le (by rw [bytesOf_length]; exact Nat.le_refl _)]⟩
    have htz : (s.extract 1 s.size).size ≤ 12 := by rw [ByteArray.size_extract]; omega
    have HRB := Aside0.mk (rdB_is s (by omega))
    have q0 : ((0 : Int) < (s.size : Int)) = True := eq_true (by omega)
    have q00 : ((1 : Int) ≤ (s.size : Int)) = True := eq_true (by omega)
    have hx0 : ∀ h : 0 < s.size, ((s[0]'h).toNat : Int) = bt s 0 := fun h => bt_at s 0 (by simpa using h)
    have HB1 : Aside0 (Below W.heap.size W (Lib.bytesWorld W 5 (s.extract 1 s.size))) := ⟨bytes_below (Below.refl _ _) (Nat.le_refl _) 5 _⟩
    have HC1 := Aside0.mk (HC.out W)
    have HE1 : Aside0 ((Lib.bytesWorld W 5 (s.extract 1 s.size)).heap[g]? = some (.cells #[.string s] 9 (0, 0))) := ⟨(HB1.out.block g (blk_lt HB0.out)).trans HB0.out⟩
    have hfi : bt s 0 = 255 ∨ ¬ bt s 0 = 255 := Classical.em _
    have HF1 : Aside0 (bt s 0 = 255 → fi s = -1) := ⟨fun h => by unfold fi; rw [if_pos h]⟩
    have HF0 : Aside0 (¬ bt s 0 = 255 → fi s = 0) := ⟨fun h => by unfold fi; rw [if_neg h]⟩
    generalize bt s 0 = c at *
    rcases hfi with hfi | hfi
    · have k255 : (c == 255) = true := beq_iff_eq.mpr hfi
      have HFI := Aside0.mk (HF1.out hfi)
      clear hfi
      go_enter Try.func30, Try.ntmps30
      go_wp2_with fail
      refine (HWI.out _).mono ?_
      rintro e w1 ⟨rfl, rfl⟩
      go_wp2_with fail
      refine (HMT.out _).mono ?_
      rintro e w1 ⟨rfl, rfl⟩
      go_wp2_with fail
      have c0 : (Lib.bytesWorld w1 5 (s.extract 1 s.size)).cell? ⟨g, 0, none⟩ = some (.string s) := (blk_cell HE1.out 0).trans rfl
      generalize Lib.bytesWorld w1 5 (s.extract 1 s.size) = W2 at *
      have hzt : (s.extract 1 s.size).size = s.size - 1 := by rw [ByteArray.size_extract]; omega
      generalize s.extract 1 s.size = t at *
      have hzb : s.size - 1 ≤ 11 := by omega
      generalize s.size - 1 = z at *
      have HZT := Aside0.mk hzt
      clear hzt
      go_loop [2, 16] (fun v2 v16 => ∃ (n : Int) (k : Nat), v2 = .int .i64 n ∧ v16 = .int .i64 k ∧ k ≤ z ∧ Aside0 (-9223372036854775808 ≤ n ∧ n < 9223372036854775808) ∧ Aside0 (fb (-1) (bytesOf t) = fb n ((bytesOf t).drop k))) (fun _ v16 => z - (intOf v16).toNat)
      case atStart => exact ⟨-1, 0, rfl, rfl, by omega, ⟨by omega⟩, ⟨by rw [List.drop_zero]⟩⟩
      case round =>
        obtain ⟨n, k, rfl, rfl, hk, HR, HG⟩ := hrel
        by_cases hlt : k < z
        · have hcell := HC1.out k (by have := HZT.out; omega)
          have hdr := Aside0.mk (bytesOf_drop t k (by have := HZT.out; omega))
          have hcr := bt_range t k
          generalize bt t k = d at *
          have q0 : (0 ≤ (k : Int)) = True := eq_true (by omega)
          have q1 : ((k : Int) < (z : Int)) = True := eq_true (by omega)
          have q2 : decide ((k : Int) < (z : Int)) = true := decide_eq_true (by omega)
          have HR2 : Aside0 (-9223372036854775808 ≤ Go.bits .or .i64 (wrap64 (n * 256)) d ∧ Go.bits .or .i64 (wrap64 (n * 256)) d < 9223372036854775808) := ⟨bits_range _ _ _⟩
          have HG2 : Aside0 (fb (-1) (bytesOf t) = fb (Go.bits .or .i64 (wrap64 (n * 256)) d) ((bytesOf t).drop (k + 1))) := ⟨by rw [HG.out, hdr.out, fb]⟩
          go_wp2_with fail
          go_round
          case rel => exact ⟨_, k + 1, rfl, by go_num, by omega, HR2, HG2⟩
          case measure => simp [intOf]; omega
        · obtain rfl : k = z := by omega
          have q2 : decide ((k : Int) < (k : Int)) = false := decide_eq_false (by omega)
          have hn : n = fb (fi s) ((bytesOf s).drop 1) := by
            rw [← HTB.out, HFI.out, HG.out, show (bytesOf t).drop k = [] from List.drop_eq_nil_of_le (by rw [bytesOf_length]; have := HZT.out; omega)]
            rfl
          have HQ := Aside0.mk (base_ends n s.size HR.out.1 HR.out.2)
          have HZ := Aside0.mk (HRB.out n hn)
          clear hn hlt
          go_wp2_with fail
          have HB2 : Aside0 (∀ wx, Below W2.drew.heap.size W2.drew wx → Below w1.heap.size w1 wx) := ⟨fun wx h => below_then (below_drew HB1.out) HB1.out.size h⟩
          have HTX : Aside0 (∀ wx wy, Below wx.heap.size wx wy → wx.cell? ⟨g, 0, none⟩ = some (.string s) → wy.cell? ⟨g, 0, none⟩ = some (.string s)) := ⟨fun wx wy h hc => pw_cell_below h hc⟩
          cases hL : baseL n s.size with
          | none =>
            rw [hL] at HQ HZ
            rw [if_neg (by simp)] at HZ
            have HFIN : Aside0 (∀ w', Below w1.heap.size w1 w' → Reck_n (rdB (bytesOf s)) w1 noField w') := ⟨fun w' hw => by unfold Reck_n; rw [HZ.out]; exact ⟨rfl, hw⟩⟩
            clear hL
            refine wp_region_held_drew (S := fun w' => w'.cell? ⟨g, 0, none⟩ = some (.string s)) (by kernel_rfl) (by exact c0) (fun hS => ?_)
            refine wpAnyH_take (i := 0) (v := .int .i64 n) rfl (by kernel_rfl) (by kernel_rfl) (by kernel_rfl) (fun _ _ _ h => h) (Or.inl ⟨by rfl, ?_⟩) hS ?_
            · intro w hSw; (try dsimp only at hSw); go_simp
            try simp only [Act.put, List.setIfInBounds_toArray, List.set_cons_zero, List.set_cons_succ]
            refine wpAnyH_take (i := 1) (v := .string s) rfl (by kernel_rfl) (by kernel_rfl) (by kernel_rfl) (fun _ _ _ h => h) (Or.inl ⟨by rfl, ?_⟩) hS ?_
            · intro w hSw; (try dsimp only at hSw); go_simp
            try simp only [Act.put, List.setIfInBounds_toArray, List.set_cons_zero, List.set_cons_succ]
            refine wpAnyH_take (i := 2) (v := .int .i64 s.size) rfl (by kernel_rfl) (by kernel_rfl) (by kernel_rfl) (fun _ _ _ h => h) (Or.inl ⟨by rfl, ?_⟩) hS ?_
            · intro w hSw; (try dsimp only at hSw); go_simp
            try simp only [Act.put, List.setIfInBounds_toArray, List.set_cons_zero, List.set_cons_succ]
            refine wpAnyH_take (i := 4) (v := .string s) rfl (by kernel_rfl) (by kernel_rfl) (by kernel_rfl) (fun _ _ _ h => h) (Or.inl ⟨by rfl, ?_⟩) hS ?_
            · intro w hSw; (try dsimp only at hSw); go_simp
            try simp only [Act.put, List.setIfInBounds_toArray, List.set_cons_zero, List.set_cons_succ]
            refine wpAnyH_ready (rs := [3]) (by kernel_rfl) (by simp) ?_
            refine AllReadyH.cons rfl (fun K hK => ?_) AllReadyH.nil
            go_simp
            refine (HQ.out _).mono ?_
            rintro e wx ⟨he, hx⟩
            obtain rfl := he
            exact ⟨rfl, HFIN.out _ (HB2.out _ hx)⟩
          | some l =>
            have HL := baseL_range hL
            rw [hL] at HQ HZ
            by_cases heq : l = bytesOf s
            · have k0 : ((strOfNums l).toList == s.toList) = true := by rw [beq_iff_eq, toList_inj, heq, nums_bytesOf]
              rw [if_pos (by rw [heq])] at HZ
              have HFIN : Aside0 (∀ w', Below w1.heap.size w1 w' → Reck_n (rdB (bytesOf s)) w1 (.returned (.int .i64 n)) w') := ⟨fun w' hw => by unfold Reck_n; rw [HZ.out]; exact ⟨rfl, hw⟩⟩
              clear HL hL heq
              refine wp_region_held_drew (S := fun w' => w'.cell? ⟨g, 0, none⟩ = some (.string s)) (by kernel_rfl) (by exact c0) (fun hS => ?_)
              refine wpAnyH_take (i := 0) (v := .int .i64 n) rfl (by kernel_rfl) (by kernel_rfl) (by kernel_rfl) (fun _ _ _ h => h) (Or.inl ⟨by rfl, ?_⟩) hS ?_
              · intro w hSw; (try dsimp only at hSw); go_simp
              try simp only [Act.put, List.setIfInBounds_toArray, List.set_cons_zero, List.set_cons_succ]
              refine wpAnyH_take (i := 1) (v := .string s) rfl (by kernel_rfl) (by kernel_rfl) (by kernel_rfl) (fun _ _ _ h => h) (Or.inl ⟨by rfl, ?_⟩) hS ?_
              · intro w hSw; (try dsimp only at hSw); go_simp
              try simp only [Act.put, List.setIfInBounds_toArray, List.set_cons_zero, List.set_cons_succ]
              refine wpAnyH_take (i := 2) (v := .int .i64 s.size) rfl (by kernel_rfl) (by kernel_rfl) (by kernel_rfl) (fun _ _ _ h => h) (Or.inl ⟨by rfl, ?_⟩) hS ?_
              · intro w hSw; (try dsimp only at hSw); go_simp
              try simp only [Act.put, List.setIfInBounds_toArray, List.set_cons_zero, List.set_cons_succ]
              refine wpAnyH_take (i := 4) (v := .string s) rfl (by kernel_rfl) (by kernel_rfl) (by kernel_rfl) (fun _ _ _ h => h) (Or.inl ⟨by rfl, ?_⟩) hS ?_
              · intro w hSw; (try dsimp only at hSw); go_simp
              try simp only [Act.put, List.setIfInBounds_toArray, List.set_cons_zero, List.set_cons_succ]
              refine wpAnyH_ready (rs := [3]) (by kernel_rfl) (by simp) ?_
              refine AllReadyH.cons rfl (fun K hK => ?_) AllReadyH.nil
              go_simp
              refine (HQ.out _).mono ?_
              rintro e wx ⟨he, hx⟩
              obtain rfl := he
              refine hK.out _ _ (HTX.out _ _ hx c0) (fun hS => ?_)
              clear hK K
              replace hx := Aside0.mk hx
              refine wpAnyH_take (i := 5) (v := .bool true) rfl (by kernel_rfl) (by kernel_rfl) (by kernel_rfl) (fun _ _ _ h => h) (Or.inl ⟨by rfl, ?_⟩) hS ?_
              · intro w hSw; (try dsimp only at hSw); go_simp
              try simp only [Act.put, List.setIfInBounds_toArray, List.set_cons_zero, List.set_cons_succ]
              refine wpAnyH_ready (rs := [6]) (by kernel_rfl) (by simp) ?_
              refine AllReadyH.cons rfl (fun K hK => ?_) AllReadyH.nil
              go_simp
              refine (HMT.out _).mono ?_
              rintro e wx ⟨rfl, rfl⟩
              refine hK.out _ _ hS (fun hS => ?_)
              clear hK K
              refine wpAnyH_done (by kernel_rfl) ?_ _
              go_wp2_with fail
              go_ret
              exact HFIN.out _ (HB2.out _ hx.out)
            · have k0 : ((strOfNums l).toList == s.toList) = false := by rw [beq_eq_false_iff_ne, Ne, toList_inj]; exact fun h => heq (by rw [← h, bytesOf_nums l HL])
              rw [if_neg (fun h => heq (Option.some.inj h))] at HZ
              have HFIN : Aside0 (∀ w', Below w1.heap.size w1 w' → Reck_n (rdB (bytesOf s)) w1 noField w') := ⟨fun w' hw => by unfold Reck_n; rw [HZ.out]; exact ⟨rfl, hw⟩⟩
              clear HL hL heq
              refine wp_region_held_drew (S := fun w' => w'.cell? ⟨g, 0, none⟩ = some (.string s)) (by kernel_rfl) (by exact c0) (fun hS => ?_)
              refine wpAnyH_take (i := 0) (v := .int .i64 n) rfl (by kernel_rfl) (by kernel_rfl) (by kernel_rfl) (fun _ _ _ h => h) (Or.inl ⟨by rfl, ?_⟩) hS ?_
              · intro w hSw; (try dsimp only at hSw); go_simp
              try simp only [Act.put, List.setIfInBounds_toArray, List.set_cons_zero, List.set_cons_succ]
              refine wpAnyH_take (i := 1) (v := .string s) rfl (by kernel_rfl) (by kernel_rfl) (by kernel_rfl) (fun _ _ _ h => h) (Or.inl ⟨by rfl, ?_⟩) hS ?_
              · intro w hSw; (try dsimp only at hSw); go_simp
              try simp only [Act.put, List.setIfInBounds_toArray, List.set_cons_zero, List.set_cons_succ]
              refine wpAnyH_take (i := 2) (v := .int .i64 s.size) rfl (by kernel_rfl) (by kernel_rfl) (by kernel_rfl) (fun _ _ _ h => h) (Or.inl ⟨by rfl, ?_⟩) hS ?_
              · intro w hSw; (try dsimp only at hSw); go_simp
              try simp only [Act.put, List.setIfInBounds_toArray, List.set_cons_zero, List.set_cons_succ]
              refine wpAnyH_take (i := 4) (v := .string s) rfl (by kernel_rfl) (by kernel_rfl) (by kernel_rfl) (fun _ _ _ h => h) (Or.inl ⟨by rfl, ?_⟩) hS ?_
              · intro w hSw; (try dsimp only at hSw); go_simp
              try simp only [Act.put, List.setIfInBounds_toArray, List.set_cons_zero, List.set_cons_succ]
              refine wpAnyH_ready (rs := [3]) (by kernel_rfl) (by simp) ?_
              refine AllReadyH.cons rfl (fun K hK => ?_) AllReadyH.nil
              go_simp
              refine (HQ.out _).mono ?_
              rintro e wx ⟨he, hx⟩
              obtain rfl := he
              refine hK.out _ _ (HTX.out _ _ hx c0) (fun hS => ?_)
              clear hK K
              replace hx := Aside0.mk hx
              refine wpAnyH_take (i := 5) (v := .bool false) rfl (by kernel_rfl) (by kernel_rfl) (by kernel_rfl) (fun _ _ _ h => h) (Or.inl ⟨by rfl, ?_⟩) hS ?_
              · intro w hSw; (try dsimp only at hSw); go_simp
              try simp only [Act.put, List.setIfInBounds_toArray, List.set_cons_zero, List.set_cons_succ]
              refine wpAnyH_ready (rs := [6]) (by kernel_rfl) (by simp) ?_
              refine AllReadyH.cons rfl (fun K hK => ?_) AllReadyH.nil
              go_simp
              refine (HMF.out _).mono ?_
              rintro e wx ⟨rfl, rfl⟩
              exact ⟨rfl, HFIN.out _ (HB2.out _ hx.out)⟩
    · have k255 : (c == 255) = false := beq_eq_false_iff_ne.mpr hfi
      have HFI := Aside0.mk (HF0.out hfi)
      clear hfi
      go_enter Try.func30, Try.ntmps30
      go_wp2_with fail
      refine (HWI.out _).mono ?_
      rintro e w1 ⟨rfl, rfl⟩
      go_wp2_with fail
      refine (HMT.out _).mono ?_
      rintro e w1 ⟨rfl, rfl⟩
      go_wp2_with fail
      have c0 : (Lib.bytesWorld w1 5 (s.extract 1 s.size)).cell? ⟨g, 0, none⟩ = some (.string s) := (blk_cell HE1.out 0).trans rfl
      generalize Lib.bytesWorld w1 5 (s.extract 1 s.size) = W2 at *
      have hzt : (s.extract 1 s.size).size = s.size - 1 := by rw [ByteArray.size_extract]; omega
      generalize s.extract 1 s.size = t at *
      have hzb : s.size - 1 ≤ 11 := by omega
      generalize s.size - 1 = z at *
      have HZT := Aside0.mk hzt
      clear hzt
      go_loop [2, 16] (fun v2 v16 => ∃ (n : Int) (k : Nat), v2 = .int .i64 n ∧ v16 = .int .i64 k ∧ k ≤ z ∧ Aside0 (-9223372036854775808 ≤ n ∧ n < 9223372036854775808) ∧ Aside0 (fb (0) (bytesOf t) = fb n ((bytesOf t).drop k))) (fun _ v16 => z - (intOf v16).toNat)
      case atStart => exact ⟨0, 0, rfl, rfl, by omega, ⟨by omega⟩, ⟨by rw [List.drop_zero]⟩⟩
      case round =>
        obtain ⟨n, k, rfl, rfl, hk, HR, HG⟩ := hrel
        by_cases hlt : k < z
        · have hcell := HC1.out k (by have := HZT.out; omega)
          have hdr := Aside0.mk (bytesOf_drop t k (by have := HZT.out; omega))
          have hcr := bt_range t k
          generalize bt t k = d at *
          have q0 : (0 ≤ (k : Int)) = True := eq_true (by omega)
          have q1 : ((k : Int) < (z : Int)) = True := eq_true (by omega)
          have q2 : decide ((k : Int) < (z : Int)) = true := decide_eq_true (by omega)
          have HR2 : Aside0 (-9223372036854775808 ≤ Go.bits .or .i64 (wrap64 (n * 256)) d ∧ Go.bits .or .i64 (wrap64 (n * 256)) d < 9223372036854775808) := ⟨bits_range _ _ _⟩
          have HG2 : Aside0 (fb (0) (bytesOf t) = fb (Go.bits .or .i64 (wrap64 (n * 256)) d) ((bytesOf t).drop (k + 1))) := ⟨by rw [HG.out, hdr.out, fb]⟩
          go_wp2_with fail
          go_round
          case rel => exact ⟨_, k + 1, rfl, by go_num, by omega, HR2, HG2⟩
          case measure => simp [intOf]; omega
        · obtain rfl : k = z := by omega
          have q2 : decide ((k : Int) < (k : Int)) = false := decide_eq_false (by omega)
          have hn : n = fb (fi s) ((bytesOf s).drop 1) := by
            rw [← HTB.out, HFI.out, HG.out, show (bytesOf t).drop k = [] from List.drop_eq_nil_of_le (by rw [bytesOf_length]; have := HZT.out; omega)]
            rfl
          have HQ := Aside0.mk (base_ends n s.size HR.out.1 HR.out.2)
          have HZ := Aside0.mk (HRB.out n hn)
          clear hn hlt
          go_wp2_with fail
          have HB2 : Aside0 (∀ wx, Below W2.drew.heap.size W2.drew wx → Below w1.heap.size w1 wx) := ⟨fun wx h => below_then (below_drew HB1.out) HB1.out.size h⟩
          have HTX : Aside0 (∀ wx wy, Below wx.heap.size wx wy → wx.cell? ⟨g, 0, none⟩ = some (.string s) → wy.cell? ⟨g, 0, none⟩ = some (.string s)) := ⟨fun wx wy h hc => pw_cell_below h hc⟩
          cases hL : baseL n s.size with
          | none =>
            rw [hL] at HQ HZ
            rw [if_neg (by simp)] at HZ
            have HFIN : Aside0 (∀ w', Below w1.heap.size w1 w' → Reck_n (rdB (bytesOf s)) w1 noField w') := ⟨fun w' hw => by unfold Reck_n; rw [HZ.out]; exact ⟨rfl, hw⟩⟩
            clear hL
            refine wp_region_held_drew (S := fun w' => w'.cell? ⟨g, 0, none⟩ = some (.string s)) (by kernel_rfl) (by exact c0) (fun hS => ?_)
            refine wpAnyH_take (i := 0) (v := .int .i64 n) rfl (by kernel_rfl) (by kernel_rfl) (by kernel_rfl) (fun _ _ _ h => h) (Or.inl ⟨by rfl, ?_⟩) hS ?_
            · intro w hSw; (try dsimp only at hSw); go_simp
            try simp only [Act.put, List.setIfInBounds_toArray, List.set_cons_zero, List.set_cons_succ]
            refine wpAnyH_take (i := 1) (v := .string s) rfl (by kernel_rfl) (by kernel_rfl) (by kernel_rfl) (fun _ _ _ h => h) (Or.inl ⟨by rfl, ?_⟩) hS ?_
            · intro w hSw; (try dsimp only at hSw); go_simp
            try simp only [Act.put, List.setIfInBounds_toArray, List.set_cons_zero, List.set_cons_succ]
            refine wpAnyH_take (i := 2) (v := .int .i64 s.size) rfl (by kernel_rfl) (by kernel_rfl) (by kernel_rfl) (fun _ _ _ h => h) (Or.inl ⟨by rfl, ?_⟩) hS ?_
            · intro w hSw; (try dsimp only at hSw); go_simp
            try simp only [Act.put, List.setIfInBounds_toArray, List.set_cons_zero, List.set_cons_succ]
            refine wpAnyH_take (i := 4) (v := .string s) rfl (by kernel_rfl) (by kernel_rfl) (by kernel_rfl) (fun _ _ _ h => h) (Or.inl ⟨by rfl, ?_⟩) hS ?_
            · intro w hSw; (try dsimp only at hSw); go_simp
            try simp only [Act.put, List.setIfInBounds_toArray, List.set_cons_zero, List.set_cons_succ]
            refine wpAnyH_ready (rs := [3]) (by kernel_rfl) (by simp) ?_
            refine AllReadyH.cons rfl (fun K hK => ?_) AllReadyH.nil
            go_simp
            refine (HQ.out _).mono ?_
            rintro e wx ⟨he, hx⟩
            obtain rfl := he
            exact ⟨rfl, HFIN.out _ (HB2.out _ hx)⟩
          | some l =>
            have HL := baseL_range hL
            rw [hL] at HQ HZ
            by_cases heq : l = bytesOf s
            · have k0 : ((strOfNums l).toList == s.toList) = true := by rw [beq_iff_eq, toList_inj, heq, nums_bytesOf]
              rw [if_pos (by rw [heq])] at HZ
              have HFIN : Aside0 (∀ w', Below w1.heap.size w1 w' → Reck_n (rdB (bytesOf s)) w1 (.returned (.int .i64 n)) w') := ⟨fun w' hw => by unfold Reck_n; rw [HZ.out]; exact ⟨rfl, hw⟩⟩
              clear HL hL heq
              refine wp_region_held_drew (S := fun w' => w'.cell? ⟨g, 0, none⟩ = some (.string s)) (by kernel_rfl) (by exact c0) (fun hS => ?_)
              refine wpAnyH_take (i := 0) (v := .int .i64 n) rfl (by kernel_rfl) (by kernel_rfl) (by kernel_rfl) (fun _ _ _ h => h) (Or.inl ⟨by rfl, ?_⟩) hS ?_
              · intro w hSw; (try dsimp only at hSw); go_simp
              try simp only [Act.put, List.setIfInBounds_toArray, List.set_cons_zero, List.set_cons_succ]
              refine wpAnyH_take (i := 1) (v := .string s) rfl (by kernel_rfl) (by kernel_rfl) (by kernel_rfl) (fun _ _ _ h => h) (Or.inl ⟨by rfl, ?_⟩) hS ?_
              · intro w hSw; (try dsimp only at hSw); go_simp
              try simp only [Act.put, List.setIfInBounds_toArray, List.set_cons_zero, List.set_cons_succ]
              refine wpAnyH_take (i := 2) (v := .int .i64 s.size) rfl (by kernel_rfl) (by kernel_rfl) (by kernel_rfl) (fun _ _ _ h => h) (Or.inl ⟨by rfl, ?_⟩) hS ?_
              · intro w hSw; (try dsimp only at hSw); go_simp
              try simp only [Act.put, List.setIfInBounds_toArray, List.set_cons_zero, List.set_cons_succ]
              refine wpAnyH_take (i := 4) (v := .string s) rfl (by kernel_rfl) (by kernel_rfl) (by kernel_rfl) (fun _ _ _ h => h) (Or.inl ⟨by rfl, ?_⟩) hS ?_
              · intro w hSw; (try dsimp only at hSw); go_simp
              try simp only [Act.put, List.setIfInBounds_toArray, List.set_cons_zero, List.set_cons_succ]
              refine wpAnyH_ready (rs := [3]) (by kernel_rfl) (by simp) ?_
              refine AllReadyH.cons rfl (fun K hK => ?_) AllReadyH.nil
              go_simp
              refine (HQ.out _).mono ?_
              rintro e wx ⟨he, hx⟩
              obtain rfl := he
              refine hK.out _ _ (HTX.out _ _ hx c0) (fun hS => ?_)
              clear hK K
              replace hx := Aside0.mk hx
              refine wpAnyH_take (i := 5) (v := .bool true) rfl (by kernel_rfl) (by kernel_rfl) (by kernel_rfl) (fun _ _ _ h => h) (Or.inl ⟨by rfl, ?_⟩) hS ?_
              · intro w hSw; (try dsimp only at hSw); go_simp
              try simp only [Act.put, List.setIfInBounds_toArray, List.set_cons_zero, List.set_cons_succ]
              refine wpAnyH_ready (rs := [6]) (by kernel_rfl) (by simp) ?_
              refine AllReadyH.cons rfl (fun K hK => ?_) AllReadyH.nil
              go_simp
              refine (HMT.out _).mono ?_
              rintro e wx ⟨rfl, rfl⟩
              refine hK.out _ _ hS (fun hS => ?_)
              clear hK K
              refine wpAnyH_done (by kernel_rfl) ?_ _
              go_wp2_with fail
              go_ret
              exact HFIN.out _ (HB2.out _ hx.out)
            · have k0 : ((strOfNums l).toList == s.toList) = false := by rw [beq_eq_false_iff_ne, Ne, toList_inj]; exact fun h => heq (by rw [← h, bytesOf_nums l HL])
              rw [if_neg (fun h => heq (Option.some.inj h))] at HZ
              have HFIN : Aside0 (∀ w', Below w1.heap.size w1 w' → Reck_n (rdB (bytesOf s)) w1 noField w') := ⟨fun w' hw => by unfold Reck_n; rw [HZ.out]; exact ⟨rfl, hw⟩⟩
              clear HL hL heq
              refine wp_region_held_drew (S := fun w' => w'.cell? ⟨g, 0, none⟩ = some (.string s)) (by kernel_rfl) (by exact c0) (fun hS => ?_)
              refine wpAnyH_take (i := 0) (v := .int .i64 n) rfl (by kernel_rfl) (by kernel_rfl) (by kernel_rfl) (fun _ _ _ h => h) (Or.inl ⟨by rfl, ?_⟩) hS ?_
              · intro w hSw; (try dsimp only at hSw); go_simp
              try simp only [Act.put, List.setIfInBounds_toArray, List.set_cons_zero, List.set_cons_succ]
              refine wpAnyH_take (i := 1) (v := .string s) rfl (by kernel_rfl) (by kernel_rfl) (by kernel_rfl) (fun _ _ _ h => h) (Or.inl ⟨by rfl, ?_⟩) hS ?_
              · intro w hSw; (try dsimp only at hSw); go_simp
              try simp only [Act.put, List.setIfInBounds_toArray, List.set_cons_zero, List.set_cons_succ]
              refine wpAnyH_take (i := 2) (v := .int .i64 s.size) rfl (by kernel_rfl) (by kernel_rfl) (by kernel_rfl) (fun _ _ _ h => h) (Or.inl ⟨by rfl, ?_⟩) hS ?_
              · intro w hSw; (try dsimp only at hSw); go_simp
              try simp only [Act.put, List.setIfInBounds_toArray, List.set_cons_zero, List.set_cons_succ]
              refine wpAnyH_take (i := 4) (v := .string s) rfl (by kernel_rfl) (by kernel_rfl) (by kernel_rfl) (fun _ _ _ h => h) (Or.inl ⟨by rfl, ?_⟩) hS ?_
              · intro w hSw; (try dsimp only at hSw); go_simp
              try simp only [Act.put, List.setIfInBounds_toArray, List.set_cons_zero, List.set_cons_succ]
              refine wpAnyH_ready (rs := [3]) (by kernel_rfl) (by simp) ?_
              refine AllReadyH.cons rfl (fun K hK => ?_) AllReadyH.nil
              go_simp
              refine (HQ.out _).mono ?_
              rintro e wx ⟨he, hx⟩
              obtain rfl := he
              refine hK.out _ _ (HTX.out _ _ hx c0) (fun hS => ?_)
              clear hK K
              replace hx := Aside0.mk hx
              refine wpAnyH_take (i := 5) (v := .bool false) rfl (by kernel_rfl) (by kernel_rfl) (by kernel_rfl) (fun _ _ _ h => h) (Or.inl ⟨by rfl, ?_⟩) hS ?_
              · intro w hSw; (try dsimp only at hSw); go_simp
              try simp only [Act.put, List.setIfInBounds_toArray, List.set_cons_zero, List.set_cons_succ]
              refine wpAnyH_ready (rs := [6]) (by kernel_rfl) (by simp) ?_
              refine AllReadyH.cons rfl (fun K hK => ?_) AllReadyH.nil
              go_simp
              refine (HMF.out _).mono ?_
              rintro e wx ⟨rfl, rfl⟩
              exact ⟨rfl, HFIN.out _ (HB2.out _ hx.out)⟩
  · have hw : ((s.size : Int) == 8 || (s.size : Int) == 12) = false := by
      rw [Bool.or_eq_false_iff]
      exact ⟨beq_eq_false_iff_ne.mpr fun h => hm (.inl h), beq_eq_false_iff_ne.mpr fun h => hm (.inr h)⟩
    rw [hw] at HWI
    have HZ : Aside0 (rdB (bytesOf s) = none) := ⟨by unfold rdB; rw [bytesOf_length, baseL_none (fun h => hm h.1), if_neg (by simp)]⟩
    go_enter Try.func30, Try.ntmps30
    go_wp2_with fail
    refine (HWI.out _).mono ?_
    rintro e w1 ⟨rfl, rfl⟩
    go_wp2_with fail
    refine (HMF.out _).mono ?_
    rintro e w1 ⟨rfl, rfl⟩
    unfold Reck_n
    rw [HZ.out]
    exact ⟨rfl, rfl, Below.refl _ _⟩
end Go.Proofs.Ytljahgpincaihaa
