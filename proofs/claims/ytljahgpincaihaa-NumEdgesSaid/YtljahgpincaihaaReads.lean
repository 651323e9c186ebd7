/- num.ReadOctal and num.ReadBase walked. -/
import Derived.Test.YtljahgpincaihaaDoors
import Derived.Test.YtljahgpincaihaaGBx1
import Derived.Deep.RegionHeld3
namespace Go.Proofs.Ytljahgpincaihaa
set_option linter.unusedVariables false
set_option linter.unusedSimpArgs false
open Go.RowKit Go.Proofs.YtljahgpincaihaaW.PrintWords

theorem toList_inj {a b : ByteArray} : a.toList = b.toList ↔ a = b := by
  constructor
  · intro h
    rw [ByteArray.toList_eq, ByteArray.toList_eq] at h
    exact ByteArray.ext (Array.ext' h)
  · intro h; rw [h]
theorem bytesOf_inj {a b : ByteArray} : bytesOf a = bytesOf b ↔ a = b := ⟨fun h => by rw [← nums_bytesOf a, h, nums_bytesOf], fun h => by rw [h]⟩
/-- A text without one byte 0 at its end. -/
def trimS (s : ByteArray) : ByteArray := if 1 ≤ s.size ∧ bt s ((s.size - 1 : Nat) : Int) = 0 then s.extract 0 (s.size - 1) else s
theorem last_is (s : ByteArray) (h : 1 ≤ s.size) : (s.extract (s.size - 1) s.size).toList = ((⟨#[0]⟩ : ByteArray)).toList ↔ bt s ((s.size - 1 : Nat) : Int) = 0 := by
  have h1 := bytesOf_drop s (s.size - 1) (by omega)
  rw [show s.size - 1 + 1 = s.size from by omega, show (bytesOf s).drop s.size = [] from List.drop_eq_nil_of_le (by rw [bytesOf_length]; exact Nat.le_refl _)] at h1
  rw [toList_inj, ← bytesOf_inj, bytesOf_extract, List.take_of_length_le (by rw [bytesOf_length]; omega), h1]
  constructor
  · intro h; have := (List.cons.inj h).1; simpa using this
  · intro h; rw [h]; rfl
theorem trim_f (s : ByteArray) (hs : s.size ≤ 140737488351232) : GB.strings_TrimSuffix.f s ⟨#[0]⟩ = some (trimS s) := by
  unfold GB.strings_TrimSuffix.f GB.stringslite_TrimSuffix.f GB.stringslite_HasSuffix.f trimS
  have h1 : ((⟨#[0]⟩ : ByteArray).size : Int) = 1 := rfl
  rw [h1]
  by_cases h : 1 ≤ s.size
  · have hw : wrap64 ((s.size : Int) - 1) = ((s.size - 1 : Nat) : Int) := by unfold wrap64; omega
    rw [if_pos (by omega), hw, if_pos (by omega), if_pos (by omega), Int.toNat_natCast]
    by_cases hb : bt s ((s.size - 1 : Nat) : Int) = 0
    · rw [Option.bind_some, if_pos (by rw [beq_iff_eq]; exact (last_is s h).2 hb), if_pos (by omega), if_pos (by omega), if_pos ⟨h, hb⟩]; rfl
    · rw [Option.bind_some, if_neg (by rw [beq_iff_eq]; exact fun e => hb ((last_is s h).1 e)), if_neg (fun e => hb e.2)]; rfl
  · rw [if_neg (by omega), Option.bind_some, if_neg (show ¬ false = true by decide), Option.bind_some, if_neg (fun e => h e.1)]
theorem trim_bytes (s : ByteArray) : bytesOf (trimS s) = trimL (bytesOf s) := by
  unfold trimS trimL
  by_cases h : 1 ≤ s.size
  · have h1 := bytesOf_drop s (s.size - 1) (by omega)
    rw [show s.size - 1 + 1 = s.size from by omega, show (bytesOf s).drop s.size = [] from List.drop_eq_nil_of_le (by rw [bytesOf_length]; exact Nat.le_refl _)] at h1
    have hl : (bytesOf s).getLast? = some (bt s ((s.size - 1 : Nat) : Int)) := by
      rw [List.getLast?_eq_getElem?, bytesOf_length, bytesOf_get s _ (by omega)]
    rw [hl]
    by_cases hb : bt s ((s.size - 1 : Nat) : Int) = 0
    · rw [if_pos ⟨h, hb⟩, if_pos (by rw [hb]), bytesOf_extract, List.drop_zero, List.dropLast_eq_take, bytesOf_length]
    · rw [if_neg (fun e => hb e.2), if_neg (fun e => hb (Option.some.inj e))]
  · have h0 : bytesOf s = [] := List.eq_nil_of_length_eq_zero (by rw [bytesOf_length]; omega)
    rw [if_neg (fun e => h e.1), h0]
    simp
theorem trim_calls (s : ByteArray) (hs : s.size ≤ 140737488351232) (w : World) : Calls Try.prog 28 #[.string s, .string ⟨#[0]⟩] w fun e w' => e = .returned (.string (trimS s)) ∧ Below w.heap.size w w' :=
  (GB.strings_TrimSuffix.calls s ⟨#[0]⟩ _ w (trim_f s hs)).mono fun _ _ h => ⟨h.1, h.2.below⟩
theorem trimS_size (s : ByteArray) : (trimS s).size ≤ s.size := by
  unfold trimS
  split
  · rw [ByteArray.size_extract]; omega
  · exact Nat.le_refl _
theorem bits_range (op : BinOp) (a b : Int) : -9223372036854775808 ≤ Go.bits op .i64 a b ∧ Go.bits op .i64 a b < 9223372036854775808 := by
  unfold Go.bits
  cases op <;> simp only [IntKind.wrap_i64] <;> omega
theorem octL_length {n w : Int} {l : List Int} (h : octL n w = some l) : (l.length : Int) = w := by
  unfold octL at h
  split at h
  · rename_i h1
    obtain rfl := Option.some.inj h
    simp only [List.length_append, dg8_length, List.length_cons, List.length_nil]
    omega
  · cases h
theorem octL_range {n w : Int} {l : List Int} (h : octL n w = some l) : ∀ x ∈ l, 0 ≤ x ∧ x < 256 := by
  unfold octL at h
  split at h
  · obtain rfl := Option.some.inj h
    intro x hx
    rcases List.mem_append.1 hx with hx | hx
    · have := dg8_range _ _ x hx; omega
    · simp at hx; omega
  · cases h
set_option maxHeartbeats 4000000 in
set_option maxRecDepth 100000 in
theorem rdoct_reck (g : Nat) (s : ByteArray) (hs : s.size ≤ 140737488351232) (W : World) (hb : W.heap[g]? = some (.cells #[.string s] 9 (0, 0))) :
    Calls Try.prog 27 #[.pointer (some ⟨g, 0, none⟩)] W (Reck_n (rdO (bytesOf s)) W) := by
  have kb := fun W => print_bytes (P := Try.prog) 9 34 5 Try.underlying9 Try.underlying34 Try.underlying5 (trimS s) W
  have HC : Aside0 (∀ w, ∀ j, j < (trimS s).size → (Lib.bytesWorld w 5 (trimS s)).cell? ⟨w.heap.size, j, none⟩ = some (.int .u8 (bt (trimS s) j))) := ⟨fun w j hj => by
    obtain ⟨ad, e1, hc⟩ := (bytes_reads w 5 (trimS s) (by have := trimS_size s; omega)).at_ (j : Int) (Int.natCast_nonneg _) (by omega)
    obtain rfl := Option.some.inj e1
    rw [add_plain, rd_bytesOf, Int.toNat_natCast] at hc
    exact hc⟩
  have HTR := Aside0.mk (trim_calls s hs)
  have HMT := Aside0.mk must_true
  have HMF := Aside0.mk must_false
  have HTB := Aside0.mk (trim_bytes s)
  have HTZ : Aside0 ((trimS s).size ≤ 140737488351232) := ⟨Nat.le_trans (trimS_size s) hs⟩
  have HB0 := Aside0.mk hb
  have c0 : W.cell? ⟨g, 0, none⟩ = some (.string s) := (blk_cell hb 0).trans rfl
  clear hb
  generalize trimS s = t at *
  have htz := HTZ.out
  go_enter Try.func27, Try.ntmps27
  go_wp2_with fail
  refine (HTR.out _).mono ?_
  rintro e w1 ⟨rfl, hb1⟩
  have HC1 := Aside0.mk (HC.out w1)
  have HB1 : Aside0 (Below W.heap.size W (Lib.bytesWorld w1 5 t)) := ⟨bytes_below hb1 hb1.size 5 t⟩
  have HE1 : Aside0 ((Lib.bytesWorld w1 5 t).heap[g]? = some (.cells #[.string s] 9 (0, 0))) := ⟨(HB1.out.block g (blk_lt HB0.out)).trans HB0.out⟩
  clear hb1 c0
  go_wp2_with fail
  generalize Lib.bytesWorld w1 5 t = W2 at *
  have c0 : W2.cell? ⟨g, 0, none⟩ = some (.string s) := (blk_cell HE1.out 0).trans rfl
  go_loop [2, 9] (fun v2 v9 => ∃ (n : Int) (k : Nat), v2 = .int .i64 n ∧ v9 = .int .i64 k ∧ k ≤ t.size ∧ Aside0 (-9223372036854775808 ≤ n ∧ n < 9223372036854775808) ∧ Aside0 (fo 0 (bytesOf t) = fo n ((bytesOf t).drop k))) (fun _ v9 => t.size - (intOf v9).toNat)
  case atStart => exact ⟨0, 0, rfl, rfl, by omega, ⟨by omega⟩, ⟨by rw [List.drop_zero]⟩⟩
  case round =>
    obtain ⟨n, k, rfl, rfl, hk, HR, HG⟩ := hrel
    by_cases hlt : k < t.size
    · have hcell := HC1.out k hlt
      have hdr := Aside0.mk (bytesOf_drop t k hlt)
      generalize bt t k = c at *
      have q0 : (0 ≤ (k : Int)) = True := eq_true (by omega)
      have q1 : ((k : Int) < (t.size : Int)) = True := eq_true (by omega)
      have q2 : decide ((k : Int) < (t.size : Int)) = true := decide_eq_true (by omega)
      obtain ⟨d, hd⟩ : ∃ d, d = Go.bits .or .i64 (wrap64 (n * 8)) (Go.bits .and .i64 ((c - 48) % 256) 7) := ⟨_, rfl⟩
      have HR2 : Aside0 (-9223372036854775808 ≤ d ∧ d < 9223372036854775808) := ⟨by rw [hd]; exact bits_range _ _ _⟩
      have HG2 : Aside0 (fo 0 (bytesOf t) = fo d ((bytesOf t).drop (k + 1))) := ⟨by rw [HG.out, hdr.out, fo, hd]⟩
      rw [hd] at HR2 HG2
      clear hd
      go_wp2_with fail
      go_round
      case rel => exact ⟨_, k + 1, rfl, by go_num, by omega, HR2, HG2⟩
      case measure => simp [intOf]; omega
    · obtain rfl : k = t.size := by omega
      have q2 : decide (((t.size : Nat) : Int) < (t.size : Int)) = false := decide_eq_false (by omega)
      have hn : n = fo 0 (trimL (bytesOf s)) := by
        rw [← HTB.out, HG.out, show (bytesOf t).drop t.size = [] from List.drop_eq_nil_of_le (by rw [bytesOf_length]; exact Nat.le_refl _)]
        rfl
      have HQ := Aside0.mk (octal_ends n s.size HR.out.2)
      have HZ : Aside0 (rdO (bytesOf s) = if octL n s.size = some (bytesOf s) then some n else none) := ⟨by unfold rdO; rw [← hn, bytesOf_length]⟩
      clear hn hlt
      go_wp2_with fail
      have HB2 : Aside0 (∀ wx, Below W2.drew.heap.size W2.drew wx → Below W.heap.size W wx) := ⟨fun wx h => below_then (below_drew HB1.out) HB1.out.size h⟩
      cases hL : octL n s.size with
      | none =>
        rw [hL] at HQ HZ
        rw [if_neg (by simp)] at HZ
        have HFIN : Aside0 (∀ w', Below W.heap.size W w' → Reck_n (rdO (bytesOf s)) W noField w') := ⟨fun w' hw => by unfold Reck_n; rw [HZ.out]; exact ⟨rfl, hw⟩⟩
        clear hL
        refine wp_region_held_drew (S := fun w' => w'.cell? ⟨g, 0, none⟩ = some (.string s)) (by kernel_rfl) (by exact c0) (fun hS => ?_)
        refine wpAnyH_take (i := 0) (v := .int .i64 n) rfl (by kernel_rfl) (by kernel_rfl) (by kernel_rfl) (fun _ _ _ h => h) (Or.inl ⟨by rfl, ?_⟩) hS ?_
        · intro w hSw; (try dsimp only at hSw); go_simp
        try simp only [Act.put, List.setIfInBounds_toArray, List.set_cons_zero, List.set_cons_succ]
        refine wpAnyH_take (i := 1) (v := .string s) rfl (by kernel_rfl) (by kernel_rfl) (by kernel_rfl) (fun _ _ _ h => h) (Or.inl ⟨by rfl, ?_⟩) hS ?_
        · intro w hSw; (try dsimp only at hSw); go_simp
        try simp only [Act.put, List.setIfInBounds_toArray, List.set_cons_zero, List.set_cons_succ]
        refine wpAnyH_take (i := 2) (v := .int .i64 s.size) rfl (by kernel_rfl) (by kernel_rfl) (by kernel_rfl) (fun _ _ _ h => h) (Or.inl ⟨by rfl, ?_⟩) hS ?_
        · intro w hSw; (try dsimp only at hSw); go_simp
        try simp only [Act.put, List.setIfInBounds_toArray, List.set_cons_zero, List.set_cons_succ]
        refine wpAnyH_take (i := 4) (v := .string s) rfl (by kernel_rfl) (by kernel_rfl) (by kernel_rfl) (fun _ _ _ h => h) (Or.inl ⟨by rfl, ?_⟩) hS ?_
        · intro w hSw; (try dsimp only at hSw); go_simp
        try simp only [Act.put, List.setIfInBounds_toArray, List.set_cons_zero, List.set_cons_succ]
        refine wpAnyH_ready (rs := [3]) (by kernel_rfl) (by simp) ?_
        refine AllReadyH.cons rfl (fun K hK => ?_) AllReadyH.nil
        go_simp
        refine (HQ.out _).mono ?_
        rintro e wx ⟨he, hx⟩
        obtain rfl := he
        exact ⟨rfl, HFIN.out _ (HB2.out _ hx)⟩
      | some l =>
        have HL := octL_range hL
        rw [hL] at HQ HZ
        have HTX : Aside0 (∀ wx wy, Below wx.heap.size wx wy → wx.cell? ⟨g, 0, none⟩ = some (.string s) → wy.cell? ⟨g, 0, none⟩ = some (.string s)) := ⟨fun wx wy h hc => pw_cell_below h hc⟩
        by_cases heq : l = bytesOf s
        · have k0 : ((strOfNums l).toList == s.toList) = true := by rw [beq_iff_eq, toList_inj, heq, nums_bytesOf]
          rw [if_pos (by rw [heq])] at HZ
          have HFIN : Aside0 (∀ w', Below W.heap.size W w' → Reck_n (rdO (bytesOf s)) W (.returned (.int .i64 n)) w') := ⟨fun w' hw => by unfold Reck_n; rw [HZ.out]; exact ⟨rfl, hw⟩⟩
          clear HL hL heq
          refine wp_region_held_drew (S := fun w' => w'.cell? ⟨g, 0, none⟩ = some (.string s)) (by kernel_rfl) (by exact c0) (fun hS => ?_)
          refine wpAnyH_take (i := 0) (v := .int .i64 n) rfl (by kernel_rfl) (by kernel_rfl) (by kernel_rfl) (fun _ _ _ h => h) (Or.inl ⟨by rfl, ?_⟩) hS ?_
          · intro w hSw; (try dsimp only at hSw); go_simp
          try simp only [Act.put, List.setIfInBounds_toArray, List.set_cons_zero, List.set_cons_succ]
          refine wpAnyH_take (i := 1) (v := .string s) rfl (by kernel_rfl) (by kernel_rfl) (by kernel_rfl) (fun _ _ _ h => h) (Or.inl ⟨by rfl, ?_⟩) hS ?_
          · intro w hSw; (try dsimp only at hSw); go_simp
          try simp only [Act.put, List.setIfInBounds_toArray, List.set_cons_zero, List.set_cons_succ]
          refine wpAnyH_take (i := 2) (v := .int .i64 s.size) rfl (by kernel_rfl) (by kernel_rfl) (by kernel_rfl) (fun _ _ _ h => h) (Or.inl ⟨by rfl, ?_⟩) hS ?_
          · intro w hSw; (try dsimp only at hSw); go_simp
          try simp only [Act.put, List.setIfInBounds_toArray, List.set_cons_zero, List.set_cons_succ]
          refine wpAnyH_take (i := 4) (v := .string s) rfl (by kernel_rfl) (by kernel_rfl) (by kernel_rfl) (fun _ _ _ h => h) (Or.inl ⟨by rfl, ?_⟩) hS ?_
          · intro w hSw; (try dsimp only at hSw); go_simp
          try simp only [Act.put, List.setIfInBounds_toArray, List.set_cons_zero, List.set_cons_succ]
          refine wpAnyH_ready (rs := [3]) (by kernel_rfl) (by simp) ?_
          refine AllReadyH.cons rfl (fun K hK => ?_) AllReadyH.nil
          go_simp
          refine (HQ.out _).mono ?_
          rintro e wx ⟨he, hx⟩
          obtain rfl := he
          refine hK.out _ _ (HTX.out _ _ hx c0) (fun hS => ?_)
          clear hK K
          replace hx := Aside0.mk hx
          refine wpAnyH_take (i := 5) (v := .bool true) rfl (by kernel_rfl) (by kernel_rfl) (by kernel_rfl) (fun _ _ _ h => h) (Or.inl ⟨by rfl, ?_⟩) hS ?_
          · intro w hSw; (try dsimp only at hSw); go_simp
          try simp only [Act.put, List.setIfInBounds_toArray, List.set_cons_zero, List.set_cons_succ]
          refine wpAnyH_ready (rs := [6]) (by kernel_rfl) (by simp) ?_
          refine AllReadyH.cons rfl (fun K hK => ?_) AllReadyH.nil
          go_simp
          refine (HMT.out _).mono ?_
          rintro e wx ⟨rfl, rfl⟩
          refine hK.out _ _ hS (fun hS => ?_)
          clear hK K
          refine wpAnyH_done (by kernel_rfl) ?_ _
          go_wp2_with fail
          go_ret
          exact HFIN.out _ (HB2.out _ hx.out)
        · have k0 : ((strOfNums l).toList == s.toList) = false := by rw [beq_eq_false_iff_ne, Ne, toList_inj]; exact fun h => heq (by rw [← h, bytesOf_nums l HL])
          rw [if_neg (fun h => heq (Option.some.inj h))] at HZ
          have HFIN : Aside0 (∀ w', Below W.heap.size W w' → Reck_n (rdO (bytesOf s)) W noField w') := ⟨fun w' hw => by unfold Reck_n; rw [HZ.out]; exact ⟨rfl, hw⟩⟩
          clear HL hL heq
          refine wp_region_held_drew (S := fun w' => w'.cell? ⟨g, 0, none⟩ = some (.string s)) (by kernel_rfl) (by exact c0) (fun hS => ?_)
          refine wpAnyH_take (i := 0) (v := .int .i64 n) rfl (by kernel_rfl) (by kernel_rfl) (by kernel_rfl) (fun _ _ _ h => h) (Or.inl ⟨by rfl, ?_⟩) hS ?_
          · intro w hSw; (try dsimp only at hSw); go_simp
          try simp only [Act.put, List.setIfInBounds_toArray, List.set_cons_zero, List.set_cons_succ]
          refine wpAnyH_take (i := 1) (v := .string s) rfl (by kernel_rfl) (by kernel_rfl) (by kernel_rfl) (fun _ _ _ h => h) (Or.inl ⟨by rfl, ?_⟩) hS ?_
          · intro w hSw; (try dsimp only at hSw); go_simp
          try simp only [Act.put, List.setIfInBounds_toArray, List.set_cons_zero, List.set_cons_succ]
          refine wpAnyH_take (i := 2) (v := .int .i64 s.size) rfl (by kernel_rfl) (by kernel_rfl) (by kernel_rfl) (fun _ _ _ h => h) (Or.inl ⟨by rfl, ?_⟩) hS ?_
          · intro w hSw; (try dsimp only at hSw); go_simp
          try simp only [Act.put, List.setIfInBounds_toArray, List.set_cons_zero, List.set_cons_succ]
          refine wpAnyH_take (i := 4) (v := .string s) rfl (by kernel_rfl) (by kernel_rfl) (by kernel_rfl) (fun _ _ _ h => h) (Or.inl ⟨by rfl, ?_⟩) hS ?_
          · intro w hSw; (try dsimp only at hSw); go_simp
          try simp only [Act.put, List.setIfInBounds_toArray, List.set_cons_zero, List.set_cons_succ]
          refine wpAnyH_ready (rs := [3]) (by kernel_rfl) (by simp) ?_
          refine AllReadyH.cons rfl (fun K hK => ?_) AllReadyH.nil
          go_simp
          refine (HQ.out _).mono ?_
          rintro e wx ⟨he, hx⟩
          obtain rfl := he
          refine hK.out _ _ (HTX.out _ _ hx c0) (fun hS => ?_)
          clear hK K
          replace hx := Aside0.mk hx
          refine wpAnyH_take (i := 5) (v := .bool false) rfl (by kernel_rfl) (by kernel_rfl) (by kernel_rfl) (fun _ _ _ h => h) (Or.inl ⟨by rfl, ?_⟩) hS ?_
          · intro w hSw; (try dsimp only at hSw); go_simp
          try simp only [Act.put, List.setIfInBounds_toArray, List.set_cons_zero, List.set_cons_succ]
          refine wpAnyH_ready (rs := [6]) (by kernel_rfl) (by simp) ?_
          refine AllReadyH.cons rfl (fun K hK => ?_) AllReadyH.nil
          go_simp
          refine (HMF.out _).mono ?_
          rintro e wx ⟨rfl, rfl⟩
          exact ⟨rfl, HFIN.out _ (HB2.out _ hx.out)⟩
end Go.Proofs.Ytljahgpincaihaa
