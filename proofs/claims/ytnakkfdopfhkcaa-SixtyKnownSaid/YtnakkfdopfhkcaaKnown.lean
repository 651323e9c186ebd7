/- SixtyKnown walked: letters that all know. -/
import Derived.Test.YtnakkfdopfhkcaaBack
import Derived.RegionTactic
import Derived.Deep.RegionHeld3
namespace Go.Proofs.Ytnakkfdopfhkcaa
set_option linter.unusedVariables false
set_option linter.unusedSimpArgs false
open Go.RowKit Go.Proofs.YtnakkfdopfhkcaaW.PrintWords

/-- The pairs, and what is none. -/
abbrev kL : Array Value := #[.string ⟨#[]⟩, .string ⟨#[]⟩, .string ⟨#[102]⟩, .string ⟨#[90, 103, 61, 61]⟩, .string ⟨#[102, 111]⟩, .string ⟨#[90, 109, 56, 61]⟩, .string ⟨#[102, 111, 111]⟩, .string ⟨#[90, 109, 57, 118]⟩, .string ⟨#[102, 111, 111, 98]⟩, .string ⟨#[90, 109, 57, 118, 89, 103, 61, 61]⟩, .string ⟨#[102, 111, 111, 98, 97]⟩, .string ⟨#[90, 109, 57, 118, 89, 109, 69, 61]⟩, .string ⟨#[102, 111, 111, 98, 97, 114]⟩, .string ⟨#[90, 109, 57, 118, 89, 109, 70, 121]⟩, .string ⟨#[255, 255, 255]⟩, .string ⟨#[47, 47, 47, 47]⟩, .string ⟨#[0]⟩, .string ⟨#[65, 65, 61, 61]⟩, .string ⟨#[251, 224]⟩, .string ⟨#[43, 43, 65, 61]⟩]
abbrev kB : Array Value := #[.string ⟨#[90, 103, 61]⟩, .string ⟨#[90, 103]⟩, .string ⟨#[90, 103, 61, 61, 61]⟩, .string ⟨#[90]⟩, .string ⟨#[90, 104, 61, 61]⟩, .string ⟨#[90, 109, 57]⟩, .string ⟨#[90, 109, 56]⟩, .string ⟨#[61, 90, 103, 61]⟩, .string ⟨#[90, 103, 61, 61, 90, 103, 61, 61]⟩, .string ⟨#[90, 109, 45, 118]⟩]
theorem k_all : ∀ j : Fin 10, ∃ p q b : ByteArray, kL[j.val * 2]? = some (.string p) ∧ kL[j.val * 2 + 1]? = some (.string q) ∧ kB[j.val]? = some (.string b) ∧ sixB p = q ∧ getS q = (p, true) ∧ getS b = (⟨#[]⟩, false) ∧ p.size ≤ 100 ∧ q.size ≤ 100 ∧ b.size ≤ 100 := by
  intro j
  have h : j.val = 0 ∨ j.val = 1 ∨ j.val = 2 ∨ j.val = 3 ∨ j.val = 4 ∨ j.val = 5 ∨ j.val = 6 ∨ j.val = 7 ∨ j.val = 8 ∨ j.val = 9 := by omega
  rcases h with h | h | h | h | h | h | h | h | h | h
  all_goals rw [h]; exact ⟨_, _, _, rfl, rfl, rfl, by decide +kernel, by decide +kernel, by decide +kernel, by decide, by decide, by decide⟩
set_option maxHeartbeats 8000000 in
set_option maxRecDepth 100000 in
theorem known (a : Int) (a0 : 0 ≤ a) (a1 : a ≤ 255) (w : World) : Calls Try.prog 6 #[.int .u8 a] w fun e w' => e = .returned (.bool true) ∧ Below w.heap.size w w' := by
  have HAW := Aside0.mk awake_calls
  obtain ⟨j, hj⟩ : ∃ j : Nat, (j : Int) = a % 10 := ⟨(a % 10).toNat, by omega⟩
  obtain ⟨p, q, b, hp, hq, hb, h1, h2, h3, z1, z2, z3⟩ := k_all ⟨j, by omega⟩
  simp only at hp hq hb
  have HP := Aside0.mk (put_calls p (by omega))
  rw [h1] at HP
  have HG := Aside0.mk (get_ends q (by omega))
  rw [h2] at HG
  have HN := Aside0.mk (get_ends b (by omega))
  rw [h3] at HN
  clear h1 h2 h3 z1 z2 z3
  have K0 := Aside0.mk (heap_alloc_new w (.cells #[.string ⟨#[]⟩, .string ⟨#[]⟩, .string ⟨#[102]⟩, .string ⟨#[90, 103, 61, 61]⟩, .string ⟨#[102, 111]⟩, .string ⟨#[90, 109, 56, 61]⟩, .string ⟨#[102, 111, 111]⟩, .string ⟨#[90, 109, 57, 118]⟩, .string ⟨#[102, 111, 111, 98]⟩, .string ⟨#[90, 109, 57, 118, 89, 103, 61, 61]⟩, .string ⟨#[102, 111, 111, 98, 97]⟩, .string ⟨#[90, 109, 57, 118, 89, 109, 69, 61]⟩, .string ⟨#[102, 111, 111, 98, 97, 114]⟩, .string ⟨#[90, 109, 57, 118, 89, 109, 70, 121]⟩, .string ⟨#[255, 255, 255]⟩, .string ⟨#[47, 47, 47, 47]⟩, .string ⟨#[0]⟩, .string ⟨#[65, 65, 61, 61]⟩, .string ⟨#[251, 224]⟩, .string ⟨#[43, 43, 65, 61]⟩] 33))
  have B0 := Aside0.mk ((Below.refl w.heap.size w).alloc (Nat.le_refl _) (.cells #[.string ⟨#[]⟩, .string ⟨#[]⟩, .string ⟨#[102]⟩, .string ⟨#[90, 103, 61, 61]⟩, .string ⟨#[102, 111]⟩, .string ⟨#[90, 109, 56, 61]⟩, .string ⟨#[102, 111, 111]⟩, .string ⟨#[90, 109, 57, 118]⟩, .string ⟨#[102, 111, 111, 98]⟩, .string ⟨#[90, 109, 57, 118, 89, 103, 61, 61]⟩, .string ⟨#[102, 111, 111, 98, 97]⟩, .string ⟨#[90, 109, 57, 118, 89, 109, 69, 61]⟩, .string ⟨#[102, 111, 111, 98, 97, 114]⟩, .string ⟨#[90, 109, 57, 118, 89, 109, 70, 121]⟩, .string ⟨#[255, 255, 255]⟩, .string ⟨#[47, 47, 47, 47]⟩, .string ⟨#[0]⟩, .string ⟨#[65, 65, 61, 61]⟩, .string ⟨#[251, 224]⟩, .string ⟨#[43, 43, 65, 61]⟩] 33))
  have c0 : (w.alloc (.cells #[.string ⟨#[]⟩, .string ⟨#[]⟩, .string ⟨#[102]⟩, .string ⟨#[90, 103, 61, 61]⟩, .string ⟨#[102, 111]⟩, .string ⟨#[90, 109, 56, 61]⟩, .string ⟨#[102, 111, 111]⟩, .string ⟨#[90, 109, 57, 118]⟩, .string ⟨#[102, 111, 111, 98]⟩, .string ⟨#[90, 109, 57, 118, 89, 103, 61, 61]⟩, .string ⟨#[102, 111, 111, 98, 97]⟩, .string ⟨#[90, 109, 57, 118, 89, 109, 69, 61]⟩, .string ⟨#[102, 111, 111, 98, 97, 114]⟩, .string ⟨#[90, 109, 57, 118, 89, 109, 70, 121]⟩, .string ⟨#[255, 255, 255]⟩, .string ⟨#[47, 47, 47, 47]⟩, .string ⟨#[0]⟩, .string ⟨#[65, 65, 61, 61]⟩, .string ⟨#[251, 224]⟩, .string ⟨#[43, 43, 65, 61]⟩] 33)).cell? ⟨w.heap.size, j * 2 + 1, none⟩ = some (.string q) := (blk_cell K0.out _).trans hq
  have hjr := hj.symm
  have hj0 : (0 ≤ (j : Int)) = True := eq_true (by omega)
  have hj1 : ((j : Int) < 10) = True := eq_true (by omega)
  clear hj
  have HPp := Aside0.mk hp
  have HPq := Aside0.mk hq
  have HPb := Aside0.mk hb
  clear hp hq hb
  go_enter Try.func6, Try.ntmps6
  go_wp2_with fail
  generalize w.alloc (.cells #[.string ⟨#[]⟩, .string ⟨#[]⟩, .string ⟨#[102]⟩, .string ⟨#[90, 103, 61, 61]⟩, .string ⟨#[102, 111]⟩, .string ⟨#[90, 109, 56, 61]⟩, .string ⟨#[102, 111, 111]⟩, .string ⟨#[90, 109, 57, 118]⟩, .string ⟨#[102, 111, 111, 98]⟩, .string ⟨#[90, 109, 57, 118, 89, 103, 61, 61]⟩, .string ⟨#[102, 111, 111, 98, 97]⟩, .string ⟨#[90, 109, 57, 118, 89, 109, 69, 61]⟩, .string ⟨#[102, 111, 111, 98, 97, 114]⟩, .string ⟨#[90, 109, 57, 118, 89, 109, 70, 121]⟩, .string ⟨#[255, 255, 255]⟩, .string ⟨#[47, 47, 47, 47]⟩, .string ⟨#[0]⟩, .string ⟨#[65, 65, 61, 61]⟩, .string ⟨#[251, 224]⟩, .string ⟨#[43, 43, 65, 61]⟩] 33) = W0 at *
  generalize hg : w.heap.size = g at *
  generalize (Value.agg #[.string ⟨#[]⟩, .string ⟨#[]⟩]) = ag0 at *
  generalize (Value.agg #[.string ⟨#[102]⟩, .string ⟨#[90, 103, 61, 61]⟩]) = ag1 at *
  generalize (Value.agg #[.string ⟨#[102, 111]⟩, .string ⟨#[90, 109, 56, 61]⟩]) = ag2 at *
  generalize (Value.agg #[.string ⟨#[102, 111, 111]⟩, .string ⟨#[90, 109, 57, 118]⟩]) = ag3 at *
  generalize (Value.agg #[.string ⟨#[102, 111, 111, 98]⟩, .string ⟨#[90, 109, 57, 118, 89, 103, 61, 61]⟩]) = ag4 at *
  generalize (Value.agg #[.string ⟨#[102, 111, 111, 98, 97]⟩, .string ⟨#[90, 109, 57, 118, 89, 109, 69, 61]⟩]) = ag5 at *
  generalize (Value.agg #[.string ⟨#[102, 111, 111, 98, 97, 114]⟩, .string ⟨#[90, 109, 57, 118, 89, 109, 70, 121]⟩]) = ag6 at *
  generalize (Value.agg #[.string ⟨#[255, 255, 255]⟩, .string ⟨#[47, 47, 47, 47]⟩]) = ag7 at *
  generalize (Value.agg #[.string ⟨#[0]⟩, .string ⟨#[65, 65, 61, 61]⟩]) = ag8 at *
  generalize (Value.agg #[.string ⟨#[251, 224]⟩, .string ⟨#[43, 43, 65, 61]⟩]) = ag9 at *
  refine (HG.out _).mono ?_
  rintro e w1 ⟨rfl, hb⟩
  have K1 := Aside0.mk (blk_below K0.out hb)
  have B1 := Aside0.mk (below_then B0.out (Nat.le_of_lt (blk_lt K0.out)) hb)
  clear hb K0 B0 c0
  have K2 := Aside0.mk (heap_alloc_new w1 (.cells #[.string ⟨#[90, 103, 61]⟩, .string ⟨#[90, 103]⟩, .string ⟨#[90, 103, 61, 61, 61]⟩, .string ⟨#[90]⟩, .string ⟨#[90, 104, 61, 61]⟩, .string ⟨#[90, 109, 57]⟩, .string ⟨#[90, 109, 56]⟩, .string ⟨#[61, 90, 103, 61]⟩, .string ⟨#[90, 103, 61, 61, 90, 103, 61, 61]⟩, .string ⟨#[90, 109, 45, 118]⟩] 9))
  have K3 := Aside0.mk (blk_alloc K1.out (.cells #[.string ⟨#[90, 103, 61]⟩, .string ⟨#[90, 103]⟩, .string ⟨#[90, 103, 61, 61, 61]⟩, .string ⟨#[90]⟩, .string ⟨#[90, 104, 61, 61]⟩, .string ⟨#[90, 109, 57]⟩, .string ⟨#[90, 109, 56]⟩, .string ⟨#[61, 90, 103, 61]⟩, .string ⟨#[90, 103, 61, 61, 90, 103, 61, 61]⟩, .string ⟨#[90, 109, 45, 118]⟩] 9))
  have B2 := Aside0.mk (B1.out.alloc (Nat.le_of_lt (blk_lt K1.out)) (.cells #[.string ⟨#[90, 103, 61]⟩, .string ⟨#[90, 103]⟩, .string ⟨#[90, 103, 61, 61, 61]⟩, .string ⟨#[90]⟩, .string ⟨#[90, 104, 61, 61]⟩, .string ⟨#[90, 109, 57]⟩, .string ⟨#[90, 109, 56]⟩, .string ⟨#[61, 90, 103, 61]⟩, .string ⟨#[90, 103, 61, 61, 90, 103, 61, 61]⟩, .string ⟨#[90, 109, 45, 118]⟩] 9))
  have c0 : (w1.alloc (.cells #[.string ⟨#[90, 103, 61]⟩, .string ⟨#[90, 103]⟩, .string ⟨#[90, 103, 61, 61, 61]⟩, .string ⟨#[90]⟩, .string ⟨#[90, 104, 61, 61]⟩, .string ⟨#[90, 109, 57]⟩, .string ⟨#[90, 109, 56]⟩, .string ⟨#[61, 90, 103, 61]⟩, .string ⟨#[90, 103, 61, 61, 90, 103, 61, 61]⟩, .string ⟨#[90, 109, 45, 118]⟩] 9)).cell? ⟨w1.heap.size, j, none⟩ = some (.string b) := (blk_cell K2.out _).trans HPb.out
  clear K1 B1
  go_wp2_with fail
  generalize w1.alloc (.cells #[.string ⟨#[90, 103, 61]⟩, .string ⟨#[90, 103]⟩, .string ⟨#[90, 103, 61, 61, 61]⟩, .string ⟨#[90]⟩, .string ⟨#[90, 104, 61, 61]⟩, .string ⟨#[90, 109, 57]⟩, .string ⟨#[90, 109, 56]⟩, .string ⟨#[61, 90, 103, 61]⟩, .string ⟨#[90, 103, 61, 61, 90, 103, 61, 61]⟩, .string ⟨#[90, 109, 45, 118]⟩] 9) = W2 at *
  refine (HN.out _).mono ?_
  rintro e w3 ⟨rfl, hb⟩
  have K4 := Aside0.mk (blk_below K3.out hb)
  have B4 := Aside0.mk (below_then B2.out (Nat.le_of_lt (blk_lt K3.out)) hb)
  clear hb K2 K3 B2 c0
  have c0 : w3.cell? ⟨g, j * 2, none⟩ = some (.string p) := (blk_cell K4.out _).trans HPp.out
  have c1 : w3.cell? ⟨g, j * 2 + 1, none⟩ = some (.string q) := (blk_cell K4.out _).trans HPq.out
  have HTX : Aside0 (∀ wx wy, Below wx.heap.size wx wy → wx.heap[g]? = some (.cells #[.string ⟨#[]⟩, .string ⟨#[]⟩, .string ⟨#[102]⟩, .string ⟨#[90, 103, 61, 61]⟩, .string ⟨#[102, 111]⟩, .string ⟨#[90, 109, 56, 61]⟩, .string ⟨#[102, 111, 111]⟩, .string ⟨#[90, 109, 57, 118]⟩, .string ⟨#[102, 111, 111, 98]⟩, .string ⟨#[90, 109, 57, 118, 89, 103, 61, 61]⟩, .string ⟨#[102, 111, 111, 98, 97]⟩, .string ⟨#[90, 109, 57, 118, 89, 109, 69, 61]⟩, .string ⟨#[102, 111, 111, 98, 97, 114]⟩, .string ⟨#[90, 109, 57, 118, 89, 109, 70, 121]⟩, .string ⟨#[255, 255, 255]⟩, .string ⟨#[47, 47, 47, 47]⟩, .string ⟨#[0]⟩, .string ⟨#[65, 65, 61, 61]⟩, .string ⟨#[251, 224]⟩, .string ⟨#[43, 43, 65, 61]⟩] 33 (0, 0)) → wy.cell? ⟨g, j * 2, none⟩ = some (.string p) ∧ wy.cell? ⟨g, j * 2 + 1, none⟩ = some (.string q)) := ⟨fun wx wy h hc => ⟨(blk_cell (blk_below hc h) _).trans HPp.out, (blk_cell (blk_below hc h) _).trans HPq.out⟩⟩
  have HB2 : Aside0 (∀ wx, Below w3.drew.heap.size w3.drew wx → Below g w wx) := ⟨fun wx h => below_then (below_drew B4.out) (Nat.le_of_lt (blk_lt K4.out)) h⟩
  have K5 : Aside0 (w3.drew.heap[g]? = some (.cells #[.string ⟨#[]⟩, .string ⟨#[]⟩, .string ⟨#[102]⟩, .string ⟨#[90, 103, 61, 61]⟩, .string ⟨#[102, 111]⟩, .string ⟨#[90, 109, 56, 61]⟩, .string ⟨#[102, 111, 111]⟩, .string ⟨#[90, 109, 57, 118]⟩, .string ⟨#[102, 111, 111, 98]⟩, .string ⟨#[90, 109, 57, 118, 89, 103, 61, 61]⟩, .string ⟨#[102, 111, 111, 98, 97]⟩, .string ⟨#[90, 109, 57, 118, 89, 109, 69, 61]⟩, .string ⟨#[102, 111, 111, 98, 97, 114]⟩, .string ⟨#[90, 109, 57, 118, 89, 109, 70, 121]⟩, .string ⟨#[255, 255, 255]⟩, .string ⟨#[47, 47, 47, 47]⟩, .string ⟨#[0]⟩, .string ⟨#[65, 65, 61, 61]⟩, .string ⟨#[251, 224]⟩, .string ⟨#[43, 43, 65, 61]⟩] 33 (0, 0))) := ⟨K4.out⟩
  clear HPp HPq HPb HG HN K4 B4
  go_wp2_with fail
  refine wp_region_held_drew (S := fun w' => w'.cell? ⟨g, j * 2, none⟩ = some (.string p) ∧ w'.cell? ⟨g, j * 2 + 1, none⟩ = some (.string q)) (by kernel_rfl) ⟨c0, c1⟩ (fun hS => ?_)
  refine wpAnyH_take (i := 0) (v := .slice (some ⟨g, 0, none⟩) 10 10) rfl (by kernel_rfl) (by kernel_rfl) (by kernel_rfl) (fun _ _ _ h => h) (Or.inl ⟨by kernel_rfl, ?_⟩) hS ?_
  · intro w hSw; obtain ⟨s0, s1⟩ := hSw; go_simp
  try simp only [Act.put, List.setIfInBounds_toArray, List.set_cons_zero, List.set_cons_succ]
  refine wpAnyH_take (i := 1) (v := .int .i64 j) rfl (by kernel_rfl) (by kernel_rfl) (by kernel_rfl) (fun _ _ _ h => h) (Or.inl ⟨by kernel_rfl, ?_⟩) hS ?_
  · intro w hSw; obtain ⟨s0, s1⟩ := hSw; go_simp
  try simp only [Act.put, List.setIfInBounds_toArray, List.set_cons_zero, List.set_cons_succ]
  refine wpAnyH_take (i := 2) (v := .pointer (some ⟨g, j * 2, none⟩)) rfl (by kernel_rfl) (by kernel_rfl) (by kernel_rfl) (fun _ _ _ h => h) (Or.inl ⟨by kernel_rfl, ?_⟩) hS ?_
  · intro w hSw; obtain ⟨s0, s1⟩ := hSw; go_simp
  try simp only [Act.put, List.setIfInBounds_toArray, List.set_cons_zero, List.set_cons_succ]
  refine wpAnyH_take (i := 3) (v := .pointer (some ⟨g, j * 2, none⟩)) rfl (by kernel_rfl) (by kernel_rfl) (by kernel_rfl) (fun _ _ _ h => h) (Or.inl ⟨by kernel_rfl, ?_⟩) hS ?_
  · intro w hSw; obtain ⟨s0, s1⟩ := hSw; go_simp
  try simp only [Act.put, List.setIfInBounds_toArray, List.set_cons_zero, List.set_cons_succ]
  refine wpAnyH_take (i := 4) (v := .string p) rfl (by kernel_rfl) (by kernel_rfl) (by kernel_rfl) (fun _ _ _ h => h) (Or.inl ⟨by kernel_rfl, ?_⟩) hS ?_
  · intro w hSw; obtain ⟨s0, s1⟩ := hSw; go_simp
  try simp only [Act.put, List.setIfInBounds_toArray, List.set_cons_zero, List.set_cons_succ]
  refine wpAnyH_take (i := 6) (v := .slice (some ⟨g, 0, none⟩) 10 10) rfl (by kernel_rfl) (by kernel_rfl) (by kernel_rfl) (fun _ _ _ h => h) (Or.inl ⟨by kernel_rfl, ?_⟩) hS ?_
  · intro w hSw; obtain ⟨s0, s1⟩ := hSw; go_simp
  try simp only [Act.put, List.setIfInBounds_toArray, List.set_cons_zero, List.set_cons_succ]
  refine wpAnyH_take (i := 7) (v := .int .i64 j) rfl (by kernel_rfl) (by kernel_rfl) (by kernel_rfl) (fun _ _ _ h => h) (Or.inl ⟨by kernel_rfl, ?_⟩) hS ?_
  · intro w hSw; obtain ⟨s0, s1⟩ := hSw; go_simp
  try simp only [Act.put, List.setIfInBounds_toArray, List.set_cons_zero, List.set_cons_succ]
  refine wpAnyH_take (i := 8) (v := .pointer (some ⟨g, j * 2, none⟩)) rfl (by kernel_rfl) (by kernel_rfl) (by kernel_rfl) (fun _ _ _ h => h) (Or.inl ⟨by kernel_rfl, ?_⟩) hS ?_
  · intro w hSw; obtain ⟨s0, s1⟩ := hSw; go_simp
  try simp only [Act.put, List.setIfInBounds_toArray, List.set_cons_zero, List.set_cons_succ]
  refine wpAnyH_take (i := 9) (v := .pointer (some ⟨g, j * 2 + 1, none⟩)) rfl (by kernel_rfl) (by kernel_rfl) (by kernel_rfl) (fun _ _ _ h => h) (Or.inl ⟨by kernel_rfl, ?_⟩) hS ?_
  · intro w hSw; obtain ⟨s0, s1⟩ := hSw; go_simp
  try simp only [Act.put, List.setIfInBounds_toArray, List.set_cons_zero, List.set_cons_succ]
  refine wpAnyH_take (i := 10) (v := .string q) rfl (by kernel_rfl) (by kernel_rfl) (by kernel_rfl) (fun _ _ _ h => h) (Or.inl ⟨by kernel_rfl, ?_⟩) hS ?_
  · intro w hSw; obtain ⟨s0, s1⟩ := hSw; go_simp
  try simp only [Act.put, List.setIfInBounds_toArray, List.set_cons_zero, List.set_cons_succ]
  refine wpAnyH_ready (rs := [5]) (by kernel_rfl) (by simp) ?_
  refine AllReadyH.cons rfl (fun K hK => ?_) AllReadyH.nil
  go_simp
  refine (HP.out _).mono ?_
  rintro e wx ⟨rfl, hx⟩
  have K6 := Aside0.mk (blk_below K5.out hx)
  refine hK.out _ _ (HTX.out _ _ hx K5.out) (fun hS => ?_)
  clear hK K
  replace hx := Aside0.mk hx
  refine wpAnyH_take (i := 11) (v := .bool true) rfl (by kernel_rfl) (by kernel_rfl) (by kernel_rfl) (fun _ _ _ h => h) (Or.inl ⟨by kernel_rfl, ?_⟩) hS ?_
  · intro w hSw; obtain ⟨s0, s1⟩ := hSw; go_simp
  try simp only [Act.put, List.setIfInBounds_toArray, List.set_cons_zero, List.set_cons_succ]
  refine wpAnyH_take (i := 12) (v := .bool true) rfl (by kernel_rfl) (by kernel_rfl) (by kernel_rfl) (fun _ _ _ h => h) (Or.inl ⟨by kernel_rfl, ?_⟩) hS ?_
  · intro w hSw; obtain ⟨s0, s1⟩ := hSw; go_simp
  try simp only [Act.put, List.setIfInBounds_toArray, List.set_cons_zero, List.set_cons_succ]
  refine wpAnyH_take (i := 13) (v := .bool true) rfl (by kernel_rfl) (by kernel_rfl) (by kernel_rfl) (fun _ _ _ h => h) (Or.inl ⟨by kernel_rfl, ?_⟩) hS ?_
  · intro w hSw; obtain ⟨s0, s1⟩ := hSw; go_simp
  try simp only [Act.put, List.setIfInBounds_toArray, List.set_cons_zero, List.set_cons_succ]
  refine wpAnyH_take (i := 14) (v := .bool true) rfl (by kernel_rfl) (by kernel_rfl) (by kernel_rfl) (fun _ _ _ h => h) (Or.inl ⟨by kernel_rfl, ?_⟩) hS ?_
  · intro w hSw; obtain ⟨s0, s1⟩ := hSw; go_simp
  try simp only [Act.put, List.setIfInBounds_toArray, List.set_cons_zero, List.set_cons_succ]
  refine wpAnyH_take (i := 15) (v := .bool true) rfl (by kernel_rfl) (by kernel_rfl) (by kernel_rfl) (fun _ _ _ h => h) (Or.inl ⟨by kernel_rfl, ?_⟩) hS ?_
  · intro w hSw; obtain ⟨s0, s1⟩ := hSw; go_simp
  try simp only [Act.put, List.setIfInBounds_toArray, List.set_cons_zero, List.set_cons_succ]
  refine wpAnyH_take (i := 16) (v := .string p) rfl (by kernel_rfl) (by kernel_rfl) (by kernel_rfl) (fun _ _ _ h => h) (Or.inl ⟨by kernel_rfl, ?_⟩) hS ?_
  · intro w hSw; obtain ⟨s0, s1⟩ := hSw; go_simp
  try simp only [Act.put, List.setIfInBounds_toArray, List.set_cons_zero, List.set_cons_succ]
  refine wpAnyH_take (i := 17) (v := .slice (some ⟨g, 0, none⟩) 10 10) rfl (by kernel_rfl) (by kernel_rfl) (by kernel_rfl) (fun _ _ _ h => h) (Or.inl ⟨by kernel_rfl, ?_⟩) hS ?_
  · intro w hSw; obtain ⟨s0, s1⟩ := hSw; go_simp
  try simp only [Act.put, List.setIfInBounds_toArray, List.set_cons_zero, List.set_cons_succ]
  refine wpAnyH_take (i := 18) (v := .int .i64 j) rfl (by kernel_rfl) (by kernel_rfl) (by kernel_rfl) (fun _ _ _ h => h) (Or.inl ⟨by kernel_rfl, ?_⟩) hS ?_
  · intro w hSw; obtain ⟨s0, s1⟩ := hSw; go_simp
  try simp only [Act.put, List.setIfInBounds_toArray, List.set_cons_zero, List.set_cons_succ]
  refine wpAnyH_take (i := 19) (v := .pointer (some ⟨g, j * 2, none⟩)) rfl (by kernel_rfl) (by kernel_rfl) (by kernel_rfl) (fun _ _ _ h => h) (Or.inl ⟨by kernel_rfl, ?_⟩) hS ?_
  · intro w hSw; obtain ⟨s0, s1⟩ := hSw; go_simp
  try simp only [Act.put, List.setIfInBounds_toArray, List.set_cons_zero, List.set_cons_succ]
  refine wpAnyH_take (i := 20) (v := .pointer (some ⟨g, j * 2, none⟩)) rfl (by kernel_rfl) (by kernel_rfl) (by kernel_rfl) (fun _ _ _ h => h) (Or.inl ⟨by kernel_rfl, ?_⟩) hS ?_
  · intro w hSw; obtain ⟨s0, s1⟩ := hSw; go_simp
  try simp only [Act.put, List.setIfInBounds_toArray, List.set_cons_zero, List.set_cons_succ]
  refine wpAnyH_take (i := 21) (v := .string p) rfl (by kernel_rfl) (by kernel_rfl) (by kernel_rfl) (fun _ _ _ h => h) (Or.inl ⟨by kernel_rfl, ?_⟩) hS ?_
  · intro w hSw; obtain ⟨s0, s1⟩ := hSw; go_simp
  try simp only [Act.put, List.setIfInBounds_toArray, List.set_cons_zero, List.set_cons_succ]
  refine wpAnyH_take (i := 22) (v := .bool true) rfl (by kernel_rfl) (by kernel_rfl) (by kernel_rfl) (fun _ _ _ h => h) (Or.inl ⟨by kernel_rfl, ?_⟩) hS ?_
  · intro w hSw; obtain ⟨s0, s1⟩ := hSw; go_simp
  try simp only [Act.put, List.setIfInBounds_toArray, List.set_cons_zero, List.set_cons_succ]
  refine wpAnyH_take (i := 23) (v := .bool true) rfl (by kernel_rfl) (by kernel_rfl) (by kernel_rfl) (fun _ _ _ h => h) (Or.inl ⟨by kernel_rfl, ?_⟩) hS ?_
  · intro w hSw; obtain ⟨s0, s1⟩ := hSw; go_simp
  try simp only [Act.put, List.setIfInBounds_toArray, List.set_cons_zero, List.set_cons_succ]
  refine wpAnyH_take (i := 24) (v := .bool true) rfl (by kernel_rfl) (by kernel_rfl) (by kernel_rfl) (fun _ _ _ h => h) (Or.inl ⟨by kernel_rfl, ?_⟩) hS ?_
  · intro w hSw; obtain ⟨s0, s1⟩ := hSw; go_simp
  try simp only [Act.put, List.setIfInBounds_toArray, List.set_cons_zero, List.set_cons_succ]
  refine wpAnyH_take (i := 25) (v := .bool false) rfl (by kernel_rfl) (by kernel_rfl) (by kernel_rfl) (fun _ _ _ h => h) (Or.inl ⟨by kernel_rfl, ?_⟩) hS ?_
  · intro w hSw; obtain ⟨s0, s1⟩ := hSw; go_simp
  try simp only [Act.put, List.setIfInBounds_toArray, List.set_cons_zero, List.set_cons_succ]
  refine wpAnyH_take (i := 26) (v := .bool true) rfl (by kernel_rfl) (by kernel_rfl) (by kernel_rfl) (fun _ _ _ h => h) (Or.inl ⟨by kernel_rfl, ?_⟩) hS ?_
  · intro w hSw; obtain ⟨s0, s1⟩ := hSw; go_simp
  try simp only [Act.put, List.setIfInBounds_toArray, List.set_cons_zero, List.set_cons_succ]
  refine wpAnyH_take (i := 27) (v := .bool true) rfl (by kernel_rfl) (by kernel_rfl) (by kernel_rfl) (fun _ _ _ h => h) (Or.inl ⟨by kernel_rfl, ?_⟩) hS ?_
  · intro w hSw; obtain ⟨s0, s1⟩ := hSw; go_simp
  try simp only [Act.put, List.setIfInBounds_toArray, List.set_cons_zero, List.set_cons_succ]
  refine wpAnyH_take (i := 28) (v := .bool true) rfl (by kernel_rfl) (by kernel_rfl) (by kernel_rfl) (fun _ _ _ h => h) (Or.inl ⟨by kernel_rfl, ?_⟩) hS ?_
  · intro w hSw; obtain ⟨s0, s1⟩ := hSw; go_simp
  try simp only [Act.put, List.setIfInBounds_toArray, List.set_cons_zero, List.set_cons_succ]
  refine wpAnyH_ready (rs := [29]) (by kernel_rfl) (by simp) ?_
  refine AllReadyH.cons rfl (fun K hK => ?_) AllReadyH.nil
  go_simp
  refine (HAW.out _).mono ?_
  rintro e wy ⟨rfl, hy⟩
  refine hK.out _ _ (HTX.out _ _ hy K6.out) (fun hS => ?_)
  clear hK K
  replace hy := Aside0.mk hy
  refine wpAnyH_take (i := 30) (oi := { dst := some 74, op := .pick (.tmp 72) (.tmp 73) (.const (.bool false)), type := 4, pos := "more.go:14", after := #[{ on := 28, ground := .data }, { on := 29, ground := .data }], guard := none }) (v := .bool true) rfl (by kernel_rfl) (by kernel_rfl) (by kernel_rfl) (fun _ _ _ h => h) (Or.inl ⟨by kernel_rfl, ?_⟩) hS ?_
  · intro w hSw; obtain ⟨s0, s1⟩ := hSw; go_simp
  try simp only [Act.put, List.setIfInBounds_toArray, List.set_cons_zero, List.set_cons_succ]
  refine wpAnyH_take (i := 31) (oi := { dst := some 2, op := .assign (.tmp 74), type := 4, pos := "more.go:14", after := #[{ on := 30, ground := .data }, { on := 29, ground := .chain }, { on := 0, ground := .phase }, { on := 1, ground := .phase }, { on := 2, ground := .phase }, { on := 3, ground := .phase }, { on := 4, ground := .phase }, { on := 5, ground := .phase }, { on := 6, ground := .phase }, { on := 7, ground := .phase }, { on := 8, ground := .phase }, { on := 9, ground := .phase }, { on := 10, ground := .phase }, { on := 11, ground := .phase }, { on := 12, ground := .phase }, { on := 13, ground := .phase }, { on := 14, ground := .phase }, { on := 15, ground := .phase }, { on := 16, ground := .phase }, { on := 17, ground := .phase }, { on := 18, ground := .phase }, { on := 19, ground := .phase }, { on := 20, ground := .phase }, { on := 21, ground := .phase }, { on := 22, ground := .phase }, { on := 23, ground := .phase }, { on := 24, ground := .phase }, { on := 25, ground := .phase }, { on := 26, ground := .phase }, { on := 27, ground := .phase }, { on := 28, ground := .phase }, { on := 29, ground := .phase }, { on := 30, ground := .phase }], guard := none }) (v := .bool true) rfl (by kernel_rfl) (by kernel_rfl) (by kernel_rfl) (fun _ _ _ h => h) (Or.inl ⟨by kernel_rfl, ?_⟩) hS ?_
  · intro w hSw; obtain ⟨s0, s1⟩ := hSw; go_simp
  try simp only [Act.put, List.setIfInBounds_toArray, List.set_cons_zero, List.set_cons_succ]
  refine wpAnyH_done (by kernel_rfl) ?_ _
  go_wp2_with fail
  go_ret
  refine ⟨by simp, ?_⟩
  rw [hg]
  exact below_then (HB2.out _ hx.out) (Nat.le_of_lt (blk_lt K6.out)) hy.out
theorem sixty_known (a : Int) (w : World) (h0 : (Lit.int .u8 a).wf = true) : Calls Try.prog 6 #[.int .u8 a] w fun e w' => e = .returned (.bool true) ∧ Below w.heap.size w w' := by
  obtain ⟨a0, a1⟩ := bounds_u8 h0
  exact known a a0 a1 w
end Go.Proofs.Ytnakkfdopfhkcaa
