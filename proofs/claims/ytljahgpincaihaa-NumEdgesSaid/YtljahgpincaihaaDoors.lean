/- num.Octal and num.Base walked. -/
import Derived.Test.YtljahgpincaihaaTry
namespace Go.Proofs.Ytljahgpincaihaa
set_option linter.unusedVariables false
set_option linter.unusedSimpArgs false
open Go.RowKit Go.Proofs.YtljahgpincaihaaW.PrintWords

theorem cf22 (caps : Array Value) (W : World) : (callFunc 22 caps).run Try.prog W = .ok (.enter 22 caps) W := by kernel_rfl
theorem cf24 (caps : Array Value) (W : World) : (callFunc 24 caps).run Try.prog W = .ok (.enter 24 caps) W := by kernel_rfl
theorem cf27 (caps : Array Value) (W : World) : (callFunc 27 caps).run Try.prog W = .ok (.enter 27 caps) W := by kernel_rfl
theorem cf30 (caps : Array Value) (W : World) : (callFunc 30 caps).run Try.prog W = .ok (.enter 30 caps) W := by kernel_rfl

set_option maxHeartbeats 4000000 in
theorem oct_reck (g : Nat) (n m : Int) (hn0 : -9223372036854775808 ≤ n) (hn1 : n < 9223372036854775808) (W : World) (hb : W.heap[g]? = some (.cells #[.int .i64 n] 3 (0, 0))) (hq : W.heap[g + 1]? = some (.cells #[.int .i64 m] 3 (0, 0))) :
    Calls Try.prog 22 #[.pointer (some ⟨g, 0, none⟩), .pointer (some ⟨g + 1, 0, none⟩)] W (Reck_s ((octL n m).map strOfNums) W) := by
  have c0 : W.cell? ⟨g, 0, none⟩ = some (.int .i64 n) := (blk_cell hb 0).trans rfl
  have d0 : W.cell? ⟨g + 1, 0, none⟩ = some (.int .i64 m) := (blk_cell hq 0).trans rfl
  have HE := Aside0.mk (octal_ends n m hn1)
  clear hb hq
  go_enter Try.func22, Try.ntmps22
  go_wp2_with fail
  refine (HE.out _).mono ?_
  rintro e w1 ⟨he, hb1⟩
  cases hL : octL n m with
  | none =>
    rw [hL] at he
    obtain rfl := he
    exact ⟨rfl, rfl, hb1⟩
  | some l =>
    rw [hL] at he
    obtain rfl := he
    have HB := Aside0.mk hb1
    clear hb1
    go_wp2_with fail
    go_ret
    unfold Reck_s
    rw [hL]
    exact ⟨rfl, HB.out⟩
set_option maxHeartbeats 4000000 in
theorem oct_calls (n m : Int) (hn0 : -9223372036854775808 ≤ n) (hn1 : n < 9223372036854775808) (w : World) :
    Calls Try.prog 9 #[.int .i64 n, .int .i64 m] w fun e w' => e = .returned (.tuple #[.string (octS n m).1, .bool (octS n m).2]) ∧ Below w.heap.size w w' := by
  have hmf : ∀ (fn : Fn) (first cap : Array Value) (w : World), (Instr.makeFunc fn first cap).run Try.prog w = .ok (.func fn first cap) w := fun _ _ _ _ => rfl
  have hR : Aside0 (octS n m = (((octL n m).map strOfNums).getD ⟨#[]⟩, ((octL n m).map strOfNums).isSome)) := ⟨by unfold octS; cases octL n m <;> rfl⟩
  have HC := Aside0.mk (fun (W : World) (hb : W.heap[w.heap.size]? = some (.cells #[.int .i64 n] 3 (0, 0))) (hq : W.heap[w.heap.size + 1]? = some (.cells #[.int .i64 m] 3 (0, 0))) => oct_reck w.heap.size n m hn0 hn1 W hb hq)
  go_enter Try.func9, Try.ntmps9
  go_wp2_with fail
  have H1 : Aside0 (((w.alloc (.cells #[.int .i64 n] 3)).alloc (.cells #[.int .i64 m] 3)).heap[w.heap.size]? = some (.cells #[.int .i64 n] 3 (0, 0))) := ⟨blk_alloc (heap_alloc_new _ _) _⟩
  have H2 : Aside0 (((w.alloc (.cells #[.int .i64 n] 3)).alloc (.cells #[.int .i64 m] 3)).heap[w.heap.size + 1]? = some (.cells #[.int .i64 m] 3 (0, 0))) := ⟨by have := heap_alloc_new (w.alloc (.cells #[.int .i64 n] 3)) (.cells #[.int .i64 m] 3); simpa using this⟩
  have HB : Aside0 (Below w.heap.size w ((w.alloc (.cells #[.int .i64 n] 3)).alloc (.cells #[.int .i64 m] 3))) := ⟨((Below.refl _ _).alloc (Nat.le_refl _) _).alloc (by simp) _⟩
  generalize (w.alloc (.cells #[.int .i64 n] 3)).alloc (.cells #[.int .i64 m] 3) = W0 at *
  refine (try_ends_s 22 #[.pointer (some ⟨w.heap.size, 0, none⟩), .pointer (some ⟨w.heap.size + 1, 0, none⟩)] _ W0 (cf22 _) (fun W hW => HC.out W ((hW.block _ (blk_lt H1.out)).trans H1.out) ((hW.block _ (blk_lt H2.out)).trans H2.out))).mono ?_
  rintro e w1 ⟨rfl, hb1⟩
  have HB2 := Aside0.mk (below_then HB.out HB.out.size hb1)
  rw [← hR.out]
  clear hb1
  go_wp2_with fail
  go_ret2
  exact ⟨rfl, HB2.out⟩

set_option maxHeartbeats 4000000 in
theorem base_reck (g : Nat) (n m : Int) (hn0 : -9223372036854775808 ≤ n) (hn1 : n < 9223372036854775808) (W : World) (hb : W.heap[g]? = some (.cells #[.int .i64 n] 3 (0, 0))) (hq : W.heap[g + 1]? = some (.cells #[.int .i64 m] 3 (0, 0))) :
    Calls Try.prog 24 #[.pointer (some ⟨g, 0, none⟩), .pointer (some ⟨g + 1, 0, none⟩)] W (Reck_s ((baseL n m).map strOfNums) W) := by
  have c0 : W.cell? ⟨g, 0, none⟩ = some (.int .i64 n) := (blk_cell hb 0).trans rfl
  have d0 : W.cell? ⟨g + 1, 0, none⟩ = some (.int .i64 m) := (blk_cell hq 0).trans rfl
  have HE := Aside0.mk (base_ends n m hn0 hn1)
  clear hb hq
  go_enter Try.func24, Try.ntmps24
  go_wp2_with fail
  refine (HE.out _).mono ?_
  rintro e w1 ⟨he, hb1⟩
  cases hL : baseL n m with
  | none =>
    rw [hL] at he
    obtain rfl := he
    exact ⟨rfl, rfl, hb1⟩
  | some l =>
    rw [hL] at he
    obtain rfl := he
    have HB := Aside0.mk hb1
    clear hb1
    go_wp2_with fail
    go_ret
    unfold Reck_s
    rw [hL]
    exact ⟨rfl, HB.out⟩
set_option maxHeartbeats 4000000 in
theorem base_calls (n m : Int) (hn0 : -9223372036854775808 ≤ n) (hn1 : n < 9223372036854775808) (w : World) :
    Calls Try.prog 10 #[.int .i64 n, .int .i64 m] w fun e w' => e = .returned (.tuple #[.string (baseS n m).1, .bool (baseS n m).2]) ∧ Below w.heap.size w w' := by
  have hmf : ∀ (fn : Fn) (first cap : Array Value) (w : World), (Instr.makeFunc fn first cap).run Try.prog w = .ok (.func fn first cap) w := fun _ _ _ _ => rfl
  have hR : Aside0 (baseS n m = (((baseL n m).map strOfNums).getD ⟨#[]⟩, ((baseL n m).map strOfNums).isSome)) := ⟨by unfold baseS; cases baseL n m <;> rfl⟩
  have HC := Aside0.mk (fun (W : World) (hb : W.heap[w.heap.size]? = some (.cells #[.int .i64 n] 3 (0, 0))) (hq : W.heap[w.heap.size + 1]? = some (.cells #[.int .i64 m] 3 (0, 0))) => base_reck w.heap.size n m hn0 hn1 W hb hq)
  go_enter Try.func10, Try.ntmps10
  go_wp2_with fail
  have H1 : Aside0 (((w.alloc (.cells #[.int .i64 n] 3)).alloc (.cells #[.int .i64 m] 3)).heap[w.heap.size]? = some (.cells #[.int .i64 n] 3 (0, 0))) := ⟨blk_alloc (heap_alloc_new _ _) _⟩
  have H2 : Aside0 (((w.alloc (.cells #[.int .i64 n] 3)).alloc (.cells #[.int .i64 m] 3)).heap[w.heap.size + 1]? = some (.cells #[.int .i64 m] 3 (0, 0))) := ⟨by have := heap_alloc_new (w.alloc (.cells #[.int .i64 n] 3)) (.cells #[.int .i64 m] 3); simpa using this⟩
  have HB : Aside0 (Below w.heap.size w ((w.alloc (.cells #[.int .i64 n] 3)).alloc (.cells #[.int .i64 m] 3))) := ⟨((Below.refl _ _).alloc (Nat.le_refl _) _).alloc (by simp) _⟩
  generalize (w.alloc (.cells #[.int .i64 n] 3)).alloc (.cells #[.int .i64 m] 3) = W0 at *
  refine (try_ends_s 24 #[.pointer (some ⟨w.heap.size, 0, none⟩), .pointer (some ⟨w.heap.size + 1, 0, none⟩)] _ W0 (cf24 _) (fun W hW => HC.out W ((hW.block _ (blk_lt H1.out)).trans H1.out) ((hW.block _ (blk_lt H2.out)).trans H2.out))).mono ?_
  rintro e w1 ⟨rfl, hb1⟩
  have HB2 := Aside0.mk (below_then HB.out HB.out.size hb1)
  rw [← hR.out]
  clear hb1
  go_wp2_with fail
  go_ret2
  exact ⟨rfl, HB2.out⟩
end Go.Proofs.Ytljahgpincaihaa
