/- The law's Make: some caps that may be, by numbers. -/
import Derived.Test.YtaaeidlekmeaiaaOther
import Derived.Test.YtaaeidlekmeaiaaBackPlain
namespace Go.Proofs.Ytaaeidlekmeaiaa
set_option linter.unusedVariables false
set_option linter.unusedSimpArgs false
open Go.RowKit Go.Proofs.YtaaeidlekmeaiaaW.PrintWords

set_option maxHeartbeats 1000000 in
theorem make_2 (p i wh root : Int) (e : Bool) (h0 : 0 ≤ wh) (h1 : wh ≤ 255) (hm : wh % 2 = 0) (he : decide (wh ≥ 128) = e) (w : World) :
    Calls Try.prog 14 #[.int .u64 p, .int .u64 i, .int .u8 wh, .int .u32 root] w fun x w' => x = .returned (.agg #[.int .i64 2, .int .u64 p, .int .u64 i, .bool e, .int .i64 0]) ∧ Below w.heap.size w w' := by
  have hu24 := Try.underlying24
  have hw : IntKind.i64.wrap wh = wh := by simp only [IntKind.wrap, IntKind.bits, IntKind.signed]; simp; omega
  have hw2 : wrap64 wh = wh := by unfold wrap64; omega
  have ht : Int.tmod wh 2 = 0 := by rw [Int.tmod_eq_emod_of_nonneg h0]; exact hm
  have he2 : decide (128 ≤ wh) = e := he
  clear hm h0 h1
  go_enter Try.func14, Try.ntmps14
  go_wp2_with fail
  refine bodyPost_ret (results_cell_row rfl _ _ w.heap.size 24 #[.int .i64 2, .int .u64 p, .int .u64 i, .bool e, .int .i64 0] (0, 0) _ rfl (blk_alloc (heap_alloc_new _ _) _) Try.underlying24 rfl (by kernel_rfl)) rfl ?_
  exact ⟨rfl, ((Below.refl _ _).alloc (Nat.le_refl _) _).alloc (by simp) _⟩
set_option maxHeartbeats 1000000 in
theorem make_3 (p i wh root : Int) (e : Bool) (h0 : 0 ≤ wh) (h1 : wh ≤ 255) (hm : wh % 2 = 1) (he : decide (wh ≥ 128) = e) (r0 : 0 ≤ root) (r1 : root ≤ 4294967295) (w : World) :
    Calls Try.prog 14 #[.int .u64 p, .int .u64 i, .int .u8 wh, .int .u32 root] w fun x w' => x = .returned (.agg #[.int .i64 3, .int .u64 p, .int .u64 i, .bool e, .int .i64 (root / 2)]) ∧ Below w.heap.size w w' := by
  have hu24 := Try.underlying24
  have hw : IntKind.i64.wrap wh = wh := by simp only [IntKind.wrap, IntKind.bits, IntKind.signed]; simp; omega
  have hw2 : wrap64 wh = wh := by unfold wrap64; omega
  have hr : IntKind.i64.wrap root = root := by simp only [IntKind.wrap, IntKind.bits, IntKind.signed]; simp; omega
  have hr2 : wrap64 root = root := by unfold wrap64; omega
  have ht : Int.tmod wh 2 = 1 := by rw [Int.tmod_eq_emod_of_nonneg h0]; exact hm
  have he2 : decide (128 ≤ wh) = e := he
  clear hm h0 h1 r0 r1
  go_enter Try.func14, Try.ntmps14
  go_wp2_with fail
  refine bodyPost_ret (results_cell_row rfl _ _ w.heap.size 24 #[.int .i64 3, .int .u64 p, .int .u64 i, .bool e, .int .i64 (root / 2)] (0, 0) _ rfl (blk_alloc (heap_alloc_new _ _) _) Try.underlying24 rfl (by kernel_rfl)) rfl ?_
  exact ⟨rfl, ((Below.refl _ _).alloc (Nat.le_refl _) _).alloc (by simp) _⟩
end Go.Proofs.Ytaaeidlekmeaiaa
