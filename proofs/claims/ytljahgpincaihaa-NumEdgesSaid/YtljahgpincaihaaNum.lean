/- num.ReadOctal and num.ReadBase walked; the four as the callers' walks want them. -/
import Derived.Test.YtljahgpincaihaaReadB
namespace Go.Proofs.Ytljahgpincaihaa
set_option linter.unusedVariables false
set_option linter.unusedSimpArgs false
open Go.RowKit Go.Proofs.YtljahgpincaihaaW.PrintWords

set_option maxHeartbeats 4000000 in
theorem rdo_calls (s : ByteArray) (hs : s.size ≤ 140737488351232) (w : World) :
    Calls Try.prog 15 #[.string s] w fun e w' => e = .returned (.tuple #[.int .i64 (rdOS s).1, .bool (rdOS s).2]) ∧ Below w.heap.size w w' := by
  have hmf : ∀ (fn : Fn) (first cap : Array Value) (w : World), (Instr.makeFunc fn first cap).run Try.prog w = .ok (.func fn first cap) w := fun _ _ _ _ => rfl
  have hR : Aside0 (rdOS s = ((rdO (bytesOf s)).getD 0, (rdO (bytesOf s)).isSome)) := ⟨rfl⟩
  have HC := Aside0.mk (fun (W : World) (hb : W.heap[w.heap.size]? = some (.cells #[.string s] 9 (0, 0))) => rdoct_reck w.heap.size s hs W hb)
  go_enter Try.func15, Try.ntmps15
  go_wp2_with fail
  have H1 : Aside0 ((w.alloc (.cells #[.string s] 9)).heap[w.heap.size]? = some (.cells #[.string s] 9 (0, 0))) := ⟨heap_alloc_new _ _⟩
  have HB : Aside0 (Below w.heap.size w (w.alloc (.cells #[.string s] 9))) := ⟨(Below.refl _ _).alloc (Nat.le_refl _) _⟩
  generalize w.alloc (.cells #[.string s] 9) = W0 at *
  refine (try_ends_n 27 #[.pointer (some ⟨w.heap.size, 0, none⟩)] _ W0 (cf27 _) (fun W hW => HC.out W ((hW.block _ (blk_lt H1.out)).trans H1.out))).mono ?_
  rintro e w1 ⟨rfl, hb1⟩
  have HB2 := Aside0.mk (below_then HB.out HB.out.size hb1)
  rw [← hR.out]
  clear hb1
  go_wp2_with fail
  go_ret2
  exact ⟨rfl, HB2.out⟩

set_option maxHeartbeats 4000000 in
theorem rdb_calls (s : ByteArray) (hs : s.size ≤ 140737488351232) (w : World) :
    Calls Try.prog 16 #[.string s] w fun e w' => e = .returned (.tuple #[.int .i64 (rdBS s).1, .bool (rdBS s).2]) ∧ Below w.heap.size w w' := by
  have hmf : ∀ (fn : Fn) (first cap : Array Value) (w : World), (Instr.makeFunc fn first cap).run Try.prog w = .ok (.func fn first cap) w := fun _ _ _ _ => rfl
  have hR : Aside0 (rdBS s = ((rdB (bytesOf s)).getD 0, (rdB (bytesOf s)).isSome)) := ⟨rfl⟩
  have HC := Aside0.mk (fun (W : World) (hb : W.heap[w.heap.size]? = some (.cells #[.string s] 9 (0, 0))) => rdbase_reck w.heap.size s hs W hb)
  go_enter Try.func16, Try.ntmps16
  go_wp2_with fail
  have H1 : Aside0 ((w.alloc (.cells #[.string s] 9)).heap[w.heap.size]? = some (.cells #[.string s] 9 (0, 0))) := ⟨heap_alloc_new _ _⟩
  have HB : Aside0 (Below w.heap.size w (w.alloc (.cells #[.string s] 9))) := ⟨(Below.refl _ _).alloc (Nat.le_refl _) _⟩
  generalize w.alloc (.cells #[.string s] 9) = W0 at *
  refine (try_ends_n 30 #[.pointer (some ⟨w.heap.size, 0, none⟩)] _ W0 (cf30 _) (fun W hW => HC.out W ((hW.block _ (blk_lt H1.out)).trans H1.out))).mono ?_
  rintro e w1 ⟨rfl, hb1⟩
  have HB2 := Aside0.mk (below_then HB.out HB.out.size hb1)
  rw [← hR.out]
  clear hb1
  go_wp2_with fail
  go_ret2
  exact ⟨rfl, HB2.out⟩

/-! ### As the callers' walks want them -/
def numOct.f (a0 a1 : Int) : Option (ByteArray × Bool) := if -9223372036854775808 ≤ a0 ∧ a0 < 9223372036854775808 then some (octS a0 a1) else none
theorem numOct.calls (a0 a1 : Int) (r1 : ByteArray) (r2 : Bool) (w : World) (h : numOct.f a0 a1 = some (r1, r2)) : Calls Try.prog 9 #[.int .i64 a0, .int .i64 a1] w fun e w' => e = .returned (.tuple #[.string r1, .bool r2]) ∧ Below w.heap.size w w' := by
  unfold numOct.f at h
  split at h
  · rename_i hs
    have h := Option.some.inj h
    refine (oct_calls a0 a1 hs.1 hs.2 w).mono fun e w' ⟨he, hw⟩ => ⟨?_, hw⟩
    rw [he, h]
  · cases h
def numBase.f (a0 a1 : Int) : Option (ByteArray × Bool) := if -9223372036854775808 ≤ a0 ∧ a0 < 9223372036854775808 then some (baseS a0 a1) else none
theorem numBase.calls (a0 a1 : Int) (r1 : ByteArray) (r2 : Bool) (w : World) (h : numBase.f a0 a1 = some (r1, r2)) : Calls Try.prog 10 #[.int .i64 a0, .int .i64 a1] w fun e w' => e = .returned (.tuple #[.string r1, .bool r2]) ∧ Below w.heap.size w w' := by
  unfold numBase.f at h
  split at h
  · rename_i hs
    have h := Option.some.inj h
    refine (base_calls a0 a1 hs.1 hs.2 w).mono fun e w' ⟨he, hw⟩ => ⟨?_, hw⟩
    rw [he, h]
  · cases h
def numRdO.f (a0 : ByteArray) : Option (Int × Bool) := if a0.size ≤ 140737488351232 then some (rdOS a0) else none
theorem numRdO.calls (a0 : ByteArray) (r1 : Int) (r2 : Bool) (w : World) (h : numRdO.f a0 = some (r1, r2)) : Calls Try.prog 15 #[.string a0] w fun e w' => e = .returned (.tuple #[.int .i64 r1, .bool r2]) ∧ Below w.heap.size w w' := by
  unfold numRdO.f at h
  split at h
  · rename_i hs
    have h := Option.some.inj h
    refine (rdo_calls a0 hs w).mono fun e w' ⟨he, hw⟩ => ⟨?_, hw⟩
    rw [he, h]
  · cases h
def numRdB.f (a0 : ByteArray) : Option (Int × Bool) := if a0.size ≤ 140737488351232 then some (rdBS a0) else none
theorem numRdB.calls (a0 : ByteArray) (r1 : Int) (r2 : Bool) (w : World) (h : numRdB.f a0 = some (r1, r2)) : Calls Try.prog 16 #[.string a0] w fun e w' => e = .returned (.tuple #[.int .i64 r1, .bool r2]) ∧ Below w.heap.size w w' := by
  unfold numRdB.f at h
  split at h
  · rename_i hs
    have h := Option.some.inj h
    refine (rdb_calls a0 hs w).mono fun e w' ⟨he, hw⟩ => ⟨?_, hw⟩
    rw [he, h]
  · cases h
end Go.Proofs.Ytljahgpincaihaa
