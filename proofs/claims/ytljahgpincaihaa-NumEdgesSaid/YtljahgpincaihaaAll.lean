/- NumAll walked: what any number is in a field of any width, and what any bytes are as one, is the document's. -/
import Derived.Test.YtljahgpincaihaaFields
import Derived.OpenShut
namespace Go.Proofs.Ytljahgpincaihaa
set_option linter.unusedVariables false
set_option linter.unusedSimpArgs false
open Go.RowKit Go.Proofs.Ytljahgpincaihaa.GE Go.Proofs.YtljahgpincaihaaW.PrintWords Go.Proofs.YtljahgpincaihaaW.PrintLast Go.Proofs.YtljahgpincaihaaW.PrintMore

theorem awake_true : gripsacklaw1_awake.f = some true := by decide +kernel
theorem awake_calls (w : World) : Calls Try.prog 8 #[] w fun e w' => e = .returned (.bool true) ∧ Below w.heap.size w w' := gripsacklaw1_awake.calls true w awake_true
set_option maxHeartbeats 4000000 in
set_option maxRecDepth 100000 in
theorem all_far (n m : Int) (s : ByteArray) (hs : 100 < s.size) (w : World) : Calls Try.prog 3 #[.int .i64 n, .int .i64 m, .string s] w fun e w' => e = .returned (.bool true) ∧ Below w.heap.size w w' := by
  have q0 : decide ((s.size : Int) > 100) = true := decide_eq_true (by omega)
  go_enter Try.func3, Try.ntmps3
  go_wp2_with fail
  refine (awake_calls _).mono ?_
  rintro e w1 ⟨rfl, hb⟩
  have HB := Aside0.mk hb
  clear hb
  go_wp2_with fail
  go_ret
  exact ⟨rfl, HB.out⟩
set_option maxHeartbeats 8000000 in
set_option maxRecDepth 100000 in
theorem all_near (n m : Int) (s : ByteArray) (n0 : -9223372036854775808 ≤ n) (n1 : n < 9223372036854775808) (hs : s.size ≤ 100) (w : World) : Calls Try.prog 3 #[.int .i64 n, .int .i64 m, .string s] w fun e w' => e = .returned (.bool true) ∧ Below w.heap.size w w' := by
  have q0 : decide ((s.size : Int) > 100) = false := decide_eq_false (by omega)
  have H9 := Aside0.mk (oct_calls n m n0 n1)
  have H10 := Aside0.mk (base_calls n m n0 n1)
  have H11 := Aside0.mk (fun W => num_Field.calls n m (fieldS n m).1 (fieldS n m).2 W (field_is n0 n1))
  have H12 := Aside0.mk (fun W => gripsackref1_Octal.calls 60 n m (octS n m).1 (octS n m).2 W (ref_octal n m n1 60 (by decide)))
  have H13 := Aside0.mk (fun W => gripsackref1_Base.calls 60 n m (baseS n m).1 (baseS n m).2 W (ref_base n m n0 n1 60 (by decide)))
  have H14 := Aside0.mk (fun W => gripsackref1_Field.calls 60 n m (fieldS n m).1 (fieldS n m).2 W (ref_field n m n0 n1 60 (by decide)))
  have H15 := Aside0.mk (rdo_calls s (by omega))
  have H16 := Aside0.mk (rdb_calls s (by omega))
  have H17 := Aside0.mk (fun W => num_ReadField.calls s (rfS s).1 (rfS s).2 W (readField_is (by omega)))
  have H18 := Aside0.mk (fun W => gripsackref1_ReadOctal.calls 60 s (rdOS s).1 (rdOS s).2 W (ref_rdo s 60 (by decide)))
  have H19 := Aside0.mk (fun W => gripsackref1_ReadBase.calls 60 s (rdBS s).1 (rdBS s).2 W (ref_rdb s 60 (by decide)))
  have H20 := Aside0.mk (ref_rf s)
  have HAW := Aside0.mk awake_calls
  clear n0 n1
  generalize (octS n m).1 = a at *
  generalize (octS n m).2 = ao at *
  generalize (baseS n m).1 = b at *
  generalize (baseS n m).2 = bo at *
  generalize (fieldS n m).1 = c at *
  generalize (fieldS n m).2 = co at *
  generalize (rdOS s).1 = p at *
  generalize (rdOS s).2 = po at *
  generalize (rdBS s).1 = q at *
  generalize (rdBS s).2 = qo at *
  generalize (rfS s).1 = r at *
  generalize (rfS s).2 = ro at *
  go_enter Try.func3, Try.ntmps3
  go_wp2_with fail
  refine (H9.out _).mono ?_
  rintro e w1 ⟨rfl, hb⟩
  have B1 := Aside0.mk hb
  clear hb
  go_wp2_with fail
  refine (H10.out _).mono ?_
  rintro e w2 ⟨rfl, hb⟩
  have B2 := Aside0.mk (below_then B1.out B1.out.size hb)
  clear hb B1
  go_wp2_with fail
  refine (H11.out _).mono ?_
  rintro e w3 ⟨rfl, hb⟩
  have B3 := Aside0.mk (below_then B2.out B2.out.size hb)
  clear hb B2
  go_wp2_with fail
  refine (H12.out _).mono ?_
  rintro e w4 ⟨rfl, hb⟩
  have B4 := Aside0.mk (below_then B3.out B3.out.size hb)
  clear hb B3
  go_wp2_with fail
  refine (H13.out _).mono ?_
  rintro e w5 ⟨rfl, hb⟩
  have B5 := Aside0.mk (below_then B4.out B4.out.size hb)
  clear hb B4
  go_wp2_with fail
  refine (H14.out _).mono ?_
  rintro e w6 ⟨rfl, hb⟩
  have B6 := Aside0.mk (below_then B5.out B5.out.size hb)
  clear hb B5
  go_wp2_with fail
  have B7 : Aside0 (Below w.heap.size w (((w6.alloc (.cells #[.string a, .bool ao] 26)).alloc (.cells #[.string b, .bool bo] 26)).alloc (.cells #[.string c, .bool co] 26))) := ⟨below_alloc (below_alloc (below_alloc B6.out _) _) _⟩
  generalize ((w6.alloc (.cells #[.string a, .bool ao] 26)).alloc (.cells #[.string b, .bool bo] 26)).alloc (.cells #[.string c, .bool co] 26) = w7 at *
  refine (H15.out _).mono ?_
  rintro e w8 ⟨rfl, hb⟩
  have B8 := Aside0.mk (below_then B7.out B7.out.size hb)
  clear hb B7
  go_wp2_with fail
  refine (H16.out _).mono ?_
  rintro e w9 ⟨rfl, hb⟩
  have B9 := Aside0.mk (below_then B8.out B8.out.size hb)
  clear hb B8
  go_wp2_with fail
  refine (H17.out _).mono ?_
  rintro e w10 ⟨rfl, hb⟩
  have B10 := Aside0.mk (below_then B9.out B9.out.size hb)
  clear hb B9
  go_wp2_with fail
  refine (H18.out _).mono ?_
  rintro e w11 ⟨rfl, hb⟩
  have B11 := Aside0.mk (below_then B10.out B10.out.size hb)
  clear hb B10
  go_wp2_with fail
  refine (H19.out _).mono ?_
  rintro e w12 ⟨rfl, hb⟩
  have B12 := Aside0.mk (below_then B11.out B11.out.size hb)
  clear hb B11
  go_wp2_with fail
  refine (H20.out _).mono ?_
  rintro e w13 ⟨rfl, hb⟩
  have B13 := Aside0.mk (below_then B12.out B12.out.size hb)
  clear hb B12
  go_wp2_with fail
  have B14 : Aside0 (Below w.heap.size w (((w13.alloc (.cells #[.int .i64 p, .bool po] 31)).alloc (.cells #[.int .i64 q, .bool qo] 31)).alloc (.cells #[.int .i64 r, .bool ro] 31))) := ⟨below_alloc (below_alloc (below_alloc B13.out _) _) _⟩
  refine (HAW.out _).mono ?_
  rintro e w20 ⟨rfl, hb⟩
  have B20 := Aside0.mk (below_then B14.out B14.out.size hb)
  clear hb
  go_wp2_with fail
  go_ret
  exact ⟨rfl, B20.out⟩
theorem num_all (n m : Int) (s : ByteArray) (w : World) (h0 : (Lit.int .i64 n).wf = true) (h1 : (Lit.int .i64 m).wf = true) (h2 : s.size ≤ 140737488351232) : Calls Try.prog 3 #[.int .i64 n, .int .i64 m, .string s] w fun e w' => e = .returned (.bool true) ∧ Below w.heap.size w w' := by
  obtain ⟨n0, n1⟩ := bounds_i64 h0
  by_cases h : s.size ≤ 100
  · exact all_near n m s n0 (by omega) h w
  · exact all_far n m s (by omega) w
end Go.Proofs.Ytljahgpincaihaa
