/- EscapeBack: bytes are told again by their name, which has plain signs alone; two side by side are one behind the other; small letters are no digits. No conditions. -/
import Derived.Test.YtkojlnjhndnfkaaGCx4
import Derived.Test.YtkojlnjhndnfkaaLaws
import Derived.OpenShut
namespace Go.Proofs.Ytkojlnjhndnfkaa.Pure
set_option linter.unusedVariables false
set_option linter.unusedSimpArgs false
open Go.RowKit Go.Proofs.Ytkojlnjhndnfkaa.GC Go.Proofs.YtkojlnjhndnfkaaW.PrintWords Go.Proofs.YtkojlnjhndnfkaaW.PrintLast

theorem low (s : ByteArray) : (getE (escB s ++ ⟨#[37, 51, 100]⟩)).2 = false := by
  rw [Bool.eq_false_iff, Ne, getE_tail]
  rintro ⟨l, h, _⟩
  have : decL (bytesOf ⟨#[37, 51, 100]⟩) = none := by decide +kernel
  rw [this] at h; cases h
theorem plain (s : ByteArray) : (getE (escB s ++ ⟨#[37, 52, 49]⟩)).2 = false := by
  rw [Bool.eq_false_iff, Ne, getE_tail]
  rintro ⟨l, h, h2⟩
  have : decL (bytesOf ⟨#[37, 52, 49]⟩) = some [65] := by decide +kernel
  rw [this] at h
  obtain rfl := Option.some.inj h
  revert h2
  decide +kernel
theorem blank (s : ByteArray) : (getE (escB s ++ ⟨#[32]⟩)).2 = false := by
  rw [Bool.eq_false_iff, Ne, getE_tail]
  rintro ⟨l, h, h2⟩
  have : decL (bytesOf ⟨#[32]⟩) = some [32] := by decide +kernel
  rw [this] at h
  obtain rfl := Option.some.inj h
  revert h2
  decide +kernel
theorem cut (s : ByteArray) : (getE (escB s ++ ⟨#[37, 52]⟩)).2 = false := by
  rw [Bool.eq_false_iff, Ne, getE_tail]
  rintro ⟨l, h, _⟩
  have : decL (bytesOf ⟨#[37, 52]⟩) = none := by decide +kernel
  rw [this] at h; cases h

theorem loop (s t : ByteArray) (hs : s.size ≤ 200) (ht : t.size ≤ 200) : ∀ (n i : Nat), i ≤ (escB s).size → (escB s).size - i ≤ n → gripsacklaw4_EscapeBack.l0 (n + 1) s t (escB s) s true i = some true := by
  have hz := escB_size s
  have hzt := escB_size t
  intro n
  induction n with
  | zero =>
    intro i hi hn
    have h0 : ¬ ((i : Int) < ((escB s).size : Int)) := by omega
    rw [gripsacklaw4_EscapeBack.l0, if_neg h0, if_pos (by omega), escGet_is (by rw [ByteArray.size_append]; show (escB s).size + 3 ≤ _; omega), Option.bind_some, escGet_is (by rw [ByteArray.size_append]; show (escB s).size + 3 ≤ _; omega), Option.bind_some,
      if_pos (by omega), escGet_is (by rw [ByteArray.size_append]; show (escB s).size + 1 ≤ _; omega), Option.bind_some, if_pos (by omega), escGet_is (by rw [ByteArray.size_append]; show (escB s).size + 2 ≤ _; omega), Option.bind_some, if_pos rfl, if_pos rfl,
      if_pos (by omega), escPut_is (by rw [ByteArray.size_append]; omega), Option.bind_some, escPut_is (by omega), Option.bind_some, if_pos (by omega), if_pos (by rw [escB_append]), low, if_neg (by decide), plain, if_neg (by decide), blank, if_neg (by decide), cut, if_neg (by decide), awake_true]
    rfl
  | succ n ih =>
    intro i hi hn
    by_cases hlt : i < (escB s).size
    · obtain ⟨h1, h2, h3⟩ := escB_plain s i hlt
      rw [gripsacklaw4_EscapeBack.l0, if_pos (by omega), if_pos (by omega), if_neg (by omega), if_neg (by omega), if_neg h3]
      have := ih (i + 1) hlt (by omega)
      rw [show wrap64 ((i : Int) + 1) = ((i + 1 : Nat) : Int) from by unfold wrap64; omega]
      exact this
    · have h0 := ih i hi (by omega)
      have hm := (gripsacklaw4_EscapeBack.mono_l (n + 1)).2 s t (escB s) s true i
      exact hm _ h0
theorem EscapeBack : gripsacklaw4_EscapeBack.Pure := by
  intro s t _ _
  refine ⟨700, ?_⟩
  have hz := escB_size s
  unfold gripsacklaw4_EscapeBack.f
  by_cases h1 : (s.size : Int) > 200
  · rw [if_pos h1, gripsacklaw4_EscapeBack.j0, if_pos rfl, awake_true]; rfl
  · rw [if_neg h1]
    by_cases h2 : (t.size : Int) > 200
    · rw [decide_eq_true h2, gripsacklaw4_EscapeBack.j0, if_pos rfl, awake_true]; rfl
    · rw [decide_eq_false h2, gripsacklaw4_EscapeBack.j0, if_neg (by decide), escPut_is (by omega), Option.bind_some, escGet_is (by omega), Option.bind_some, getE_escB]
      exact loop s t (by omega) (by omega) 698 0 (by omega) (by omega)
end Go.Proofs.Ytkojlnjhndnfkaa.Pure
