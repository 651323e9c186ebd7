/- TextJoins: two texts are one text, with as many signs; cut within a sign it is none there; a byte 255 between is where none begins. No conditions. -/
import Derived.Test.YtljodbbmcgpcnaaGTextJoinsx1
import Derived.Test.YtljodbbmcgpcnaaSigns
import Derived.OpenShut
namespace Go.Proofs.Ytljodbbmcgpcnaa.Pure
set_option linter.unusedVariables false
set_option linter.unusedSimpArgs false
open Go.RowKit Go.Proofs.Ytljodbbmcgpcnaa.GTextJoins Go.Proofs.YtljodbbmcgpcnaaW.PrintWords Go.Proofs.YtljodbbmcgpcnaaW.PrintLast

theorem w64 {n : Int} (h0 : 0 ≤ n) (h1 : n < 9223372036854775808) : wrap64 n = n := by unfold wrap64; omega
theorem mask64 (i : Nat) (hi : i ≤ 40) (x : Int) (h0 : 0 ≤ x) (h1 : x < 1099511627776) : Go.bits .and .i64 x (2 ^ i - 1) = x % 2 ^ i := by
  have hw : ∀ n : Int, 0 ≤ n → n < 2 ^ 40 → IntKind.i64.wrap n = n := by
    intro n a b
    simp only [IntKind.wrap, IntKind.bits, IntKind.signed]
    have : (2 : Int) ^ 40 = 1099511627776 := by decide
    simp
    omega
  have e2 : (2 : Int) ^ 40 = 1099511627776 := by decide
  exact bits_mask .i64 40 (by decide) hw i (by omega) x h0 (by omega)
theorem m63 (x : Int) (h0 : 0 ≤ x) (h1 : x < 1099511627776) : Go.bits .and .i64 x 63 = x % 64 := by simpa using mask64 6 (by omega) x h0 h1
theorem m31 (x : Int) (h0 : 0 ≤ x) (h1 : x < 1099511627776) : Go.bits .and .i64 x 31 = x % 32 := by simpa using mask64 5 (by omega) x h0 h1
theorem m1 (x : Int) (h0 : 0 ≤ x) (h1 : x < 1099511627776) : Go.bits .and .i64 x 1 = x % 2 := by simpa using mask64 1 (by omega) x h0 h1
/-- The number's bytes. -/
theorem put_is (n : Int) (h0 : 0 ≤ n) (h1 : n < 2097152) : gripsacklaw5_put.f n = some (strOfNums (putL n)) := by
  unfold gripsacklaw5_put.f putL
  rw [m63 n h0 (by omega), m63 (n / 64) (by omega) (by omega), m63 (n / 4096) (by omega) (by omega)]
  rw [w64 (n := 192 + n / 64) (by omega) (by omega), w64 (n := 128 + n % 64) (by omega) (by omega), w64 (n := 224 + n / 4096) (by omega) (by omega), w64 (n := 128 + n / 64 % 64) (by omega) (by omega),
    w64 (n := 240 + n / 262144) (by omega) (by omega), w64 (n := 128 + n / 4096 % 64) (by omega) (by omega)]
  by_cases a : n < 128
  · rw [if_pos a, if_pos a]
    rw [show n % 256 = n from by omega]
  rw [if_neg a, if_neg a]
  by_cases b : n < 2048
  · rw [if_pos b, if_pos b, show (192 + n / 64) % 256 = 192 + n / 64 from by omega, show (128 + n % 64) % 256 = 128 + n % 64 from by omega]
  rw [if_neg b, if_neg b]
  by_cases c : n < 65536
  · rw [if_pos c, if_pos c, show (224 + n / 4096) % 256 = 224 + n / 4096 from by omega, show (128 + n % 64) % 256 = 128 + n % 64 from by omega, show (128 + n / 64 % 64) % 256 = 128 + n / 64 % 64 from by omega]
  rw [if_neg c, if_neg c, show (240 + n / 262144) % 256 = 240 + n / 262144 from by omega, show (128 + n % 64) % 256 = 128 + n % 64 from by omega, show (128 + n / 64 % 64) % 256 = 128 + n / 64 % 64 from by omega,
    show (128 + n / 4096 % 64) % 256 = 128 + n / 4096 % 64 from by omega]
theorem awake_true : gripsacklaw5_awake.f = some true := by decide +kernel

theorem bytesOf_size (s : ByteArray) : (bytesOf s).length = s.size := bytesOf_length s
theorem rd_range (l : List Int) (h : ∀ x ∈ l, (Lit.int .u32 x).wf = true) (i : Nat) (hi : i < l.length) : 0 ≤ rd l (i : Int) ∧ rd l (i : Int) ≤ 4294967295 := by
  have e : rd l (i : Int) = l[i] := by simp [rd, List.getD_eq_getElem?_getD, hi]
  rw [e]
  exact bounds_u32 (h _ (List.getElem_mem hi))
theorem sign_of (n : Int) (h0 : 0 ≤ n) (h1 : n < 2097152) (hg : good n = true) : Signs (bytesOf (strOfNums (putL n))) 1 := by
  rw [bytesOf_strOfNums _ (putL_bytes n h0 h1)]
  exact Signs.one (putL_ne n) (by rw [sgL_put n h0 h1, if_pos hg])
theorem put_size (n : Int) : (strOfNums (putL n)).size ≤ 4 := by rw [strOfNums_size]; exact putL_len n

theorem loop0 (l0 l1 : List Int) (a2 : Int) (hl : l0.length ≤ 50) (hw : ∀ x ∈ l0, (Lit.int .u32 x).wf = true) (K : Nat) :
    ∀ (d i c : Nat) (s : ByteArray), i + d = l0.length → Signs (bytesOf s) c → c ≤ i → s.size ≤ 4 * i →
      ∃ (s' : ByteArray) (c' : Nat), Signs (bytesOf s') c' ∧ c' ≤ 50 ∧ s'.size ≤ 200 ∧ gripsacklaw5_TextJoins.l0 (K + 1 + d) l0 l1 a2 s ⟨#[]⟩ c i = gripsacklaw5_TextJoins.l1 K l1 a2 s' ⟨#[]⟩ c' 0 := by
  intro d
  induction d with
  | zero =>
    intro i c s hd hs hc hz
    refine ⟨s, c, hs, by omega, by omega, ?_⟩
    simp only [Nat.add_zero, gripsacklaw5_TextJoins.l0]
    rw [if_neg (by omega)]
  | succ d ih =>
    intro i c s hd hs hc hz
    have hr := rd_range l0 hw i (by omega)
    rw [show K + 1 + (d + 1) = (K + 1 + d) + 1 from by omega]
    simp only [gripsacklaw5_TextJoins.l0]
    rw [if_pos (by omega), if_pos (by omega), w64 (n := rd l0 (i : Int)) hr.1 (by omega), Int.tmod_eq_emod_of_nonneg hr.1]
    generalize hn : rd l0 (i : Int) % 1114112 = n
    have n0 : 0 ≤ n := by omega
    have n1 : n < 1114112 := by omega
    have hi : wrap64 ((i : Int) + 1) = ((i + 1 : Nat) : Int) := by rw [w64 (by omega) (by omega)]; omega
    have hci : wrap64 ((c : Int) + 1) = ((c + 1 : Nat) : Int) := by rw [w64 (by omega) (by omega)]; omega
    have hp := put_size n
    have hgo : good n = true → ∃ (s' : ByteArray) (c' : Nat), Signs (bytesOf s') c' ∧ c' ≤ 50 ∧ s'.size ≤ 200 ∧
        gripsacklaw5_TextJoins.l0 (K + 1 + d) l0 l1 a2 (s ++ strOfNums (putL n)) ⟨#[]⟩ ((c + 1 : Nat) : Int) ((i + 1 : Nat) : Int) = gripsacklaw5_TextJoins.l1 K l1 a2 s' ⟨#[]⟩ c' 0 := fun hg =>
      ih (i + 1) (c + 1) _ (by omega) (by rw [bytesOf_append]; exact hs.append (sign_of n n0 (by omega) hg)) (by omega) (by rw [ByteArray.size_append]; omega)
    by_cases a : n < 55296
    · rw [if_pos a, put_is n n0 (by omega)]
      simp only [Option.bind_some]
      rw [if_pos (by omega), hi, hci]
      exact hgo (by simp [good, a]; omega)
    · rw [if_neg a]
      by_cases b : n > 57343
      · rw [if_pos b, put_is n n0 (by omega)]
        simp only [Option.bind_some]
        rw [if_pos (by omega), hi, hci]
        exact hgo (by simp [good, b]; omega)
      · rw [if_neg b, hi]
        exact ih (i + 1) c s (by omega) hs (by omega) (by omega)

theorem loop1 (l1 : List Int) (a2 : Int) (hl : l1.length ≤ 50) (hw : ∀ x ∈ l1, (Lit.int .u32 x).wf = true) (K : Nat) (s : ByteArray) (c : Int) :
    ∀ (d i : Nat) (t : ByteArray), i + d = l1.length → Signs (bytesOf t) i → t.size ≤ 4 * i →
      ∃ t' : ByteArray, Signs (bytesOf t') l1.length ∧ t'.size ≤ 200 ∧ gripsacklaw5_TextJoins.l1 (K + d) l1 a2 s t c i = gripsacklaw5_TextJoins.l1 K l1 a2 s t' c l1.length := by
  intro d
  induction d with
  | zero =>
    intro i t hd ht hz
    obtain rfl : i = l1.length := by omega
    exact ⟨t, ht, by omega, rfl⟩
  | succ d ih =>
    intro i t hd ht hz
    have hr := rd_range l1 hw i (by omega)
    rw [show K + (d + 1) = (K + d) + 1 from by omega]
    have hi : wrap64 ((i : Int) + 1) = ((i + 1 : Nat) : Int) := by rw [w64 (by omega) (by omega)]; omega
    have hp := put_size (rd l1 (i : Int) % 55296)
    have hstep : gripsacklaw5_TextJoins.l1 ((K + d) + 1) l1 a2 s t c i = gripsacklaw5_TextJoins.l1 (K + d) l1 a2 s (t ++ strOfNums (putL (rd l1 (i : Int) % 55296))) c ((i + 1 : Nat) : Int) := by
      conv => lhs; unfold gripsacklaw5_TextJoins.l1
      rw [if_pos (by omega), if_pos (by omega), w64 (n := rd l1 (i : Int)) hr.1 (by omega), Int.tmod_eq_emod_of_nonneg hr.1, hi, put_is _ (by omega) (by omega)]
      simp only [Option.bind_some]
      rw [if_pos (by omega)]
    obtain ⟨t', h1, h2, h3⟩ := ih (i + 1) _ (by omega) (by rw [bytesOf_append]; exact ht.append (sign_of (rd l1 (i : Int) % 55296) (by omega) (by omega) (by simp [good]; omega))) (by rw [ByteArray.size_append]; omega)
    exact ⟨t', h1, h2, hstep.trans h3⟩

theorem read_of (s : ByteArray) (l : List Int) (hs : s.size ≤ 1000) (hb : bytesOf s = l) : text_read.f s = some (readL l) := by rw [read_list s (by omega), hb]
theorem ff_bytes : bytesOf (⟨#[255]⟩ : ByteArray) = [255] := by decide
theorem ff_size (s : ByteArray) : (s ++ (⟨#[255]⟩ : ByteArray)).size = s.size + 1 := by rw [ByteArray.size_append]; rfl
theorem ff_between (s t : ByteArray) : bytesOf (s ++ (⟨#[255]⟩ : ByteArray) ++ t) = bytesOf s ++ (255 :: bytesOf t) := by rw [bytesOf_append, bytesOf_append, List.append_assoc, ff_bytes, List.singleton_append]
theorem bad_of (s : ByteArray) (l : List Int) (hs : s.size ≤ 1000) (hb : bytesOf s = l) : text_Bad.f s = some (readL l).1 := by unfold text_Bad.f; rw [read_of s l hs hb, Option.bind_some]
theorem valid_of (s : ByteArray) (l : List Int) (n : Nat) (hs : s.size ≤ 1000) (hb : bytesOf s = l) (h : Signs l n) : text_Valid.f s = some true := by
  unfold text_Valid.f; rw [bad_of s l hs hb, read_signs h]; rfl
theorem count_of (s : ByteArray) (l : List Int) (n : Nat) (hs : s.size ≤ 1000) (hb : bytesOf s = l) (h : Signs l n) : text_Count.f s = some (n : Int) := by
  unfold text_Count.f; rw [read_of s l hs hb, read_signs h]; rfl
theorem bad_ff (s t : ByteArray) (c : Nat) (hs : Signs (bytesOf s) c) (hz : s.size ≤ 200) (ht : t.size ≤ 200) : text_Bad.f (s ++ (⟨#[255]⟩ : ByteArray) ++ t) = some (s.size : Int) := by
  rw [bad_of _ _ (by rw [ByteArray.size_append, ff_size]; omega) (ff_between s t), read_stop hs (by simp) (sgL_ff _), bytesOf_length]
theorem last (l1 : List Int) (a2 : Int) (ha0 : 0 ≤ a2) (ha1 : a2 ≤ 255) (hl : l1.length ≤ 50) (K : Nat) (s t : ByteArray) (c : Nat) (hs : Signs (bytesOf s) c) (hc : c ≤ 50) (hsz : s.size ≤ 200)
    (ht : Signs (bytesOf t) l1.length) (htz : t.size ≤ 200) : gripsacklaw5_TextJoins.l1 (K + 1) l1 a2 s t c l1.length = some true := by
  simp only [gripsacklaw5_TextJoins.l1]
  rw [if_neg (by omega), w64 (n := (t.size : Int) + 1) (by omega) (by omega), if_neg (by omega), w64 (n := a2) ha0 (by omega), Int.tmod_eq_emod_of_nonneg ha0]
  generalize hn : a2 % ((t.size : Int) + 1) = n
  have n0 : 0 ≤ n := by rw [← hn]; exact Int.emod_nonneg _ (by omega)
  have n1 : n < (t.size : Int) + 1 := by rw [← hn]; exact Int.emod_lt_of_pos _ (by omega)
  rw [if_pos n0, if_pos (by omega)]
  obtain ⟨p, n2, q, hp, hpq, hq⟩ := ht.cut n.toNat
  have hst : (s ++ t).size ≤ 1000 := by rw [ByteArray.size_append]; omega
  have hv1 := valid_of s _ c (by omega) rfl hs
  have hv2 := valid_of t _ _ (by omega) rfl ht
  have hv3 := valid_of (s ++ t) _ _ hst (bytesOf_append s t) (hs.append ht)
  have hc3 := count_of (s ++ t) _ _ hst (bytesOf_append s t) (hs.append ht)
  have hb5 := bad_ff s t c hs hsz htz
  have hz5 := ff_size s
  have hbp : text_Bad.f (t.extract 0 n.toNat) = some (readL (p ++ q)).1 := bad_of _ _ (by rw [ByteArray.size_extract]; omega) ((bytesOf_take t n.toNat).trans hpq)
  have hln : n = ((p ++ q).length : Int) := by rw [← hpq, List.length_take, bytesOf_length]; omega
  rw [hbp, Option.bind_some, hv1, Option.bind_some, if_pos rfl, hv2, Option.bind_some, if_pos rfl, if_pos (show s.size + t.size ≤ 9223372036854775807 by omega), hv3, Option.bind_some, if_pos rfl, hc3, Option.bind_some]
  rw [if_pos (show ((c + l1.length : Nat) : Int) = wrap64 ((c : Int) + (l1.length : Int)) by rw [w64 (by omega) (by omega)]; omega)]
  have e1 : s.size + 1 ≤ 9223372036854775807 := by omega
  have e2 : (s ++ (⟨#[255]⟩ : ByteArray)).size + t.size ≤ 9223372036854775807 := by omega
  rcases hq with rfl | ⟨h1, h2, h3⟩
  · rw [List.append_nil, read_signs hp]
    rw [if_pos (by omega), if_pos e1, if_pos e2, hb5, Option.bind_some, if_pos rfl, awake_true, Option.bind_some]
  · have hq0 : 0 < q.length := List.length_pos_iff.2 h1
    rw [read_stop hp h1 h2]
    simp only [List.length_append] at hln ⊢
    rw [if_neg (by omega), if_pos (by omega), w64 (n := n - (p.length : Int)) (by omega) (by omega), if_pos (by omega), if_pos e1, if_pos e2, hb5, Option.bind_some, if_pos rfl, awake_true, Option.bind_some]
theorem TextJoins : gripsacklaw5_TextJoins.Pure := by
  intro l0 l1 a2 _ _ hw0 _ _ hw1 ha
  obtain ⟨a0, a1⟩ := bounds_u8 ha
  unfold gripsacklaw5_TextJoins.f
  by_cases h0 : (l0.length : Int) > 50
  · refine ⟨1, ?_⟩
    rw [if_pos h0]; simp only [gripsacklaw5_TextJoins.j0, awake_true]; rfl
  by_cases h1 : (l1.length : Int) > 50
  · refine ⟨1, ?_⟩
    rw [if_neg h0]; simp only [h1, decide_true, gripsacklaw5_TextJoins.j0, awake_true]; rfl
  · refine ⟨(0 + 1 + l1.length) + 1 + l0.length + 1, ?_⟩
    rw [if_neg h0]
    simp only [h1, decide_false, gripsacklaw5_TextJoins.j0, Bool.false_eq_true, if_false]
    obtain ⟨s, c, hs, hc, hz, e⟩ := loop0 l0 l1 a2 (by omega) hw0 (0 + 1 + l1.length) l0.length 0 0 ⟨#[]⟩ (by omega) .nil (by omega) (by simp [ByteArray.size])
    obtain ⟨t, ht, htz, e'⟩ := loop1 l1 a2 (by omega) hw1 (0 + 1) s c l1.length 0 ⟨#[]⟩ (by omega) .nil (by simp [ByteArray.size])
    have e2 := e.trans (e'.trans (last l1 a2 a0 a1 (by omega) 0 s t c hs hc hz ht htz))
    exact e2
end Go.Proofs.Ytljodbbmcgpcnaa.Pure
