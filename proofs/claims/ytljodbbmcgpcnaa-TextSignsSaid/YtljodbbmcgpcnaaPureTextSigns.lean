/- TextSigns: each number that a sign may have makes one sign, others make none, and in more bytes than it needs it is none. No conditions. -/
import Derived.Test.YtljodbbmcgpcnaaGTextSignsx1
import Derived.Test.YtljodbbmcgpcnaaSigns
import Derived.OpenShut
namespace Go.Proofs.Ytljodbbmcgpcnaa.Pure
set_option linter.unusedVariables false
open Go.RowKit Go.Proofs.Ytljodbbmcgpcnaa.GTextSigns Go.Proofs.YtljodbbmcgpcnaaW.PrintWords Go.Proofs.YtljodbbmcgpcnaaW.PrintLast

theorem w64 {n : Int} (h0 : 0 ≤ n) (h1 : n < 9223372036854775808) : wrap64 n = n := by unfold wrap64; omega
theorem mask64 (i : Nat) (hi : i ≤ 40) (x : Int) (h0 : 0 ≤ x) (h1 : x < 1099511627776) : Go.bits .and .i64 x (2 ^ i - 1) = x % 2 ^ i := by
  have hw : ∀ n : Int, 0 ≤ n → n < 2 ^ 40 → IntKind.i64.wrap n = n := by
    intro n a b
    simp only [IntKind.wrap, IntKind.bits, IntKind.signed]
    have : (2 : Int) ^ 40 = 1099511627776 := by decide
    simp
    omega
  have e2 : (2 : Int) ^ 40 = 1099511627776 := by decide
  exact bits_mask .i64 40 (by decide) hw i (by omega) x h0 (by omega)
theorem m63 (x : Int) (h0 : 0 ≤ x) (h1 : x < 1099511627776) : Go.bits .and .i64 x 63 = x % 64 := by simpa using mask64 6 (by omega) x h0 h1
theorem m31 (x : Int) (h0 : 0 ≤ x) (h1 : x < 1099511627776) : Go.bits .and .i64 x 31 = x % 32 := by simpa using mask64 5 (by omega) x h0 h1
theorem m1 (x : Int) (h0 : 0 ≤ x) (h1 : x < 1099511627776) : Go.bits .and .i64 x 1 = x % 2 := by simpa using mask64 1 (by omega) x h0 h1
/-- The number's bytes. -/
theorem put_is (n : Int) (h0 : 0 ≤ n) (h1 : n < 2097152) : gripsacklaw5_put.f n = some (strOfNums (putL n)) := by
  unfold gripsacklaw5_put.f putL
  rw [m63 n h0 (by omega), m63 (n / 64) (by omega) (by omega), m63 (n / 4096) (by omega) (by omega)]
  rw [w64 (n := 192 + n / 64) (by omega) (by omega), w64 (n := 128 + n % 64) (by omega) (by omega), w64 (n := 224 + n / 4096) (by omega) (by omega), w64 (n := 128 + n / 64 % 64) (by omega) (by omega),
    w64 (n := 240 + n / 262144) (by omega) (by omega), w64 (n := 128 + n / 4096 % 64) (by omega) (by omega)]
  by_cases a : n < 128
  · rw [if_pos a, if_pos a]
    rw [show n % 256 = n from by omega]
  rw [if_neg a, if_neg a]
  by_cases b : n < 2048
  · rw [if_pos b, if_pos b, show (192 + n / 64) % 256 = 192 + n / 64 from by omega, show (128 + n % 64) % 256 = 128 + n % 64 from by omega]
  rw [if_neg b, if_neg b]
  by_cases c : n < 65536
  · rw [if_pos c, if_pos c, show (224 + n / 4096) % 256 = 224 + n / 4096 from by omega, show (128 + n % 64) % 256 = 128 + n % 64 from by omega, show (128 + n / 64 % 64) % 256 = 128 + n / 64 % 64 from by omega]
  rw [if_neg c, if_neg c, show (240 + n / 262144) % 256 = 240 + n / 262144 from by omega, show (128 + n % 64) % 256 = 128 + n % 64 from by omega, show (128 + n / 64 % 64) % 256 = 128 + n / 64 % 64 from by omega,
    show (128 + n / 4096 % 64) % 256 = 128 + n / 4096 % 64 from by omega]
theorem awake_true : gripsacklaw5_awake.f = some true := by decide +kernel
theorem valid_none (l : List Int) (s : ByteArray) (hb : bytesOf s = l) (hs : s.size ≤ 140737488351232) (hne : l ≠ []) (hz : sgL l = 0) : text_Valid.f s = some false := by
  unfold text_Valid.f text_Bad.f
  rw [read_list s hs, hb, read_none hne hz]; rfl
theorem valid_one (l : List Int) (s : ByteArray) (hb : bytesOf s = l) (hs : s.size ≤ 140737488351232) (hne : l ≠ []) (hz : sgL l = l.length) : text_Valid.f s = some true ∧ text_Count.f s = some 1 := by
  unfold text_Valid.f text_Bad.f text_Count.f
  rw [read_list s hs, hb, read_signs (Signs.one hne hz)]; exact ⟨rfl, rfl⟩
theorem TextSigns : gripsacklaw5_TextSigns.Pure := by
  intro a h
  obtain ⟨h0, h1⟩ := bounds_u32 h
  refine ⟨1, ?_⟩
  unfold gripsacklaw5_TextSigns.f
  rw [w64 h0 (by omega), Int.tmod_eq_emod_of_nonneg h0]
  generalize hn : a % 2097152 = n
  have n0 : 0 ≤ n := by omega
  have n1 : n < 2097152 := by omega
  clear hn
  rw [put_is n n0 n1]
  simp only [Option.bind_some]
  have hbl : bytesOf (strOfNums (putL n)) = putL n := bytesOf_strOfNums _ (putL_bytes n n0 n1)
  have hsz : (strOfNums (putL n)).size ≤ 140737488351232 := by rw [strOfNums_size]; have := putL_len n; omega
  -- what is longer than it needs to be
  have hlong : text_Valid.f ((⟨#[224]⟩ : ByteArray) ++ strOfNums [128 + n / 64 % 32, 128 + n % 64]) = some false := by
    refine valid_none [224, 128 + n / 64 % 32, 128 + n % 64] _ ?_ ?_ (by simp) ?_
    · rw [bytesOf_append, bytesOf_strOfNums _ (by intro x hx; simp at hx; omega)]; rfl
    · rw [ByteArray.size_append, strOfNums_size]; simp [ByteArray.size]
    · rw [sgL_three (x := n / 64 % 32 * 64 + n % 64) (by omega) (by omega) (by omega) (by omega), if_neg (by simp [okX]; omega)]
  have htwo : text_Valid.f (strOfNums [192 + n / 64 % 2, 128 + n % 64]) = some false := by
    refine valid_none [192 + n / 64 % 2, 128 + n % 64] _ ?_ ?_ (by simp) ?_
    · rw [bytesOf_strOfNums _ (by intro x hx; simp at hx; omega)]
    · rw [strOfNums_size]; simp
    · rw [sgL_two (x := n / 64 % 2 * 64 + n % 64) (by omega) (by omega) (by omega), if_neg (by simp [okX]; omega)]
  have hall : ∀ g : Bool, g = good n → gripsacklaw5_TextSigns.j0 1 n (strOfNums (putL n)) g = some true := by
    intro g hg
    simp only [gripsacklaw5_TextSigns.j0]
    rw [m31 (n / 64) (by omega) (by omega), m63 n n0 (by omega), m1 (n / 64) (by omega) (by omega), w64 (n := 128 + n / 64 % 32) (by omega) (by omega), w64 (n := 128 + n % 64) (by omega) (by omega), w64 (n := 192 + n / 64 % 2) (by omega) (by omega),
      show (128 + n / 64 % 32) % 256 = 128 + n / 64 % 32 from by omega, show (128 + n % 64) % 256 = 128 + n % 64 from by omega, show (192 + n / 64 % 2) % 256 = 192 + n / 64 % 2 from by omega]
    simp only [Option.bind_some]
    rw [if_pos (by rw [strOfNums_size]; simp), hlong, htwo, awake_true]
    cases hgn : good n with
    | true =>
      obtain ⟨hv, hc⟩ := valid_one (putL n) _ hbl hsz (putL_ne n) (by rw [sgL_put n n0 n1, if_pos hgn])
      rw [hg, hgn, hv, hc]; rfl
    | false =>
      have hv := valid_none (putL n) _ hbl hsz (putL_ne n) (by rw [sgL_put n n0 n1, if_neg (by rw [hgn]; simp)])
      rw [hg, hgn, hv]; rfl
  by_cases a1 : n ≤ 1114111
  · rw [if_pos a1]
    by_cases a2 : n < 55296
    · rw [if_pos a2]; exact hall _ (by simp [good, a1, a2])
    · rw [if_neg a2]; exact hall _ (by simp [good, a1, a2])
  · rw [if_neg a1]; exact hall _ (by simp [good, a1])
end Go.Proofs.Ytljodbbmcgpcnaa.Pure
