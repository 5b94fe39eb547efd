/- Lemmas of this claim's session over the printed functions (plain Lean, no condition beyond those each theorem names). -/
import Derived.Laws.MathBits
import Derived.OpenShut
import Derived.Test.YtdgbehbiigggmaaYx3
import Derived.Test.YtdgbehbiigggmaaYx4
namespace Go.Proofs.Ytdgbehbiigggmaa.Lib
set_option linter.unusedVariables false
set_option linter.unusedSimpArgs false
open Go.RowKit Go.Proofs.Ytdgbehbiigggmaa.Y Go.Proofs.YtdgbehbiigggmaaW.PrintWords Go.Proofs.YtdgbehbiigggmaaW.PrintLast Go.Proofs.YtdgbehbiigggmaaW.PrintMore

theorem wf_u64 {a : Int} (h : (Lit.int .u64 a).wf = true) : 0 ≤ a ∧ a < 18446744073709551616 := by
  have := bounds_u64 h
  omega
theorem wu (x : Int) : IntKind.u64.wrap x = x % 18446744073709551616 := IntKind.wrap_u64 x
theorem wu_in {x : Int} (h0 : 0 ≤ x) (h : x < 18446744073709551616) : IntKind.u64.wrap x = x := by rw [wu]; omega

theorem mul64 (a b : Int) (ha0 : 0 ≤ a) (ha : a < 18446744073709551616) (hb0 : 0 ≤ b) (hb : b < 18446744073709551616) :
    bits_Mul64.f a b = some (a * b / 18446744073709551616, a * b % 18446744073709551616) := by
  have h := mul64_arith a b ha0 ha hb0 hb
  unfold bits_Mul64.f
  simp only [wu, and_low32 a ha0 ha, and_low32 b hb0 hb]
  rw [and_low32 _ (by omega) (by omega), h]
theorem mulf (a b : Int) (ha0 : 0 ≤ a) (ha : a < 18446744073709551616) (hb0 : 0 ≤ b) (hb : b < 18446744073709551616) :
    wide_Mul.f a b = some (a * b / 18446744073709551616, a * b % 18446744073709551616) := by
  unfold wide_Mul.f
  rw [mul64 a b ha0 ha hb0 hb]
  rfl

def bl (x : Int) : Int := (bitLen x.toNat : Int)
theorem bl_shift (x : Int) (b : Nat) (h : 2 ^ b ≤ x) : bl x = b + bl (x / 2 ^ b) := by
  unfold bl
  have h0 : 0 ≤ x := Int.le_trans (Int.le_of_lt (Int.pow_pos (by omega))) h
  obtain ⟨n, rfl⟩ := Int.eq_ofNat_of_zero_le h0
  have hp : 0 < 2 ^ b := Nat.two_pow_pos b
  have e : ((n : Int) / 2 ^ b).toNat = n / 2 ^ b := by
    have : ((n : Int) / 2 ^ b) = ((n / 2 ^ b : Nat) : Int) := by simp
    rw [this]; rfl
  rw [e]
  have hn : 2 ^ b ≤ n := by
    have : ((2 ^ b : Nat) : Int) ≤ (n : Int) := by simpa using h
    omega
  have := bitLen_shift n b (by have := Nat.div_pos hn hp; omega)
  simp only [Int.toNat_natCast]
  omega
theorem bl_le8 (x : Int) (h0 : 0 ≤ x) (h : x < 256) : 0 ≤ bl x ∧ bl x ≤ 8 := by
  have := bitLen_le8 x.toNat (by omega)
  unfold bl
  omega
set_option maxRecDepth 100000 in
theorem bt_tab (i : Int) (h0 : 0 ≤ i) (h : i < 256) : bt (⟨#[0, 1, 2, 2, 3, 3, 3, 3, 4, 4, 4, 4, 4, 4, 4, 4, 5, 5, 5, 5, 5, 5, 5, 5, 5, 5, 5, 5, 5, 5, 5, 5, 6, 6, 6, 6, 6, 6, 6, 6, 6, 6, 6, 6, 6, 6, 6, 6, 6, 6, 6, 6, 6, 6, 6, 6, 6, 6, 6, 6, 6, 6, 6, 6, 7, 7, 7, 7, 7, 7, 7, 7, 7, 7, 7, 7, 7, 7, 7, 7, 7, 7, 7, 7, 7, 7, 7, 7, 7, 7, 7, 7, 7, 7, 7, 7, 7, 7, 7, 7, 7, 7, 7, 7, 7, 7, 7, 7, 7, 7, 7, 7, 7, 7, 7, 7, 7, 7, 7, 7, 7, 7, 7, 7, 7, 7, 7, 7, 8, 8, 8, 8, 8, 8, 8, 8, 8, 8, 8, 8, 8, 8, 8, 8, 8, 8, 8, 8, 8, 8, 8, 8, 8, 8, 8, 8, 8, 8, 8, 8, 8, 8, 8, 8, 8, 8, 8, 8, 8, 8, 8, 8, 8, 8, 8, 8, 8, 8, 8, 8, 8, 8, 8, 8, 8, 8, 8, 8, 8, 8, 8, 8, 8, 8, 8, 8, 8, 8, 8, 8, 8, 8, 8, 8, 8, 8, 8, 8, 8, 8, 8, 8, 8, 8, 8, 8, 8, 8, 8, 8, 8, 8, 8, 8, 8, 8, 8, 8, 8, 8, 8, 8, 8, 8, 8, 8, 8, 8, 8, 8, 8, 8, 8, 8, 8, 8, 8, 8, 8, 8, 8, 8, 8, 8, 8, 8]⟩ : ByteArray) i = bl i := by
  have all : ∀ j : Fin 256, bt (⟨#[0, 1, 2, 2, 3, 3, 3, 3, 4, 4, 4, 4, 4, 4, 4, 4, 5, 5, 5, 5, 5, 5, 5, 5, 5, 5, 5, 5, 5, 5, 5, 5, 6, 6, 6, 6, 6, 6, 6, 6, 6, 6, 6, 6, 6, 6, 6, 6, 6, 6, 6, 6, 6, 6, 6, 6, 6, 6, 6, 6, 6, 6, 6, 6, 7, 7, 7, 7, 7, 7, 7, 7, 7, 7, 7, 7, 7, 7, 7, 7, 7, 7, 7, 7, 7, 7, 7, 7, 7, 7, 7, 7, 7, 7, 7, 7, 7, 7, 7, 7, 7, 7, 7, 7, 7, 7, 7, 7, 7, 7, 7, 7, 7, 7, 7, 7, 7, 7, 7, 7, 7, 7, 7, 7, 7, 7, 7, 7, 8, 8, 8, 8, 8, 8, 8, 8, 8, 8, 8, 8, 8, 8, 8, 8, 8, 8, 8, 8, 8, 8, 8, 8, 8, 8, 8, 8, 8, 8, 8, 8, 8, 8, 8, 8, 8, 8, 8, 8, 8, 8, 8, 8, 8, 8, 8, 8, 8, 8, 8, 8, 8, 8, 8, 8, 8, 8, 8, 8, 8, 8, 8, 8, 8, 8, 8, 8, 8, 8, 8, 8, 8, 8, 8, 8, 8, 8, 8, 8, 8, 8, 8, 8, 8, 8, 8, 8, 8, 8, 8, 8, 8, 8, 8, 8, 8, 8, 8, 8, 8, 8, 8, 8, 8, 8, 8, 8, 8, 8, 8, 8, 8, 8, 8, 8, 8, 8, 8, 8, 8, 8, 8, 8, 8, 8, 8, 8]⟩ : ByteArray) (j.val : Int) = bl (j.val : Int) := by decide +kernel
  have := all ⟨i.toNat, by omega⟩
  have e : ((i.toNat : Nat) : Int) = i := by omega
  simpa only [e] using this
theorem w64 {x : Int} (h0 : -9223372036854775808 ≤ x) (h : x ≤ 9223372036854775807) : wrap64 x = x := by unfold wrap64; omega
theorem len_j0 (k : Nat) (x n : Int) (h0 : 0 ≤ x) (h : x < 4294967296) (hn0 : 0 ≤ n) (hn : n ≤ 32) : bits_Len64.j0 (k + 1) x n = some (n + bl x) := by
  have leaf : ∀ y m : Int, 0 ≤ y → y < 256 → 0 ≤ m → m ≤ 1000 → (if 0 ≤ (y % 256) then (if (y % 256) < 256 then (some (wrap64 (m + (wrap64 (bt (⟨#[0, 1, 2, 2, 3, 3, 3, 3, 4, 4, 4, 4, 4, 4, 4, 4, 5, 5, 5, 5, 5, 5, 5, 5, 5, 5, 5, 5, 5, 5, 5, 5, 6, 6, 6, 6, 6, 6, 6, 6, 6, 6, 6, 6, 6, 6, 6, 6, 6, 6, 6, 6, 6, 6, 6, 6, 6, 6, 6, 6, 6, 6, 6, 6, 7, 7, 7, 7, 7, 7, 7, 7, 7, 7, 7, 7, 7, 7, 7, 7, 7, 7, 7, 7, 7, 7, 7, 7, 7, 7, 7, 7, 7, 7, 7, 7, 7, 7, 7, 7, 7, 7, 7, 7, 7, 7, 7, 7, 7, 7, 7, 7, 7, 7, 7, 7, 7, 7, 7, 7, 7, 7, 7, 7, 7, 7, 7, 7, 8, 8, 8, 8, 8, 8, 8, 8, 8, 8, 8, 8, 8, 8, 8, 8, 8, 8, 8, 8, 8, 8, 8, 8, 8, 8, 8, 8, 8, 8, 8, 8, 8, 8, 8, 8, 8, 8, 8, 8, 8, 8, 8, 8, 8, 8, 8, 8, 8, 8, 8, 8, 8, 8, 8, 8, 8, 8, 8, 8, 8, 8, 8, 8, 8, 8, 8, 8, 8, 8, 8, 8, 8, 8, 8, 8, 8, 8, 8, 8, 8, 8, 8, 8, 8, 8, 8, 8, 8, 8, 8, 8, 8, 8, 8, 8, 8, 8, 8, 8, 8, 8, 8, 8, 8, 8, 8, 8, 8, 8, 8, 8, 8, 8, 8, 8, 8, 8, 8, 8, 8, 8, 8, 8, 8, 8, 8, 8]⟩ : ByteArray) (y % 256)))))) else (none)) else (none)) = some (m + bl y) := by
    intro y m y0 y1 m0 m1
    have b := bl_le8 y y0 y1
    have e : y % 256 = y := by omega
    rw [e, if_pos y0, if_pos y1, bt_tab y y0 y1, w64 (x := bl y) (by omega) (by omega), w64 (by omega) (by omega)]
  rw [bits_Len64.j0]
  by_cases c : x ≥ 65536
  · rw [if_pos c]
    have s1 := bl_shift x 16 (by simpa using c)
    by_cases d : x / 65536 ≥ 256
    · rw [if_pos d]
      have s2 := bl_shift (x / 65536) 8 (by simpa using d)
      rw [leaf _ _ (by omega) (by omega) (by unfold wrap64; omega) (by unfold wrap64; omega)]
      simp only [Int.reducePow] at s1 s2
      rw [s1, s2]
      congr 1
      unfold wrap64
      omega
    · rw [if_neg d]
      rw [leaf _ _ (by omega) (by omega) (by unfold wrap64; omega) (by unfold wrap64; omega)]
      simp only [Int.reducePow] at s1
      rw [s1]
      congr 1
      unfold wrap64
      omega
  · rw [if_neg c]
    by_cases d : x ≥ 256
    · rw [if_pos d]
      have s2 := bl_shift x 8 (by simpa using d)
      rw [leaf _ _ (by omega) (by omega) (by unfold wrap64; omega) (by unfold wrap64; omega)]
      simp only [Int.reducePow] at s2
      rw [s2]
      congr 1
      unfold wrap64
      omega
    · rw [if_neg d]
      exact leaf _ _ (by omega) (by omega) (by omega) (by omega)
theorem len64 (k : Nat) (x : Int) (h0 : 0 ≤ x) (h : x < 18446744073709551616) : bits_Len64.f (k + 1) x = some (bl x) := by
  unfold bits_Len64.f
  by_cases c : x ≥ 4294967296
  · rw [if_pos c]
    have s1 := bl_shift x 32 (by simpa using c)
    simp only [Int.reducePow] at s1
    rw [len_j0 k _ 32 (by omega) (by omega) (by omega) (by omega), s1]
    rfl
  · rw [if_neg c, len_j0 k _ 0 (by omega) (by omega) (by omega) (by omega)]
    simp
theorem bl_spec (x : Int) (h0 : 0 < x) : 2 ^ (bl x - 1).toNat ≤ x ∧ x < 2 ^ (bl x).toNat ∧ 1 ≤ bl x := by
  obtain ⟨n, rfl⟩ := Int.eq_ofNat_of_zero_le (Int.le_of_lt h0)
  have h := bitLen_spec n
  have hn : n ≠ 0 := by omega
  have h2 := h.2 hn
  have h1 : 1 ≤ bitLen n := by unfold bitLen; rw [if_neg hn]; omega
  unfold bl
  simp only [Int.toNat_natCast]
  have e : ((bitLen n : Int) - 1).toNat = bitLen n - 1 := by omega
  rw [e]
  refine ⟨by exact_mod_cast h2, by exact_mod_cast h.1, by omega⟩
theorem bl_le64 (x : Int) (h0 : 0 ≤ x) (h : x < 18446744073709551616) : 0 ≤ bl x ∧ bl x ≤ 64 := by
  refine ⟨by unfold bl; omega, ?_⟩
  by_cases c : x = 0
  · subst c; decide
  · have s := bl_spec x (by omega)
    by_cases d : bl x ≤ 64
    · exact d
    · have : (2 : Int) ^ 64 ≤ 2 ^ (bl x - 1).toNat := by
        have := Nat.pow_le_pow_right (show 0 < 2 by omega) (show 64 ≤ (bl x - 1).toNat by omega)
        exact_mod_cast this
      omega
theorem lead64 (k : Nat) (x : Int) (h0 : 0 ≤ x) (h : x < 18446744073709551616) : bits_LeadingZeros64.f (k + 1) x = some (64 - bl x) := by
  have b := bl_le64 x h0 h
  unfold bits_LeadingZeros64.f
  rw [len64 k x h0 h]
  simp only [Option.bind_some]
  rw [w64 (by omega) (by omega)]
end Go.Proofs.Ytdgbehbiigggmaa.Lib
