/- Lemmas of this claim's session over the printed functions (plain Lean, no condition beyond those each theorem names). -/
import Derived.Laws.MathBits
import Derived.OpenShut
import Derived.Test.YthmapfhemiamhaaSx3
namespace Go.Proofs.Ythmapfhemiamhaa.Lib
set_option linter.unusedVariables false
set_option linter.unusedSimpArgs false
open Go.RowKit Go.Proofs.Ythmapfhemiamhaa.S Go.Proofs.YthmapfhemiamhaaW.PrintWords Go.Proofs.YthmapfhemiamhaaW.PrintLast Go.Proofs.YthmapfhemiamhaaW.PrintMore

theorem wf_u64 {a : Int} (h : (Lit.int .u64 a).wf = true) : 0 ≤ a ∧ a < 18446744073709551616 := by
  have := bounds_u64 h
  omega
theorem wu (x : Int) : IntKind.u64.wrap x = x % 18446744073709551616 := IntKind.wrap_u64 x
theorem wu_in {x : Int} (h0 : 0 ≤ x) (h : x < 18446744073709551616) : IntKind.u64.wrap x = x := by rw [wu]; omega

theorem mul64 (a b : Int) (ha0 : 0 ≤ a) (ha : a < 18446744073709551616) (hb0 : 0 ≤ b) (hb : b < 18446744073709551616) :
    bits_Mul64.f a b = some (a * b / 18446744073709551616, a * b % 18446744073709551616) := by
  have h := mul64_arith a b ha0 ha hb0 hb
  unfold bits_Mul64.f
  simp only [wu, and_low32 a ha0 ha, and_low32 b hb0 hb]
  rw [and_low32 _ (by omega) (by omega), h]
theorem mulf (a b : Int) (ha0 : 0 ≤ a) (ha : a < 18446744073709551616) (hb0 : 0 ≤ b) (hb : b < 18446744073709551616) :
    wide_Mul.f a b = some (a * b / 18446744073709551616, a * b % 18446744073709551616) := by
  unfold wide_Mul.f
  rw [mul64 a b ha0 ha hb0 hb]
  rfl

def bl (x : Int) : Int := (bitLen x.toNat : Int)
theorem bl_shift (x : Int) (b : Nat) (h : 2 ^ b ≤ x) : bl x = b + bl (x / 2 ^ b) := by
  unfold bl
  have h0 : 0 ≤ x := Int.le_trans (Int.le_of_lt (Int.pow_pos (by omega))) h
  obtain ⟨n, rfl⟩ := Int.eq_ofNat_of_zero_le h0
  have hp : 0 < 2 ^ b := Nat.two_pow_pos b
  have e : ((n : Int) / 2 ^ b).toNat = n / 2 ^ b := by
    have : ((n : Int) / 2 ^ b) = ((n / 2 ^ b : Nat) : Int) := by simp
    rw [this]; rfl
  rw [e]
  have hn : 2 ^ b ≤ n := by
    have : ((2 ^ b : Nat) : Int) ≤ (n : Int) := by simpa using h
    omega
  have := bitLen_shift n b (by have := Nat.div_pos hn hp; omega)
  simp only [Int.toNat_natCast]
  omega
theorem bl_le8 (x : Int) (h0 : 0 ≤ x) (h : x < 256) : 0 ≤ bl x ∧ bl x ≤ 8 := by
  have := bitLen_le8 x.toNat (by omega)
  unfold bl
  omega
set_option maxRecDepth 100000 in
theorem bt_tab (i : Int) (h0 : 0 ≤ i) (h : i < 256) : bt (⟨#[0, 1, 2, 2, 3, 3, 3, 3, 4, 4, 4, 4, 4, 4, 4, 4, 5, 5, 5, 5, 5, 5, 5, 5, 5, 5, 5, 5, 5, 5, 5, 5, 6, 6, 6, 6, 6, 6, 6, 6, 6, 6, 6, 6, 6, 6, 6, 6, 6, 6, 6, 6, 6, 6, 6, 6, 6, 6, 6, 6, 6, 6, 6, 6, 7, 7, 7, 7, 7, 7, 7, 7, 7, 7, 7, 7, 7, 7, 7, 7, 7, 7, 7, 7, 7, 7, 7, 7, 7, 7, 7, 7, 7, 7, 7, 7, 7, 7, 7, 7, 7, 7, 7, 7, 7, 7, 7, 7, 7, 7, 7, 7, 7, 7, 7, 7, 7, 7, 7, 7, 7, 7, 7, 7, 7, 7, 7, 7, 8, 8, 8, 8, 8, 8, 8, 8, 8, 8, 8, 8, 8, 8, 8, 8, 8, 8, 8, 8, 8, 8, 8, 8, 8, 8, 8, 8, 8, 8, 8, 8, 8, 8, 8, 8, 8, 8, 8, 8, 8, 8, 8, 8, 8, 8, 8, 8, 8, 8, 8, 8, 8, 8, 8, 8, 8, 8, 8, 8, 8, 8, 8, 8, 8, 8, 8, 8, 8, 8, 8, 8, 8, 8, 8, 8, 8, 8, 8, 8, 8, 8, 8, 8, 8, 8, 8, 8, 8, 8, 8, 8, 8, 8, 8, 8, 8, 8, 8, 8, 8, 8, 8, 8, 8, 8, 8, 8, 8, 8, 8, 8, 8, 8, 8, 8, 8, 8, 8, 8, 8, 8, 8, 8, 8, 8, 8, 8]⟩ : ByteArray) i = bl i := by
  have all : ∀ j : Fin 256, bt (⟨#[0, 1, 2, 2, 3, 3, 3, 3, 4, 4, 4, 4, 4, 4, 4, 4, 5, 5, 5, 5, 5, 5, 5, 5, 5, 5, 5, 5, 5, 5, 5, 5, 6, 6, 6, 6, 6, 6, 6, 6, 6, 6, 6, 6, 6, 6, 6, 6, 6, 6, 6, 6, 6, 6, 6, 6, 6, 6, 6, 6, 6, 6, 6, 6, 7, 7, 7, 7, 7, 7, 7, 7, 7, 7, 7, 7, 7, 7, 7, 7, 7, 7, 7, 7, 7, 7, 7, 7, 7, 7, 7, 7, 7, 7, 7, 7, 7, 7, 7, 7, 7, 7, 7, 7, 7, 7, 7, 7, 7, 7, 7, 7, 7, 7, 7, 7, 7, 7, 7, 7, 7, 7, 7, 7, 7, 7, 7, 7, 8, 8, 8, 8, 8, 8, 8, 8, 8, 8, 8, 8, 8, 8, 8, 8, 8, 8, 8, 8, 8, 8, 8, 8, 8, 8, 8, 8, 8, 8, 8, 8, 8, 8, 8, 8, 8, 8, 8, 8, 8, 8, 8, 8, 8, 8, 8, 8, 8, 8, 8, 8, 8, 8, 8, 8, 8, 8, 8, 8, 8, 8, 8, 8, 8, 8, 8, 8, 8, 8, 8, 8, 8, 8, 8, 8, 8, 8, 8, 8, 8, 8, 8, 8, 8, 8, 8, 8, 8, 8, 8, 8, 8, 8, 8, 8, 8, 8, 8, 8, 8, 8, 8, 8, 8, 8, 8, 8, 8, 8, 8, 8, 8, 8, 8, 8, 8, 8, 8, 8, 8, 8, 8, 8, 8, 8, 8, 8]⟩ : ByteArray) (j.val : Int) = bl (j.val : Int) := by decide +kernel
  have := all ⟨i.toNat, by omega⟩
  have e : ((i.toNat : Nat) : Int) = i := by omega
  simpa only [e] using this
theorem w64 {x : Int} (h0 : -9223372036854775808 ≤ x) (h : x ≤ 9223372036854775807) : wrap64 x = x := by unfold wrap64; omega
theorem bl_spec (x : Int) (h0 : 0 < x) : 2 ^ (bl x - 1).toNat ≤ x ∧ x < 2 ^ (bl x).toNat ∧ 1 ≤ bl x := by
  obtain ⟨n, rfl⟩ := Int.eq_ofNat_of_zero_le (Int.le_of_lt h0)
  have h := bitLen_spec n
  have hn : n ≠ 0 := by omega
  have h2 := h.2 hn
  have h1 : 1 ≤ bitLen n := by unfold bitLen; rw [if_neg hn]; omega
  unfold bl
  simp only [Int.toNat_natCast]
  have e : ((bitLen n : Int) - 1).toNat = bitLen n - 1 := by omega
  rw [e]
  refine ⟨by exact_mod_cast h2, by exact_mod_cast h.1, by omega⟩
theorem bl_le64 (x : Int) (h0 : 0 ≤ x) (h : x < 18446744073709551616) : 0 ≤ bl x ∧ bl x ≤ 64 := by
  refine ⟨by unfold bl; omega, ?_⟩
  by_cases c : x = 0
  · subst c; decide
  · have s := bl_spec x (by omega)
    by_cases d : bl x ≤ 64
    · exact d
    · have : (2 : Int) ^ 64 ≤ 2 ^ (bl x - 1).toNat := by
        have := Nat.pow_le_pow_right (show 0 < 2 by omega) (show 64 ≤ (bl x - 1).toNat by omega)
        exact_mod_cast this
      omega
end Go.Proofs.Ythmapfhemiamhaa.Lib
