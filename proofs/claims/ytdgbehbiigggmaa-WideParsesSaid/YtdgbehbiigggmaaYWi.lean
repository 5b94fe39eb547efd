/- The program's shifts are products and quotients by powers of two (plain Lean over the printed functions). -/
import Derived.Test.YtdgbehbiigggmaaYWh
namespace Go.Proofs.Ytdgbehbiigggmaa.Lib
open Go.RowKit Go.Proofs.Ytdgbehbiigggmaa.Y Go.Proofs.YtdgbehbiigggmaaW.PrintWords Go.Proofs.YtdgbehbiigggmaaW.PrintLast Go.Proofs.YtdgbehbiigggmaaW.PrintMore
set_option linter.unusedVariables false
set_option linter.unusedSimpArgs false

theorem split_mul2 (x p q : Int) (hp : 0 < p) (hq : 0 < q) (e : p * q = 18446744073709551616) : x * p = x / q * 18446744073709551616 + x % q * p ∧ 0 ≤ x % q * p ∧ x % q * p + p ≤ 18446744073709551616 ∧ x * p % 18446744073709551616 = x % q * p := by
  have s : q * (x / q) + x % q = x := Int.mul_ediv_add_emod _ _
  have r0 := Int.emod_nonneg x (show q ≠ 0 by omega)
  have r1 := Int.emod_lt_of_pos x hq
  have e1 : x * p = x / q * 18446744073709551616 + x % q * p := by
    have : x * p = (q * (x / q) + x % q) * p := by rw [s]
    rw [this, ← e]
    grind
  have e2 : 0 ≤ x % q * p := Int.mul_nonneg r0 (by omega)
  have e3 : x % q * p + p ≤ 18446744073709551616 := by
    have := Int.mul_le_mul_of_nonneg_right (show x % q + 1 ≤ q by omega) (show 0 ≤ p by omega)
    rw [Int.add_mul, Int.mul_comm q, e] at this
    omega
  refine ⟨e1, e2, e3, ?_⟩
  rw [e1]
  omega
theorem or_add' (a b : Int) (n : Nat) (ha0 : 0 ≤ a) (ha : a * 2 ^ n < 18446744073709551616) (hb0 : 0 ≤ b) (hb : b < 2 ^ n) (hb' : b < 18446744073709551616) :
    bits .or .u64 b (a * 2 ^ n) = a * 2 ^ n + b := by
  rw [← or_add a b n ha0 ha hb0 hb hb']
  obtain ⟨x, rfl⟩ := Int.eq_ofNat_of_zero_le ha0
  obtain ⟨y, rfl⟩ := Int.eq_ofNat_of_zero_le hb0
  have e : (x : Int) * 2 ^ n = ((x * 2 ^ n : Nat) : Int) := by simp
  rw [e] at ha ⊢
  rw [bits_or_u64_nat (x * 2 ^ n) y (by omega) (by omega), bits_or_u64_nat y (x * 2 ^ n) (by omega) (by omega), Nat.or_comm]

end Go.Proofs.Ytdgbehbiigggmaa.Lib
