/- Lemmas of this claim's session over the printed functions (plain Lean, no condition beyond those each theorem names). -/
import Derived.Test.YthmapfhemiamhaaSWb
import Derived.Laws.Bits64b
namespace Go.Proofs.Ythmapfhemiamhaa.Lib
set_option linter.unusedVariables false
set_option linter.unusedSimpArgs false
open Go.RowKit Go.Proofs.Ythmapfhemiamhaa.S Go.Proofs.YthmapfhemiamhaaW.PrintWords Go.Proofs.YthmapfhemiamhaaW.PrintLast Go.Proofs.YthmapfhemiamhaaW.PrintMore
set_option linter.unusedVariables false

theorem shl_u (x s : Int) (h0 : 0 ≤ s) (h : s ≤ 64) : shl .u64 x s = IntKind.u64.wrap (x * 2 ^ s.toNat) := by
  unfold shl
  rw [Nat.min_eq_left (by simp [IntKind.bits]; omega)]
theorem shr_u (x s : Int) (h0 : 0 ≤ s) (h : s ≤ 64) : shr .u64 x s = x / 2 ^ s.toNat := by
  unfold shr
  rw [Nat.min_eq_left (by simp [IntKind.bits]; omega)]
theorem pow_pos' (n : Nat) : (0 : Int) < 2 ^ n := Int.pow_pos (by omega)
theorem pow_mul_pow (a b : Nat) : (2 : Int) ^ a * 2 ^ b = 2 ^ (a + b) := (Int.pow_add 2 a b).symm
theorem pow64 : (2 : Int) ^ 64 = 18446744073709551616 := by decide
theorem or_add (a b : Int) (n : Nat) (ha0 : 0 ≤ a) (ha : a * 2 ^ n < 18446744073709551616) (hb0 : 0 ≤ b) (hb : b < 2 ^ n) (hb' : b < 18446744073709551616) :
    bits .or .u64 (a * 2 ^ n) b = a * 2 ^ n + b := by
  obtain ⟨x, rfl⟩ := Int.eq_ofNat_of_zero_le ha0
  obtain ⟨y, rfl⟩ := Int.eq_ofNat_of_zero_le hb0
  have e : (x : Int) * 2 ^ n = ((x * 2 ^ n : Nat) : Int) := by simp
  rw [e] at ha ⊢
  have hy : y < 2 ^ n := by
    have : (y : Int) < ((2 ^ n : Nat) : Int) := by simpa using hb
    omega
  rw [bits_or_u64_nat (x * 2 ^ n) y (by omega) (by omega)]
  have := Nat.shiftLeft_add_eq_or_of_lt hy x
  rw [Nat.shiftLeft_eq] at this
  rw [← this]
  simp
theorem and_mask (T : Int) (h0 : 0 ≤ T) (h : T < 18446744073709551616) : bits .and .u64 T 4294967295 = T % 4294967296 := and_low32 T h0 h

theorem div_pure (hi lo y p : Int) (Y : Int) (N1 u0 : Int) (hp : 0 < p) (hy : 0 < y) (hY : Y = y * p) (hU : N1 * 4294967296 + u0 = (hi * 18446744073709551616 + lo) * p) :
    N1 / Y * 4294967296 + (N1 % Y * 4294967296 + u0) / Y = (hi * 18446744073709551616 + lo) / y ∧ (N1 % Y * 4294967296 + u0) % Y = (hi * 18446744073709551616 + lo) % y * p := by
  have hYp : 0 < Y := by rw [hY]; exact Int.mul_pos hy hp
  have e1 : Y * (N1 / Y) + N1 % Y = N1 := Int.mul_ediv_add_emod _ _
  have e2 : N1 * 4294967296 + u0 = (N1 % Y * 4294967296 + u0) + Y * (N1 / Y * 4294967296) := by
    have : N1 * 4294967296 = (Y * (N1 / Y) + N1 % Y) * 4294967296 := by rw [e1]
    rw [this, Int.add_mul, Int.mul_assoc]
    omega
  rw [hU] at e2
  constructor
  · have h1 : ((hi * 18446744073709551616 + lo) * p) / Y = (hi * 18446744073709551616 + lo) / y := by rw [hY]; exact Int.mul_ediv_mul_of_pos_left _ _ hp
    rw [← h1, e2, Int.add_mul_ediv_left _ _ (by omega)]
    omega
  · have h1 : ((hi * 18446744073709551616 + lo) * p) % Y = (hi * 18446744073709551616 + lo) % y * p := by
      rw [hY, Int.mul_comm _ p, Int.mul_comm y p, Int.mul_emod_mul_of_pos _ _ hp, Int.mul_comm]
    rw [← h1, e2, Int.add_mul_emod_self_left]

end Go.Proofs.Ythmapfhemiamhaa.Lib
