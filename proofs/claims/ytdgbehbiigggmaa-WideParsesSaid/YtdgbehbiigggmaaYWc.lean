/- Lemmas of this claim's session over the printed functions (plain Lean, no condition beyond those each theorem names). -/
import Derived.Test.YtdgbehbiigggmaaYWb
import Derived.Laws.Bits64b
namespace Go.Proofs.Ytdgbehbiigggmaa.Lib
set_option linter.unusedVariables false
set_option linter.unusedSimpArgs false
open Go.RowKit Go.Proofs.Ytdgbehbiigggmaa.Y Go.Proofs.YtdgbehbiigggmaaW.PrintWords Go.Proofs.YtdgbehbiigggmaaW.PrintLast Go.Proofs.YtdgbehbiigggmaaW.PrintMore
set_option linter.unusedVariables false

theorem shl_u (x s : Int) (h0 : 0 ≤ s) (h : s ≤ 64) : shl .u64 x s = IntKind.u64.wrap (x * 2 ^ s.toNat) := by
  unfold shl
  rw [Nat.min_eq_left (by simp [IntKind.bits]; omega)]
theorem shr_u (x s : Int) (h0 : 0 ≤ s) (h : s ≤ 64) : shr .u64 x s = x / 2 ^ s.toNat := by
  unfold shr
  rw [Nat.min_eq_left (by simp [IntKind.bits]; omega)]
theorem pow_pos' (n : Nat) : (0 : Int) < 2 ^ n := Int.pow_pos (by omega)
theorem pow_mul_pow (a b : Nat) : (2 : Int) ^ a * 2 ^ b = 2 ^ (a + b) := (Int.pow_add 2 a b).symm
theorem pow64 : (2 : Int) ^ 64 = 18446744073709551616 := by decide
theorem or_add (a b : Int) (n : Nat) (ha0 : 0 ≤ a) (ha : a * 2 ^ n < 18446744073709551616) (hb0 : 0 ≤ b) (hb : b < 2 ^ n) (hb' : b < 18446744073709551616) :
    bits .or .u64 (a * 2 ^ n) b = a * 2 ^ n + b := by
  obtain ⟨x, rfl⟩ := Int.eq_ofNat_of_zero_le ha0
  obtain ⟨y, rfl⟩ := Int.eq_ofNat_of_zero_le hb0
  have e : (x : Int) * 2 ^ n = ((x * 2 ^ n : Nat) : Int) := by simp
  rw [e] at ha ⊢
  have hy : y < 2 ^ n := by
    have : (y : Int) < ((2 ^ n : Nat) : Int) := by simpa using hb
    omega
  rw [bits_or_u64_nat (x * 2 ^ n) y (by omega) (by omega)]
  have := Nat.shiftLeft_add_eq_or_of_lt hy x
  rw [Nat.shiftLeft_eq] at this
  rw [← this]
  simp
theorem and_mask (T : Int) (h0 : 0 ≤ T) (h : T < 18446744073709551616) : bits .and .u64 T 4294967295 = T % 4294967296 := and_low32 T h0 h

theorem div_pure (hi lo y p : Int) (Y : Int) (N1 u0 : Int) (hp : 0 < p) (hy : 0 < y) (hY : Y = y * p) (hU : N1 * 4294967296 + u0 = (hi * 18446744073709551616 + lo) * p) :
    N1 / Y * 4294967296 + (N1 % Y * 4294967296 + u0) / Y = (hi * 18446744073709551616 + lo) / y ∧ (N1 % Y * 4294967296 + u0) % Y = (hi * 18446744073709551616 + lo) % y * p := by
  have hYp : 0 < Y := by rw [hY]; exact Int.mul_pos hy hp
  have e1 : Y * (N1 / Y) + N1 % Y = N1 := Int.mul_ediv_add_emod _ _
  have e2 : N1 * 4294967296 + u0 = (N1 % Y * 4294967296 + u0) + Y * (N1 / Y * 4294967296) := by
    have : N1 * 4294967296 = (Y * (N1 / Y) + N1 % Y) * 4294967296 := by rw [e1]
    rw [this, Int.add_mul, Int.mul_assoc]
    omega
  rw [hU] at e2
  constructor
  · have h1 : ((hi * 18446744073709551616 + lo) * p) / Y = (hi * 18446744073709551616 + lo) / y := by rw [hY]; exact Int.mul_ediv_mul_of_pos_left _ _ hp
    rw [← h1, e2, Int.add_mul_ediv_left _ _ (by omega)]
    omega
  · have h1 : ((hi * 18446744073709551616 + lo) * p) % Y = (hi * 18446744073709551616 + lo) % y * p := by
      rw [hY, Int.mul_comm _ p, Int.mul_comm y p, Int.mul_emod_mul_of_pos _ _ hp, Int.mul_comm]
    rw [← h1, e2, Int.add_mul_emod_self_left]

theorem div64 (hi lo y : Int) (h0 : 0 ≤ hi) (h1 : hi < y) (l0 : 0 ≤ lo) (l1 : lo < 18446744073709551616) (y1 : y < 18446744073709551616) :
    ∃ k, bits_Div64.f k hi lo y = some ((hi * 18446744073709551616 + lo) / y, (hi * 18446744073709551616 + lo) % y) := by
  by_cases hz : hi = 0
  · subst hz
    refine ⟨0, ?_⟩
    have a := Int.ediv_nonneg l0 (show 0 ≤ y by omega)
    have b : lo / y ≤ lo := Int.ediv_le_self y l0
    rw [bits_Div64.f, if_neg (by omega), if_neg (by omega), if_pos rfl, tdiv_nn l0, tmod_nn l0, wu_in a (by omega)]
    simp
  · have sp := bl_spec y (by omega)
    have b64 := bl_le64 y (by omega) y1
    obtain ⟨n, hn⟩ : ∃ n : Nat, (n : Int) = 64 - bl y := ⟨(64 - bl y).toNat, by omega⟩
    have hn64 : n ≤ 63 := by omega
    have ep : (2 : Int) ^ (bl y - 1).toNat * 2 ^ n = 9223372036854775808 := by
      rw [pow_mul_pow, show (bl y - 1).toNat + n = 63 by omega]; decide
    have ep2 : (2 : Int) ^ (bl y).toNat * 2 ^ n = 18446744073709551616 := by
      rw [pow_mul_pow, show (bl y).toNat + n = 64 by omega]; decide
    have epq : (2 : Int) ^ n * 2 ^ (64 - n) = 18446744073709551616 := by
      rw [pow_mul_pow, show n + (64 - n) = 64 by omega]; decide
    have pp := pow_pos' n
    have qp := pow_pos' (64 - n)
    have Yl : 9223372036854775808 ≤ y * 2 ^ n := by rw [← ep]; exact Int.mul_le_mul_of_nonneg_right sp.1 (by omega)
    have Yh : y * 2 ^ n < 18446744073709551616 := by rw [← ep2]; exact Int.mul_lt_mul_of_pos_right sp.2.1 pp
    have hil : hi * 2 ^ n + 2 ^ n ≤ y * 2 ^ n := by
      have := Int.mul_le_mul_of_nonneg_right (show hi + 1 ≤ y by omega) (show (0 : Int) ≤ 2 ^ n by omega)
      rw [Int.add_mul] at this
      omega
    have hi0 : 0 ≤ hi * 2 ^ n := Int.mul_nonneg h0 (by omega)
    have lq0 : 0 ≤ lo / 2 ^ (64 - n) := Int.ediv_nonneg l0 (by omega)
    have lq1 : lo / 2 ^ (64 - n) < 2 ^ n := by rw [Int.ediv_lt_iff_lt_mul qp, epq]; exact l1
    have lr0 := Int.emod_nonneg lo (show (2 : Int) ^ (64 - n) ≠ 0 by omega)
    have lr1 := Int.emod_lt_of_pos lo qp
    have lsum : 2 ^ (64 - n) * (lo / 2 ^ (64 - n)) + lo % 2 ^ (64 - n) = lo := Int.mul_ediv_add_emod _ _
    have T0 : 0 ≤ lo % 2 ^ (64 - n) * 2 ^ n := Int.mul_nonneg lr0 (by omega)
    have T1 : lo % 2 ^ (64 - n) * 2 ^ n < 18446744073709551616 := by rw [← epq, Int.mul_comm (2 ^ n)]; exact Int.mul_lt_mul_of_pos_right lr1 pp
    have lop : lo * 2 ^ n = lo / 2 ^ (64 - n) * 18446744073709551616 + lo % 2 ^ (64 - n) * 2 ^ n := by
      have : lo * 2 ^ n = (2 ^ (64 - n) * (lo / 2 ^ (64 - n)) + lo % 2 ^ (64 - n)) * 2 ^ n := by rw [lsum]
      rw [this, Int.add_mul, Int.mul_comm (2 ^ (64 - n)), Int.mul_assoc, Int.mul_comm (2 ^ (64 - n)), epq]
    -- the machine's words
    have ws : IntKind.u64.wrap (64 - bl y) = n := by rw [← hn]; exact wu_in (by omega) (by omega)
    have w64s : IntKind.u64.wrap (64 - (n : Int)) = ((64 - n : Nat) : Int) := by rw [wu_in (by omega) (by omega)]; omega
    have eY : shl .u64 y n = y * 2 ^ n := by rw [shl_u y n (by omega) (by omega), Int.toNat_natCast, wu_in (by omega) Yh]
    have ehi : shl .u64 hi n = hi * 2 ^ n := by rw [shl_u hi n (by omega) (by omega), Int.toNat_natCast, wu_in hi0 (by omega)]
    have elo : shl .u64 lo n = lo % 2 ^ (64 - n) * 2 ^ n := by
      rw [shl_u lo n (by omega) (by omega), Int.toNat_natCast, lop, wu, Int.add_comm, Int.add_mul_emod_self_right]
      exact Int.emod_eq_of_lt T0 T1
    have elq : shr .u64 lo ((64 - n : Nat) : Int) = lo / 2 ^ (64 - n) := by rw [shr_u lo _ (by omega) (by omega), Int.toNat_natCast]
    have eor : bits .or .u64 (hi * 2 ^ n) (lo / 2 ^ (64 - n)) = hi * 2 ^ n + lo / 2 ^ (64 - n) := or_add _ _ n h0 (by omega) lq0 lq1 (by omega)
    have hU : ((hi * 2 ^ n + lo / 2 ^ (64 - n)) * 4294967296 + lo % 2 ^ (64 - n) * 2 ^ n / 4294967296) * 4294967296 + lo % 2 ^ (64 - n) * 2 ^ n % 4294967296 = (hi * 18446744073709551616 + lo) * 2 ^ n := by
      rw [Int.add_mul (hi * 18446744073709551616), lop, Int.mul_right_comm hi]
      omega
    generalize hYe : y * 2 ^ n = Y at *
    generalize hTe : lo % 2 ^ (64 - n) * 2 ^ n = T at *
    generalize hun : hi * 2 ^ n + lo / 2 ^ (64 - n) = un at *
    have D := div_pure hi lo y (2 ^ n) Y _ _ pp (by omega) hYe.symm hU
    have I := Dig.init (y1 := Y / 4294967296) (y0 := Y % 4294967296) (un := un) (u1 := T / 4294967296) (by omega) (by omega) (by omega) (by omega) (by omega) (by omega) (by omega) (by omega)
    have i0 := I.ql
    have i1 := I.qh
    have i2 := I.rl
    have i3 := I.rh
    have i4 := I.bounds.2.2
    have i5 := I.sum
    obtain ⟨k, hk⟩ := div_l0 Y n (Y / 4294967296) (Y % 4294967296) un (T / 4294967296) (T % 4294967296) (by omega) (by omega) (by omega) (by omega) _ _ _ I (Nat.le_refl _)
    have W0 : 0 ≤ hi * 18446744073709551616 + lo := by omega
    have Q0 : 0 ≤ (hi * 18446744073709551616 + lo) / y := Int.ediv_nonneg W0 (by omega)
    have Q1 : (hi * 18446744073709551616 + lo) / y < 18446744073709551616 := by
      rw [Int.ediv_lt_iff_lt_mul (by omega)]
      omega
    have N0 : 0 ≤ (un * 4294967296 + T / 4294967296) / Y := Int.ediv_nonneg (by omega) (by omega)
    have N1 : 0 ≤ ((un * 4294967296 + T / 4294967296) % Y * 4294967296 + T % 4294967296) / Y := Int.ediv_nonneg (by have := Int.emod_nonneg (un * 4294967296 + T / 4294967296) (show Y ≠ 0 by omega); omega) (by omega)
    refine ⟨k + 1, ?_⟩
    have hk' := at_rounds (g := fun k => bits_Div64.l0 k Y n (Y / 4294967296) (Y % 4294967296) un (T / 4294967296) (T % 4294967296) (un / (Y / 4294967296)) (un - un / (Y / 4294967296) * (Y / 4294967296))) (fun k => (bits_Div64.mono_l k).2.2.2.1 _ _ _ _ _ _ _ _ _) (Nat.le_succ k) hk
    rw [bits_Div64.f, if_neg (by omega), if_neg (by omega), if_neg hz, lead64 k y (by omega) y1]
    simp only [Option.bind_some, ws, w64s, eY, ehi, elo, elq, eor]
    rw [if_pos (by omega), if_pos (by omega), if_neg (by omega), and_mask Y (by omega) Yh, and_mask T T0 T1, tdiv_nn (show 0 ≤ un by omega), wu_in (x := un / (Y / 4294967296)) i0 (by omega), wu_in (x := un / (Y / 4294967296) * (Y / 4294967296)) i4 (by omega), wu_in (x := un - un / (Y / 4294967296) * (Y / 4294967296)) i2 (by omega)]
    rw [hk', wu_in (x := (un * 4294967296 + T / 4294967296) / Y * 4294967296) (by omega) (by omega), D.1, wu_in Q0 Q1, D.2, shr_u _ _ (by omega) (by omega), Int.toNat_natCast, Int.mul_ediv_cancel _ (by omega)]
end Go.Proofs.Ytdgbehbiigggmaa.Lib
