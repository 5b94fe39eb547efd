/- The program's shifts are products and quotients by powers of two (plain Lean over the printed functions). -/
import Derived.Test.YthmapfhemiamhaaSWh
namespace Go.Proofs.Ythmapfhemiamhaa.Lib
open Go.RowKit Go.Proofs.Ythmapfhemiamhaa.S Go.Proofs.YthmapfhemiamhaaW.PrintWords Go.Proofs.YthmapfhemiamhaaW.PrintLast Go.Proofs.YthmapfhemiamhaaW.PrintMore
set_option linter.unusedVariables false
set_option linter.unusedSimpArgs false

theorem split_mul2 (x p q : Int) (hp : 0 < p) (hq : 0 < q) (e : p * q = 18446744073709551616) : x * p = x / q * 18446744073709551616 + x % q * p ∧ 0 ≤ x % q * p ∧ x % q * p + p ≤ 18446744073709551616 ∧ x * p % 18446744073709551616 = x % q * p := by
  have s : q * (x / q) + x % q = x := Int.mul_ediv_add_emod _ _
  have r0 := Int.emod_nonneg x (show q ≠ 0 by omega)
  have r1 := Int.emod_lt_of_pos x hq
  have e1 : x * p = x / q * 18446744073709551616 + x % q * p := by
    have : x * p = (q * (x / q) + x % q) * p := by rw [s]
    rw [this, ← e]
    grind
  have e2 : 0 ≤ x % q * p := Int.mul_nonneg r0 (by omega)
  have e3 : x % q * p + p ≤ 18446744073709551616 := by
    have := Int.mul_le_mul_of_nonneg_right (show x % q + 1 ≤ q by omega) (show 0 ≤ p by omega)
    rw [Int.add_mul, Int.mul_comm q, e] at this
    omega
  refine ⟨e1, e2, e3, ?_⟩
  rw [e1]
  omega
theorem or_add' (a b : Int) (n : Nat) (ha0 : 0 ≤ a) (ha : a * 2 ^ n < 18446744073709551616) (hb0 : 0 ≤ b) (hb : b < 2 ^ n) (hb' : b < 18446744073709551616) :
    bits .or .u64 b (a * 2 ^ n) = a * 2 ^ n + b := by
  rw [← or_add a b n ha0 ha hb0 hb hb']
  obtain ⟨x, rfl⟩ := Int.eq_ofNat_of_zero_le ha0
  obtain ⟨y, rfl⟩ := Int.eq_ofNat_of_zero_le hb0
  have e : (x : Int) * 2 ^ n = ((x * 2 ^ n : Nat) : Int) := by simp
  rw [e] at ha ⊢
  rw [bits_or_u64_nat (x * 2 ^ n) y (by omega) (by omega), bits_or_u64_nat y (x * 2 ^ n) (by omega) (by omega), Nat.or_comm]

theorem leftf (hi lo k : Int) (h0 : 0 ≤ hi) (h1 : hi < 18446744073709551616) (l0 : 0 ≤ lo) (l1 : lo < 18446744073709551616) (k1 : k ≤ 9223372036854775807) :
    wide_Num_Left.f hi lo k = some (V hi lo * 2 ^ (min k 128).toNat / 18446744073709551616 % 18446744073709551616, V hi lo * 2 ^ (min k 128).toNat % 18446744073709551616) := by
  unfold V
  rw [wide_Num_Left.f]
  by_cases c : k ≤ 0
  · rw [if_pos c, show (min k 128).toNat = 0 by omega, Int.pow_zero, Int.mul_one]
    rw [show (hi * 18446744073709551616 + lo) / 18446744073709551616 % 18446744073709551616 = hi by omega, show (hi * 18446744073709551616 + lo) % 18446744073709551616 = lo by omega]
  · rw [if_neg c]
    by_cases d : k ≥ 64
    · rw [if_pos d, w64 (x := k - 64) (by omega) (by omega), if_pos (by omega)]
      obtain ⟨m, hm⟩ : ∃ m : Nat, (min k 128).toNat = m + 64 := ⟨(min k 128).toNat - 64, by omega⟩
      have es : shl .u64 lo (k - 64) = lo * 2 ^ m % 18446744073709551616 := by
        unfold shl
        rw [show min (k - 64).toNat IntKind.u64.bits = m by simp [IntKind.bits]; omega, wu]
      rw [es, hm, Int.pow_add, pow64, ← Int.mul_assoc]
      generalize (2 : Int) ^ m = p
      rw [show (hi * 18446744073709551616 + lo) * p = lo * p + 18446744073709551616 * (hi * p) by grind]
      generalize lo * p = a
      generalize hi * p = b
      rw [show (a + 18446744073709551616 * b) * 18446744073709551616 / 18446744073709551616 % 18446744073709551616 = a % 18446744073709551616 by omega, show (a + 18446744073709551616 * b) * 18446744073709551616 % 18446744073709551616 = 0 by omega]
    · obtain ⟨n, hn⟩ : ∃ n : Nat, k = n := ⟨k.toNat, by omega⟩
      subst hn
      have n1 : 1 ≤ n := by omega
      have n2 : n ≤ 63 := by omega
      have epq : (2 : Int) ^ n * 2 ^ (64 - n) = 18446744073709551616 := by
        rw [pow_mul_pow, show n + (64 - n) = 64 by omega]; decide
      have sh := split_mul2 hi _ _ (pow_pos' n) (pow_pos' (64 - n)) epq
      have sl := split_mul2 lo _ _ (pow_pos' n) (pow_pos' (64 - n)) epq
      have pp := pow_pos' n
      have qp := pow_pos' (64 - n)
      have lq0 : 0 ≤ lo / 2 ^ (64 - n) := Int.ediv_nonneg l0 (by omega)
      have lq1 : lo / 2 ^ (64 - n) < 2 ^ n := by rw [Int.ediv_lt_iff_lt_mul qp, epq]; exact l1
      have r0 := Int.emod_nonneg hi (show (2 : Int) ^ (64 - n) ≠ 0 by omega)
      rw [if_neg d, if_pos (by omega), w64 (x := 64 - (n : Int)) (by omega) (by omega), if_pos (by omega), show (64 : Int) - n = ((64 - n : Nat) : Int) by omega]
      rw [shl_u hi n (by omega) (by omega), shl_u lo n (by omega) (by omega), shr_u lo _ (by omega) (by omega), Int.toNat_natCast, Int.toNat_natCast, wu, wu, sh.2.2.2, or_add _ _ n r0 (by omega) lq0 lq1 (by omega)]
      rw [show (min (n : Int) 128).toNat = n by omega, Int.add_mul, Int.mul_right_comm, sh.1, sl.1]
      have b1 := sh.2; have b2 := sl.2
      clear epq sh sl
      generalize hi % 2 ^ (64 - n) * 2 ^ n = A at *
      generalize lo % 2 ^ (64 - n) * 2 ^ n = B at *
      generalize lo / 2 ^ (64 - n) = C at *
      generalize hi / 2 ^ (64 - n) = D at *
      generalize (2 : Int) ^ n = p at *
      rw [show ((D * 18446744073709551616 + A) * 18446744073709551616 + (C * 18446744073709551616 + B)) / 18446744073709551616 % 18446744073709551616 = A + C by omega, show ((D * 18446744073709551616 + A) * 18446744073709551616 + (C * 18446744073709551616 + B)) % 18446744073709551616 = B by omega, show (C * 18446744073709551616 + B) % 18446744073709551616 = B by omega]

theorem rightf (hi lo k : Int) (h0 : 0 ≤ hi) (h1 : hi < 18446744073709551616) (l0 : 0 ≤ lo) (l1 : lo < 18446744073709551616) (k1 : k ≤ 9223372036854775807) :
    wide_Num_Right.f hi lo k = some (V hi lo / 2 ^ (min k 128).toNat / 18446744073709551616, V hi lo / 2 ^ (min k 128).toNat % 18446744073709551616) := by
  unfold V
  rw [wide_Num_Right.f]
  by_cases c : k ≤ 0
  · rw [if_pos c, show (min k 128).toNat = 0 by omega, Int.pow_zero, Int.ediv_one]
    rw [show (hi * 18446744073709551616 + lo) / 18446744073709551616 = hi by omega, show (hi * 18446744073709551616 + lo) % 18446744073709551616 = lo by omega]
  · rw [if_neg c]
    by_cases d : k ≥ 64
    · rw [if_pos d, w64 (x := k - 64) (by omega) (by omega), if_pos (by omega)]
      obtain ⟨m, hm⟩ : ∃ m : Nat, (min k 128).toNat = 64 + m := ⟨(min k 128).toNat - 64, by omega⟩
      have es : shr .u64 hi (k - 64) = hi / 2 ^ m := by
        unfold shr
        rw [show min (k - 64).toNat IntKind.u64.bits = m by simp [IntKind.bits]; omega]
      rw [es, hm, Int.pow_add, pow64, ← Int.ediv_ediv_of_nonneg (by omega), show (hi * 18446744073709551616 + lo) / 18446744073709551616 = hi by omega]
      have q0 : 0 ≤ hi / 2 ^ m := Int.ediv_nonneg h0 (by have := pow_pos' m; omega)
      have q1 : hi / 2 ^ m ≤ hi := Int.ediv_le_self _ h0
      rw [show hi / 2 ^ m / 18446744073709551616 = 0 by omega, show hi / 2 ^ m % 18446744073709551616 = hi / 2 ^ m by omega]
    · obtain ⟨n, hn⟩ : ∃ n : Nat, k = n := ⟨k.toNat, by omega⟩
      subst hn
      have n1 : 1 ≤ n := by omega
      have n2 : n ≤ 63 := by omega
      have epq : (2 : Int) ^ (64 - n) * 2 ^ n = 18446744073709551616 := by
        rw [pow_mul_pow, show 64 - n + n = 64 by omega]; decide
      have sh := split_mul2 hi _ _ (pow_pos' (64 - n)) (pow_pos' n) epq
      have pp := pow_pos' n
      have qp := pow_pos' (64 - n)
      have lq0 : 0 ≤ lo / 2 ^ n := Int.ediv_nonneg l0 (by omega)
      have lq1 : lo / 2 ^ n < 2 ^ (64 - n) := by rw [Int.ediv_lt_iff_lt_mul pp, epq]; exact l1
      have r0 := Int.emod_nonneg hi (show (2 : Int) ^ n ≠ 0 by omega)
      rw [if_neg d, if_pos (by omega), w64 (x := 64 - (n : Int)) (by omega) (by omega), if_pos (by omega), show (64 : Int) - n = ((64 - n : Nat) : Int) by omega]
      rw [shr_u hi n (by omega) (by omega), shr_u lo n (by omega) (by omega), shl_u hi _ (by omega) (by omega), Int.toNat_natCast, Int.toNat_natCast, wu, sh.2.2.2, or_add' _ _ (64 - n) r0 (by omega) lq0 lq1 (by omega)]
      rw [show (min (n : Int) 128).toNat = n by omega]
      have ev : (hi * 18446744073709551616 + lo) / 2 ^ n = hi * 2 ^ (64 - n) + lo / 2 ^ n := by
        rw [← epq, ← Int.mul_assoc, Int.add_comm, Int.add_mul_ediv_right _ _ (by omega), Int.add_comm]
      rw [ev, sh.1]
      have b1 := sh.2
      clear epq sh ev
      generalize hi % 2 ^ n * 2 ^ (64 - n) = A at *
      generalize lo / 2 ^ n = C at *
      generalize hi / 2 ^ n = D at *
      generalize (2 : Int) ^ (64 - n) = p at *
      rw [show (D * 18446744073709551616 + A + C) / 18446744073709551616 = D by omega, show (D * 18446744073709551616 + A + C) % 18446744073709551616 = A + C by omega]
end Go.Proofs.Ythmapfhemiamhaa.Lib
