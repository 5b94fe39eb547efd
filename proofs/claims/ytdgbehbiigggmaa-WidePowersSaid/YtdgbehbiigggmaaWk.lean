/- The program's comparison and count of bits; the reference's count. -/
import Derived.Test.YtdgbehbiigggmaaWj
import Derived.Test.YtdgbehbiigggmaaGx18
import Derived.Test.YtdgbehbiigggmaaGx14
namespace Go.Proofs.Ytdgbehbiigggmaa.Lib
open Go.RowKit Go.Proofs.Ytdgbehbiigggmaa.G Go.Proofs.YtdgbehbiigggmaaW.PrintWords Go.Proofs.YtdgbehbiigggmaaW.PrintLast Go.Proofs.YtdgbehbiigggmaaW.PrintMore
set_option linter.unusedVariables false
set_option linter.unusedSimpArgs false

def sgn (a b : Int) : Int := if a < b then -1 else if b < a then 1 else 0
theorem comparef (a b : Int) : cmp_Compare_uint64.f a b = some (sgn a b) := by
  unfold sgn
  simp [cmp_Compare_uint64.f, cmp_isNaN_uint64.f]
  split
  · rfl
  · split <;> rfl
theorem orf (k : Nat) (a b : Int) : cmp_Or_int.f (k + 4) [a, b] = some (if a = 0 then b else a) := by
  have w1 : wrap64 (0 + 1) = 1 := by unfold wrap64; omega
  have w2 : wrap64 (1 + 1) = 2 := by unfold wrap64; omega
  rw [cmp_Or_int.f]
  simp only [List.length_cons, List.length_nil]
  rw [cmp_Or_int.l0, if_pos (by decide), if_pos (by decide), if_pos (by simp)]
  have r0 : rd [a, b] 0 = a := rfl
  have r1 : rd [a, b] 1 = b := rfl
  rw [r0]
  by_cases h : a = 0
  · rw [if_pos h, if_pos h, w1, cmp_Or_int.l0, if_pos (by decide), if_pos (by decide), if_pos (by simp), r1]
    by_cases h2 : b = 0
    · rw [if_pos h2, w2, cmp_Or_int.l0, if_neg (by decide), h2]
    · rw [if_neg h2]
  · rw [if_neg h, if_neg h]
theorem cmpf (k : Nat) (a b c d : Int) (b0 : 0 ≤ b) (b1 : b < 18446744073709551616) (d0 : 0 ≤ d) (d1 : d < 18446744073709551616) : wide_Num_Cmp.f (k + 4) a b c d = some (sgn (V a b) (V c d)) := by
  rw [wide_Num_Cmp.f, comparef, comparef]
  simp only [Option.bind_some]
  rw [orf]
  simp only [Option.bind_some]
  congr 1
  unfold sgn V
  repeat' split
  all_goals omega

theorem bl_unique (x n : Int) (hn : 1 ≤ n) (h0 : 2 ^ (n - 1).toNat ≤ x) (h1 : x < 2 ^ n.toNat) : bl x = n := by
  have p := pow_pos' (n - 1).toNat
  have s := bl_spec x (by omega)
  have up : ∀ a b : Nat, (2 : Int) ^ a < 2 ^ b → a < b := by
    intro a b h
    have h' : 2 ^ a < 2 ^ b := by exact_mod_cast h
    exact (Nat.pow_lt_pow_iff_right (by omega)).1 h'
  have u1 := up (n - 1).toNat (bl x).toNat (by omega)
  have u2 := up (bl x - 1).toNat n.toNat (by omega)
  omega
theorem bl0 : bl 0 = 0 := by decide
theorem bl_nonneg (x : Int) : 0 ≤ bl x := by unfold bl; omega
theorem pbitsf (k : Nat) (hi lo : Int) (h0 : 0 ≤ hi) (h1 : hi < 18446744073709551616) (l0 : 0 ≤ lo) (l1 : lo < 18446744073709551616) : wide_Num_Bits.f (k + 1) hi lo = some (bl (V hi lo)) := by
  rw [wide_Num_Bits.f]
  by_cases h : hi = 0
  · rw [if_pos h, len64 k lo l0 l1]
    simp only [Option.bind_some]
    have : V hi lo = lo := by unfold V; omega
    rw [this]
  · rw [if_neg h, lead64 k hi h0 h1]
    simp only [Option.bind_some]
    have b := bl_le64 hi h0 h1
    have s := bl_shift (V hi lo) 64 (by rw [pow64]; unfold V; omega)
    rw [pow64, show V hi lo / 18446744073709551616 = hi by unfold V; omega] at s
    rw [s, w64 (by omega) (by omega)]
    congr 1
    omega
theorem bl_le128 (v : Int) (h0 : 0 ≤ v) (h : v < 18446744073709551616 * 18446744073709551616) : bl v ≤ 128 := by
  by_cases c : 18446744073709551616 ≤ v
  · have s := bl_shift v 64 (by rw [pow64]; exact c)
    rw [pow64] at s
    have := (bl_le64 (v / 18446744073709551616) (by omega) (by omega)).2
    omega
  · have := (bl_le64 v h0 (by omega)).2
    omega
theorem emod_twice (v p : Int) (hp : 0 < p) : v % (p * 2) = v % p + p * (v / p % 2) := by
  have s : p * (v / p) + v % p = v := Int.mul_ediv_add_emod _ _
  have r0 := Int.emod_nonneg v (show p ≠ 0 by omega)
  have r1 := Int.emod_lt_of_pos v hp
  refine ((Int.ediv_emod_unique (b := p * 2) (q := v / p / 2) (by omega)).2 ⟨?_, ?_, ?_⟩).2
  · have e : v / p = 2 * (v / p / 2) + v / p % 2 := by omega
    have : p * (v / p) = p * 2 * (v / p / 2) + p * (v / p % 2) := by
      have h : p * (v / p) = p * (2 * (v / p / 2) + v / p % 2) := by rw [← e]
      rw [h]; grind
    omega
  · have b : v / p % 2 = 0 ∨ v / p % 2 = 1 := by omega
    rcases b with b | b <;> rw [b] <;> omega
  · have b : v / p % 2 = 0 ∨ v / p % 2 = 1 := by omega
    rcases b with b | b <;> rw [b] <;> omega
theorem rbits_loop (hi lo : Int) (h0 : 0 ≤ hi) (h1 : hi < 18446744073709551616) (l0 : 0 ≤ lo) (l1 : lo < 18446744073709551616) (d : Nat) : ∀ (k i : Nat), i + d = 128 →
    overfallref01_Bits.l0 (k + d + 11) (bl (V hi lo % 2 ^ i)) i hi lo = some (bl (V hi lo)) := by
  have vb := V_bd h0 h1 l0 l1
  induction d with
  | zero =>
    intro k i hi'
    have : i = 128 := by omega
    subst this
    rw [overfallref01_Bits.l0, if_neg (by omega)]
    have e : (2 : Int) ^ 128 = 18446744073709551616 * 18446744073709551616 := by decide
    rw [e, Int.emod_eq_of_lt vb.1 vb.2]
  | succ d ih =>
    intro k i hi'
    have ih' := ih k (i + 1) (by omega)
    have p := pow_pos' i
    rw [show k + (d + 1) + 11 = (k + d + 1 + 10) + 1 by omega, overfallref01_Bits.l0, if_pos (by omega), rbitf _ hi lo _ h0 h1 l0 l1 (by omega) (by omega)]
    simp only [Option.bind_some]
    rw [Int.toNat_natCast, w64 (x := (i : Int) + 1) (by omega) (by omega), show (i : Int) + 1 = ((i + 1 : Nat) : Int) by omega]
    generalize hv : V hi lo = v at *
    have e1 : v % 2 ^ (i + 1) = v % 2 ^ i + 2 ^ i * (v / 2 ^ i % 2) := by
      rw [Int.pow_succ, emod_twice _ _ p]
    have r0 := Int.emod_nonneg v (show (2 : Int) ^ i ≠ 0 by omega)
    have r1 := Int.emod_lt_of_pos v p
    have b01 : v / 2 ^ i % 2 = 0 ∨ v / 2 ^ i % 2 = 1 := by omega
    rw [show k + d + 1 + 10 = k + d + 11 by omega]
    rcases b01 with hb | hb
    · rw [if_neg (by omega)]
      rw [hb] at e1
      rw [e1] at ih'
      simpa using ih'
    · rw [if_pos hb]
      rw [hb] at e1
      have u := bl_unique (v % 2 ^ (i + 1)) ((i + 1 : Nat) : Int) (by omega) (by rw [show (((i + 1 : Nat) : Int) - 1).toNat = i by omega]; omega) (by have e2 := Int.emod_lt_of_pos v (show (0 : Int) < 2 ^ (i + 1) from pow_pos' (i + 1)); rw [Int.toNat_natCast]; exact e2)
      rw [u] at ih'
      exact ih'
theorem rbitsf (k : Nat) (hi lo : Int) (h0 : 0 ≤ hi) (h1 : hi < 18446744073709551616) (l0 : 0 ≤ lo) (l1 : lo < 18446744073709551616) : overfallref01_Bits.f (k + 140) hi lo = some (bl (V hi lo)) := by
  have h := rbits_loop hi lo h0 h1 l0 l1 128 (k + 1) 0 (by omega)
  rw [Int.pow_zero, Int.emod_one, bl0] at h
  rw [overfallref01_Bits.f]
  exact h
theorem bl_shift_out (v : Int) (h0 : 0 ≤ v) (h : v < 18446744073709551616 * 18446744073709551616) : v / 2 ^ (min (bl v) 128).toNat = 0 := by
  rw [show min (bl v) 128 = bl v by have := bl_le128 v h0 h; omega]
  by_cases c : v = 0
  · subst c; simp
  · exact Int.ediv_eq_zero_of_lt h0 (bl_spec v (by omega)).2.1
end Go.Proofs.Ytdgbehbiigggmaa.Lib
