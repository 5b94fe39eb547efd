/- The program's roots: the greatest whole number whose square isn't more. -/
import Derived.Test.YtiiffgmbkajkhaaLWv
import Derived.Test.YtiiffgmbkajkhaaLx4
namespace Go.Proofs.Ytiiffgmbkajkhaa.Lib
set_option linter.unusedVariables false
set_option linter.unusedSimpArgs false
open Go.RowKit Go.Proofs.Ytiiffgmbkajkhaa.L Go.Proofs.YtiiffgmbkajkhaaW.PrintWords Go.Proofs.YtiiffgmbkajkhaaW.PrintLast Go.Proofs.YtiiffgmbkajkhaaW.PrintMore

structure Most (r n v : Int) : Prop where
  l : 0 ≤ r
  h : r < 18446744073709551616
  fits : r * r * n ≤ v
  next : r + 1 < 18446744073709551616 → v < (r + 1) * (r + 1) * n
theorem sq_mono {a b : Int} (h0 : 0 ≤ a) (h : a ≤ b) : a * a ≤ b * b := Int.mul_le_mul h h h0 (by omega)
theorem sqn_mono {a b n : Int} (h0 : 0 ≤ a) (h : a ≤ b) (hn : 0 ≤ n) : a * a * n ≤ b * b * n := Int.mul_le_mul_of_nonneg_right (sq_mono h0 h) hn
theorem Most.le {r s n v : Int} (hn : 0 ≤ n) (a : Most r n v) (b0 : 0 ≤ s) (bh : s < 18446744073709551616) (b : s * s * n ≤ v) : s ≤ r := by
  by_cases c : s ≤ r
  · exact c
  · have h1 := a.next (by omega)
    have h2 := sqn_mono (n := n) (show 0 ≤ r + 1 by have := a.l; omega) (show r + 1 ≤ s by omega) hn
    omega
theorem Most.mono {r s n v w : Int} (hn : 0 ≤ n) (a : Most r n v) (b : Most s n w) (h : v ≤ w) : r ≤ s := b.le hn a.l a.h (Int.le_trans a.fits h)

theorem wide_loop (hi lo : Int) (h0 : 0 ≤ hi) (h1 : hi < 18446744073709551616) (l0 : 0 ≤ lo) (l1 : lo < 18446744073709551616) (m : Nat) : ∀ (k : Nat) (q : Int), m ≤ 64 → 0 ≤ q → q * 2 ^ m < 18446744073709551616 → q * 2 ^ m * (q * 2 ^ m) ≤ V hi lo → V hi lo < (q + 1) * 2 ^ m * ((q + 1) * 2 ^ m) →
    ∃ r, root_Wide.l0 (k + m + 5) (q * 2 ^ m) ((m : Int) - 1) hi lo = some r ∧ 0 ≤ r ∧ r < 18446744073709551616 ∧ r * r ≤ V hi lo ∧ V hi lo < (r + 1) * (r + 1) := by
  induction m with
  | zero =>
    intro k q hm q0 q1 a b
    refine ⟨q, ?_, q0, by simpa using q1, by simpa using a, by simpa using b⟩
    rw [root_Wide.l0, if_neg (by omega)]
    simp
  | succ m ih =>
    intro k q hm q0 q1 a b
    have p := pow_pos' m
    have ep : (2 : Int) ^ (m + 1) = 2 * 2 ^ m := by rw [Int.pow_succ, Int.mul_comm]
    have pM : (2 : Int) ^ m < 18446744073709551616 := by
      rw [← pow64]
      have h4 : (2 : Nat) ^ m < 2 ^ 64 := Nat.pow_lt_pow_right (by omega) (by omega)
      exact_mod_cast h4
    -- q 2^(m+1) is a multiple of 2^(m+1): there is room for one bit below
    have hroom : q * 2 ^ (m + 1) + 2 ^ (m + 1) ≤ 18446744073709551616 := by
      obtain ⟨j, hj⟩ : ∃ j, m + 1 + j = 64 := ⟨64 - (m + 1), by omega⟩
      have e64 : (2 : Int) ^ (m + 1) * 2 ^ j = 18446744073709551616 := by rw [pow_mul_pow, hj]; exact pow64
      have pj := pow_pos' j
      have pm1 := pow_pos' (m + 1)
      have hq : q < 2 ^ j := by
        refine Int.lt_of_mul_lt_mul_right (a := 2 ^ (m + 1)) ?_ (by omega)
        rw [Int.mul_comm (2 ^ j), e64]
        exact q1
      have := Int.mul_le_mul_of_nonneg_right (show q + 1 ≤ 2 ^ j by omega) (show (0 : Int) ≤ 2 ^ (m + 1) by omega)
      rw [Int.add_mul, Int.mul_comm (2 ^ j), e64] at this
      omega
    have es : shl .u64 1 (((m + 1 : Nat) : Int) - 1) = 2 ^ m := by
      rw [shl_u 1 _ (by omega) (by omega), show (((m + 1 : Nat) : Int) - 1).toNat = m by omega, Int.one_mul, wu_in (by omega) pM]
    have eb : bits .or .u64 (q * 2 ^ (m + 1)) (2 ^ m) = (2 * q + 1) * 2 ^ m := by
      rw [or_add q (2 ^ m) (m + 1) q0 q1 (by omega) (by omega) pM, ep]
      grind
    have B0 : 0 ≤ (2 * q + 1) * 2 ^ m := Int.mul_nonneg (by omega) (by omega)
    have B1 : (2 * q + 1) * 2 ^ m < 18446744073709551616 := by
      have : (2 * q + 1) * 2 ^ m + 2 ^ m = q * 2 ^ (m + 1) + 2 ^ (m + 1) := by rw [ep]; grind
      omega
    rw [show k + (m + 1) + 5 = (k + m + 1 + 4) + 1 by omega, root_Wide.l0, if_pos (by omega), if_pos (by omega), es, eb, mulf _ _ B0 B1 B0 B1, w64 (by omega) (by omega), show ((m + 1 : Nat) : Int) - 1 - 1 = (m : Int) - 1 by omega]
    rw [Option.bind_some, cmpf (k + m + 1) _ _ hi lo (by omega) (by omega) l0 l1, Option.bind_some, V_of]
    by_cases c : (2 * q + 1) * 2 ^ m * ((2 * q + 1) * 2 ^ m) ≤ V hi lo
    · have hs : sgn ((2 * q + 1) * 2 ^ m * ((2 * q + 1) * 2 ^ m)) (V hi lo) ≤ 0 := by unfold sgn; split <;> first | omega | (split <;> omega)
      rw [if_pos hs]
      exact ih k (2 * q + 1) (by omega) (by omega) B1 c (by
        have e : (2 * q + 1 + 1) * 2 ^ m = (q + 1) * 2 ^ (m + 1) := by rw [ep]; grind
        rw [e]; exact b)
    · have hs : ¬ sgn ((2 * q + 1) * 2 ^ m * ((2 * q + 1) * 2 ^ m)) (V hi lo) ≤ 0 := by unfold sgn; rw [if_neg (by omega), if_pos (by omega)]; omega
      rw [if_neg hs]
      have e : q * 2 ^ (m + 1) = 2 * q * 2 ^ m := by rw [ep]; grind
      rw [e] at a q1 ⊢
      exact ih k (2 * q) (by omega) (by omega) q1 a (by omega)
theorem widef (hi lo : Int) (h0 : 0 ≤ hi) (h1 : hi < 18446744073709551616) (l0 : 0 ≤ lo) (l1 : lo < 18446744073709551616) : ∃ r, (∀ k, root_Wide.f (k + 70) hi lo = some r) ∧ Most r 1 (V hi lo) := by
  have vb := V_bd h0 h1 l0 l1
  have e64 : (2 : Int) ^ 64 = 18446744073709551616 := pow64
  have key := fun k => wide_loop hi lo h0 h1 l0 l1 64 k 0 (by omega) (by omega) (by omega) (by omega) (by rw [e64]; omega)
  obtain ⟨r, hr, r0, r1, ra, rb⟩ := key 1
  refine ⟨r, fun k => ?_, r0, r1, by omega, fun _ => by omega⟩
  have := at_rounds (g := fun k => root_Wide.l0 k (0 * 2 ^ 64) (((64 : Nat) : Int) - 1) hi lo) (fun k => root_Wide.mono_l k _ _ _ _) (show 1 + 64 + 5 ≤ k + 70 by omega) hr
  rw [root_Wide.f]
  simpa using this
def n1 (n : Int) : Int := if n < 1 then 1 else n
theorem most_div {r n v : Int} (hn : 0 < n) (h : Most r 1 (v / n)) : Most r n v := by
  refine ⟨h.l, h.h, ?_, fun hh => ?_⟩
  · have := h.fits
    rw [Int.mul_one] at this
    exact (Int.le_ediv_iff_mul_le hn).1 this
  · have := h.next hh
    rw [Int.mul_one] at this
    exact (Int.ediv_lt_iff_lt_mul hn).1 this
theorem lawf_neg (k : Nat) (i n : Int) (h : i < 0) : root_Law.f k i n = some 0 := by rw [root_Law.f, if_pos h]
theorem lawf (i n : Int) (i0 : 0 ≤ i) (i1 : i < 9223372036854775808) (n0 : 0 ≤ n) (n1' : n < 18446744073709551616) : ∃ r K, (∀ k, K ≤ k → root_Law.f k i n = some r) ∧ Most r (n1 n) (i * i) ∧ r ≤ i := by
  have hnn : 0 < n1 n ∧ n1 n < 18446744073709551616 := by unfold n1; split <;> omega
  have ii0 : 0 ≤ i * i := Int.mul_nonneg i0 i0
  have ii1 : i * i < 18446744073709551616 * 18446744073709551616 := by
    have := Int.mul_le_mul (show i ≤ 18446744073709551615 by omega) (show i ≤ 18446744073709551615 by omega) i0 (by omega)
    omega
  obtain ⟨K, hd⟩ := divf (i * i / 18446744073709551616) (i * i % 18446744073709551616) (n1 n) (by omega) (by omega) (by omega) (by omega) hnn.1 hnn.2
  rw [show i * i / 18446744073709551616 * 18446744073709551616 + i * i % 18446744073709551616 = i * i by omega] at hd
  have q0 : 0 ≤ i * i / n1 n := Int.ediv_nonneg ii0 (by omega)
  have q1 : i * i / n1 n ≤ i * i := Int.ediv_le_self _ ii0
  obtain ⟨r, hr, hm⟩ := widef (i * i / n1 n / 18446744073709551616) (i * i / n1 n % 18446744073709551616) (by omega) (by omega) (by omega) (by omega)
  rw [V_of] at hm
  have ri : r ≤ i := by
    by_cases c : r ≤ i
    · exact c
    · have h2 := sq_mono (show 0 ≤ i + 1 by omega) (show i + 1 ≤ r by omega)
      have h3 := hm.fits
      have h4 : (i + 1) * (i + 1) = i * i + 2 * i + 1 := by grind
      omega
  refine ⟨r, K + 70, fun k hk => ?_, most_div hnn.1 hm, ri⟩
  have em : mx n 1 = n1 n := by unfold mx n1; rfl
  rw [root_Law.f, if_neg (by omega), wu_in i0 (by omega), mulf i i i0 (by omega) i0 (by omega), Option.bind_some, em, hd k (by omega), Option.bind_some]
  obtain ⟨k', rfl⟩ : ∃ k', k = k' + 70 := ⟨k - 70, by omega⟩
  have := hm.l
  rw [hr k', Option.bind_some, w64 (by omega) (by omega)]
end Go.Proofs.Ytiiffgmbkajkhaa.Lib
