/- The reference's comparison, bits and long division; the program's comparison and count of bits. -/
import Derived.Test.YtdgbehbiigggmaaXWi
import Derived.Test.YtdgbehbiigggmaaXx8
import Derived.Test.YtdgbehbiigggmaaXx9
namespace Go.Proofs.Ytdgbehbiigggmaa.Lib
open Go.RowKit Go.Proofs.Ytdgbehbiigggmaa.X Go.Proofs.YtdgbehbiigggmaaW.PrintWords Go.Proofs.YtdgbehbiigggmaaW.PrintLast Go.Proofs.YtdgbehbiigggmaaW.PrintMore
set_option linter.unusedVariables false
set_option linter.unusedSimpArgs false

theorem low_bit (x : Int) (r : Nat) (h : r < 16) : x % 65536 / 2 ^ r % 2 = x / 2 ^ r % 2 := by
  have : r = 0 ∨ r = 1 ∨ r = 2 ∨ r = 3 ∨ r = 4 ∨ r = 5 ∨ r = 6 ∨ r = 7 ∨ r = 8 ∨ r = 9 ∨ r = 10 ∨ r = 11 ∨ r = 12 ∨ r = 13 ∨ r = 14 ∨ r = 15 := by omega
  rcases this with rfl | rfl | rfl | rfl | rfl | rfl | rfl | rfl | rfl | rfl | rfl | rfl | rfl | rfl | rfl | rfl <;> simp only [Int.reducePow] <;> omega
theorem digs_at (hi lo : Int) (h0 : 0 ≤ hi) (h1 : hi < 18446744073709551616) (l0 : 0 ≤ lo) (l1 : lo < 18446744073709551616) (j : Nat) (h : j < 8) : rd (digs hi lo) j = V hi lo / 2 ^ (16 * j) % 65536 := by
  have : j = 0 ∨ j = 1 ∨ j = 2 ∨ j = 3 ∨ j = 4 ∨ j = 5 ∨ j = 6 ∨ j = 7 := by omega
  unfold digs rd V
  rcases this with rfl | rfl | rfl | rfl | rfl | rfl | rfl | rfl <;> simp only [Int.reducePow, Nat.reduceMul, Int.toNat_natCast, List.getD_cons_zero, List.getD_cons_succ] <;> omega
theorem digs_len (hi lo : Int) : (digs hi lo).length = 8 := rfl
theorem shr_i (x : Int) (r : Nat) (h : r < 16) : shr .i64 x (r : Int) = x / 2 ^ r := by
  unfold shr
  rw [Int.toNat_natCast, Nat.min_eq_left (by simp [IntKind.bits]; omega)]
theorem rbit_a (k : Nat) (hi lo i : Int) (h0 : 0 ≤ hi) (h1 : hi < 18446744073709551616) (l0 : 0 ≤ lo) (l1 : lo < 18446744073709551616) (q r : Nat) (hi' : i = 16 * q + r) (hq : q < 8) (hr : r < 16) : overfallref01_Bit.f (k + 10) hi lo i = some (Int.tmod (shr .i64 (rd (digs hi lo) (q : Int)) (r : Int)) 2) := by
  have e1 : wrap64 (Int.tdiv i 16) = (q : Int) := by rw [tdiv_nn (by omega), w64 (by omega) (by omega)]; omega
  have e2 : Int.tmod i 16 = (r : Int) := by rw [tmod_nn (by omega)]; omega
  rw [overfallref01_Bit.f, digitsf k hi lo h0 h1 l0 l1]
  simp only [Option.bind_some]
  rw [e1, e2, if_pos (by omega), if_pos (by rw [digs_len]; omega), if_pos (by omega)]
theorem rbitf (k : Nat) (hi lo i : Int) (h0 : 0 ≤ hi) (h1 : hi < 18446744073709551616) (l0 : 0 ≤ lo) (l1 : lo < 18446744073709551616) (i0 : 0 ≤ i) (i1 : i < 128) : overfallref01_Bit.f (k + 10) hi lo i = some (V hi lo / 2 ^ i.toNat % 2) := by
  obtain ⟨n, rfl⟩ := Int.eq_ofNat_of_zero_le i0
  obtain ⟨q, r, hn, hq, hr⟩ : ∃ q r : Nat, n = 16 * q + r ∧ q < 8 ∧ r < 16 := ⟨n / 16, n % 16, by omega, by omega, by omega⟩
  have vb := V_bd h0 h1 l0 l1
  have pq := pow_pos' (16 * q)
  have pr := pow_pos' r
  rw [rbit_a k hi lo (n : Int) h0 h1 l0 l1 q r (by omega) hq hr, digs_at hi lo h0 h1 l0 l1 q hq, shr_i _ r hr, Int.toNat_natCast, hn, Int.pow_add, ← Int.ediv_ediv_of_nonneg (by omega)]
  generalize V hi lo / 2 ^ (16 * q) = x
  rw [tmod_nn (Int.ediv_nonneg (by omega) (by omega)), low_bit x r hr]

/-- One more bit of the number that is divided. -/
theorem div_bit (T b d : Int) (d0 : 0 < d) (b0 : 0 ≤ b) (b1 : b ≤ 1) :
    (2 * (T % d) + b < d → (2 * T + b) / d = 2 * (T / d) ∧ (2 * T + b) % d = 2 * (T % d) + b) ∧ (d ≤ 2 * (T % d) + b → (2 * T + b) / d = 2 * (T / d) + 1 ∧ (2 * T + b) % d = 2 * (T % d) + b - d) := by
  have e : d * (T / d) + T % d = T := Int.mul_ediv_add_emod _ _
  have r0 := Int.emod_nonneg T (show d ≠ 0 by omega)
  have r1 := Int.emod_lt_of_pos T d0
  constructor
  · intro h
    refine (Int.ediv_emod_unique d0).2 ⟨?_, by omega, h⟩
    rw [show d * (2 * (T / d)) = 2 * (d * (T / d)) by grind]
    omega
  · intro h
    refine (Int.ediv_emod_unique d0).2 ⟨?_, by omega, by omega⟩
    rw [show d * (2 * (T / d) + 1) = 2 * (d * (T / d)) + d by grind]
    omega

theorem rdiv_loop (hi lo d : Int) (h0 : 0 ≤ hi) (h1 : hi < 18446744073709551616) (l0 : 0 ≤ lo) (l1 : lo < 18446744073709551616) (d0 : 0 < d) (d1 : d < 18446744073709551616) (m : Nat) : ∀ k : Nat, m ≤ 128 →
    overfallref01_Div.l0 (k + 2 * m + 30) ((m : Int) - 1) hi lo (V hi lo / 2 ^ m / d / 18446744073709551616) (V hi lo / 2 ^ m / d % 18446744073709551616) 0 (V hi lo / 2 ^ m % d) 0 d =
      some (V hi lo / d / 18446744073709551616, V hi lo / d % 18446744073709551616, V hi lo % d) := by
  have vb := V_bd h0 h1 l0 l1
  induction m with
  | zero =>
    intro k hm
    rw [overfallref01_Div.l0, if_neg (by omega), Int.pow_zero, Int.ediv_one]
  | succ m ih =>
    intro k hm
    have pm := pow_pos' m
    generalize hT : V hi lo / 2 ^ (m + 1) = T
    have hT2 : V hi lo / 2 ^ m = 2 * T + V hi lo / 2 ^ m % 2 := by
      rw [← hT, Int.pow_succ, ← Int.ediv_ediv_of_nonneg (by omega)]
      omega
    have x0 : 0 ≤ V hi lo / 2 ^ m := Int.ediv_nonneg vb.1 (by omega)
    have x1 : V hi lo / 2 ^ m ≤ V hi lo := Int.ediv_le_self _ vb.1
    have T0 : 0 ≤ T := by omega
    have q0 : 0 ≤ T / d := Int.ediv_nonneg T0 (by omega)
    have q1 : T / d ≤ T := Int.ediv_le_self _ T0
    have r0 := Int.emod_nonneg T (show d ≠ 0 by omega)
    have r1 := Int.emod_lt_of_pos T d0
    have key := div_bit T (V hi lo / 2 ^ m % 2) d d0 (by omega) (by omega)
    rw [← hT2] at key
    have ih' := ih k (by omega)
    generalize hb : V hi lo / 2 ^ m % 2 = b at *
    have b01 : b = 0 ∨ b = 1 := by omega
    rw [show k + 2 * (m + 1) + 30 = (k + 2 * m + 11 + 20) + 1 by omega, overfallref01_Div.l0, if_pos (by omega), rtwicef _ _ _ (by omega) (by omega) (by omega) (by omega)]
    simp only [Option.bind_some]
    rw [rtwicef _ 0 (T % d) (by omega) (by omega) (by omega) (by omega)]
    simp only [Option.bind_some]
    rw [show k + 2 * m + 11 + 20 = (k + 2 * m + 21) + 10 by omega, rbitf _ hi lo _ h0 h1 l0 l1 (by omega) (by omega)]
    simp only [Option.bind_some]
    have em : (((m + 1 : Nat) : Int) - 1).toNat = m := by omega
    rw [em, hb, show T / d / 18446744073709551616 * 18446744073709551616 + T / d % 18446744073709551616 = T / d by omega, show (0 : Int) * 18446744073709551616 + T % d = T % d by omega, show 2 * (T % d) / 18446744073709551616 % 18446744073709551616 = 2 * (T % d) / 18446744073709551616 by omega, show 2 * (T / d) / 18446744073709551616 % 18446744073709551616 = 2 * (T / d) / 18446744073709551616 by omega]
    have J : ∀ R, R = 2 * (T % d) + b → overfallref01_Div.j1 (k + 2 * m + 21 + 10) (((m + 1 : Nat) : Int) - 1) hi lo (2 * (T / d) / 18446744073709551616) (2 * (T / d) % 18446744073709551616) (R / 18446744073709551616) (R % 18446744073709551616) 0 d =
        some (V hi lo / d / 18446744073709551616, V hi lo / d % 18446744073709551616, V hi lo % d) := by
      intro R hR
      rw [show k + 2 * m + 21 + 10 = (k + 2 * m + 30) + 1 by omega, overfallref01_Div.j1, lessf _ _ _ _ (by omega) (by omega) (by omega) d1]
      simp only [Option.bind_some]
      have ev : V (R / 18446744073709551616) (R % 18446744073709551616) = R := V_of R
      have ed : V 0 d = d := by unfold V; omega
      rw [ev, ed, w64 (x := ((m + 1 : Nat) : Int) - 1 - 1) (by omega) (by omega), show ((m + 1 : Nat) : Int) - 1 - 1 = (m : Int) - 1 by omega]
      by_cases c : R < d
      · rw [if_pos (by simpa using c)]
        have kk := key.1 (by omega)
        rw [kk.1, kk.2, ← hR] at ih'
        rw [show R / 18446744073709551616 = 0 by omega, show R % 18446744073709551616 = R by omega]
        exact ih'
      · rw [if_neg (by simpa using c)]
        have kk := key.2 (by omega)
        rw [kk.1, kk.2, ← hR] at ih'
        rw [show k + 2 * m + 30 = (k + 2 * m + 10) + 20 by omega, rsubf _ _ _ 0 d (by omega) (by omega) (by omega) (by omega) (by omega) (by omega) (by omega) d1]
        simp only [Option.bind_some]
        rw [raddf _ _ _ 0 1 (by omega) (by omega) (by omega) (by omega) (by omega) (by omega) (by omega) (by omega)]
        simp only [Option.bind_some]
        rw [show (R / 18446744073709551616 - 0 - (if R % 18446744073709551616 < d then 1 else 0)) % 18446744073709551616 = 0 by split <;> omega, show (R % 18446744073709551616 - d) % 18446744073709551616 = R - d by omega]
        rw [show (2 * (T / d) / 18446744073709551616 + 0 + (2 * (T / d) % 18446744073709551616 + 1) / 18446744073709551616) % 18446744073709551616 = (2 * (T / d) + 1) / 18446744073709551616 by omega, show (2 * (T / d) % 18446744073709551616 + 1) % 18446744073709551616 = (2 * (T / d) + 1) % 18446744073709551616 by omega]
        exact ih'
    rcases b01 with hb0 | hb1
    · rw [if_neg (by omega)]
      exact J (2 * (T % d)) (by omega)
    · rw [if_pos hb1, show k + 2 * m + 21 + 10 = (k + 2 * m + 11) + 20 by omega, raddf _ _ _ 0 1 (by omega) (by omega) (by omega) (by omega) (by omega) (by omega) (by omega) (by omega)]
      simp only [Option.bind_some]
      have hj := J (2 * (T % d) + 1) (by omega)
      rw [show (2 * (T % d) / 18446744073709551616 + 0 + (2 * (T % d) % 18446744073709551616 + 1) / 18446744073709551616) % 18446744073709551616 = (2 * (T % d) + 1) / 18446744073709551616 by omega, show (2 * (T % d) % 18446744073709551616 + 1) % 18446744073709551616 = (2 * (T % d) + 1) % 18446744073709551616 by omega]
      rw [show k + 2 * m + 11 + 20 = k + 2 * m + 21 + 10 by omega]
      exact hj
theorem rdivf (k : Nat) (hi lo d : Int) (h0 : 0 ≤ hi) (h1 : hi < 18446744073709551616) (l0 : 0 ≤ lo) (l1 : lo < 18446744073709551616) (d0 : 0 < d) (d1 : d < 18446744073709551616) :
    overfallref01_Div.f (k + 290) hi lo d = some (V hi lo / d / 18446744073709551616, V hi lo / d % 18446744073709551616, V hi lo % d) := by
  have vb := V_bd h0 h1 l0 l1
  have h := rdiv_loop hi lo d h0 h1 l0 l1 d0 d1 128 (k + 4) (by omega)
  have hz : V hi lo / 2 ^ 128 = 0 := Int.ediv_eq_zero_of_lt vb.1 (by have : (2 : Int) ^ 128 = 18446744073709551616 * 18446744073709551616 := by decide
                                                                     omega)
  rw [hz] at h
  rw [overfallref01_Div.f, if_neg (by omega)]
  simpa using h
theorem rdivf0 (k : Nat) (hi lo : Int) : overfallref01_Div.f k hi lo 0 = some (0, 0, 0) := by
  rw [overfallref01_Div.f, if_pos rfl]
end Go.Proofs.Ytdgbehbiigggmaa.Lib
