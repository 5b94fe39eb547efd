/- Lemmas of this claim's session over the printed functions (plain Lean, no condition beyond those each theorem names). -/
import Derived.Test.YtiiffgmbkajkhaaLWe
namespace Go.Proofs.Ytiiffgmbkajkhaa.Lib
open Go.RowKit Go.Proofs.Ytiiffgmbkajkhaa.L Go.Proofs.YtiiffgmbkajkhaaW.PrintWords Go.Proofs.YtiiffgmbkajkhaaW.PrintLast Go.Proofs.YtiiffgmbkajkhaaW.PrintMore
set_option linter.unusedVariables false
set_option linter.unusedSimpArgs false
theorem prod_bd (x y : Int) (a0 : 0 ≤ x) (a1 : x < 65536) (b0 : 0 ≤ y) (b1 : y < 65536) : 0 ≤ x * y ∧ x * y ≤ 4294836225 := by
  refine ⟨Int.mul_nonneg a0 b0, ?_⟩
  have := Int.mul_le_mul (show x ≤ 65535 by omega) (show y ≤ 65535 by omega) b0 (by omega)
  omega
theorem mul_dig (s m c : Int) (a0 : 0 ≤ s) (a1 : s < 65536) (b0 : 0 ≤ m) (b1 : m ≤ 4294836225) (c0 : 0 ≤ c) (c1 : c < 65536) : ∃ z c' : Int, s + m + c = z + 65536 * c' ∧ 0 ≤ z ∧ z < 65536 ∧ 0 ≤ c' ∧ c' < 65536 ∧ (s + m + c) % 65536 = z ∧ (s + m + c) / 65536 = c' := ⟨_, _, by omega, by omega, by omega, by omega, by omega, rfl, rfl⟩
theorem mul_step (k : Nat) (xs ys zs : List Int) (i c j : Int) (i0 : 0 ≤ i) (i1 : i < 4) (j0 : 0 ≤ j) (j1 : j < 4) (lx : xs.length = 8) (ly : ys.length = 8) (lz : zs.length = 9) (a0 : 0 ≤ rd xs i) (a1 : rd xs i < 65536) (b0 : 0 ≤ rd ys j) (b1 : rd ys j < 65536) (z0 : 0 ≤ rd zs (i + j)) (z1 : rd zs (i + j) < 65536) (c0 : 0 ≤ c) (c1 : c < 65536) :
    overfallref01_Mul.l1 (k + 1) xs ys zs i c j = overfallref01_Mul.l1 k xs ys (zs.set (i + j).toNat ((rd zs (i + j) + rd xs i * rd ys j + c) % 65536)) i ((rd zs (i + j) + rd xs i * rd ys j + c) / 65536) (j + 1) := by
  have p := prod_bd _ _ a0 a1 b0 b1
  rw [overfallref01_Mul.l1, if_pos j1, w64 (x := i + j) (by omega) (by omega), if_pos (by omega), if_pos (by omega), if_pos i0, if_pos (by omega), if_pos j0, if_pos (by omega), w64 (x := rd xs i * rd ys j) (by omega) (by omega), w64 (x := rd zs (i + j) + rd xs i * rd ys j) (by omega) (by omega), w64 (x := rd zs (i + j) + rd xs i * rd ys j + c) (by omega) (by omega), tmod_nn (by omega), tdiv_nn (by omega), w64 (by omega) (by omega), w64 (by omega) (by omega)]
theorem mul_end (k : Nat) (xs ys zs : List Int) (i c : Int) (i0 : 0 ≤ i) (i1 : i < 4) (lz : zs.length = 9) (z0 : rd zs (i + 4) = 0) (c0 : 0 ≤ c) (c1 : c < 65536) :
    overfallref01_Mul.l1 (k + 1) xs ys zs i c 4 = overfallref01_Mul.l0 k xs ys (zs.set (i + 4).toNat c) (i + 1) := by
  rw [overfallref01_Mul.l1, if_neg (by omega), w64 (x := i + 4) (by omega) (by omega), if_pos (by omega), if_pos (by omega), z0, Int.zero_add, w64 (by omega) (by omega), w64 (by omega) (by omega)]
theorem mul_begin (k : Nat) (xs ys zs : List Int) (i : Int) (i1 : i < 4) : overfallref01_Mul.l0 (k + 1) xs ys zs i = overfallref01_Mul.l1 k xs ys zs i 0 0 := by
  rw [overfallref01_Mul.l0, if_pos i1]

theorem chain_mul (s0 s1 s2 s3 m0 m1 m2 m3 z0 z1 z2 z3 c1 c2 c3 c4 : Int) (e0 : s0 + m0 + 0 = z0 + 65536 * c1) (e1 : s1 + m1 + c1 = z1 + 65536 * c2) (e2 : s2 + m2 + c2 = z2 + 65536 * c3) (e3 : s3 + m3 + c3 = z3 + 65536 * c4) : s0 + 65536 * s1 + 4294967296 * s2 + 281474976710656 * s3 + (m0 + 65536 * m1 + 4294967296 * m2 + 281474976710656 * m3) = z0 + 65536 * z1 + 4294967296 * z2 + 281474976710656 * z3 + 18446744073709551616 * c4 := by omega
set_option maxHeartbeats 4000000 in
theorem mul_all (k : Nat) (x0 x1 x2 x3 x4 x5 x6 x7 y0 y1 y2 y3 y4 y5 y6 y7 : Int) (hx00 : 0 ≤ x0) (hx01 : x0 < 65536) (hx10 : 0 ≤ x1) (hx11 : x1 < 65536) (hx20 : 0 ≤ x2) (hx21 : x2 < 65536) (hx30 : 0 ≤ x3) (hx31 : x3 < 65536) (hx40 : 0 ≤ x4) (hx41 : x4 < 65536) (hx50 : 0 ≤ x5) (hx51 : x5 < 65536) (hx60 : 0 ≤ x6) (hx61 : x6 < 65536) (hx70 : 0 ≤ x7) (hx71 : x7 < 65536) (hy00 : 0 ≤ y0) (hy01 : y0 < 65536) (hy10 : 0 ≤ y1) (hy11 : y1 < 65536) (hy20 : 0 ≤ y2) (hy21 : y2 < 65536) (hy30 : 0 ≤ y3) (hy31 : y3 < 65536) (hy40 : 0 ≤ y4) (hy41 : y4 < 65536) (hy50 : 0 ≤ y5) (hy51 : y5 < 65536) (hy60 : 0 ≤ y6) (hy61 : y6 < 65536) (hy70 : 0 ≤ y7) (hy71 : y7 < 65536) : ∃ zl zh : Int, overfallref01_Mul.l0 (k + 25 + 6) [x0, x1, x2, x3, x4, x5, x6, x7] [y0, y1, y2, y3, y4, y5, y6, y7] [0, 0, 0, 0, 0, 0, 0, 0, 0] 0 = some (zh, zl) ∧ 0 ≤ zl ∧ zl < 18446744073709551616 ∧ 0 ≤ zh ∧ zh < 18446744073709551616 ∧ zl + 18446744073709551616 * zh = (x0 + 65536 * x1 + 4294967296 * x2 + 281474976710656 * x3) * (y0 + 65536 * y1 + 4294967296 * y2 + 281474976710656 * y3) := by
  have b0 : overfallref01_Mul.l0 (k + 25 + 6) [x0, x1, x2, x3, x4, x5, x6, x7] [y0, y1, y2, y3, y4, y5, y6, y7] [0, 0, 0, 0, 0, 0, 0, 0, 0] 0 = overfallref01_Mul.l1 (k + 24 + 6) [x0, x1, x2, x3, x4, x5, x6, x7] [y0, y1, y2, y3, y4, y5, y6, y7] [0, 0, 0, 0, 0, 0, 0, 0, 0] 0 0 0 := mul_begin _ _ _ _ _ (by decide)
  obtain ⟨z0_0, c0_1, e00, u00, v00, p00, q00, hz00, hc00⟩ := mul_dig 0 (x0 * y0) 0 (Int.le_refl 0) (by decide) (prod_bd x0 y0 hx00 hx01 hy00 hy01).1 (prod_bd x0 y0 hx00 hx01 hy00 hy01).2 (Int.le_refl 0) (by decide)
  have s00 : overfallref01_Mul.l1 (k + 24 + 6) [x0, x1, x2, x3, x4, x5, x6, x7] [y0, y1, y2, y3, y4, y5, y6, y7] [0, 0, 0, 0, 0, 0, 0, 0, 0] 0 0 0 = overfallref01_Mul.l1 (k + 23 + 6) [x0, x1, x2, x3, x4, x5, x6, x7] [y0, y1, y2, y3, y4, y5, y6, y7] [z0_0, 0, 0, 0, 0, 0, 0, 0, 0] 0 c0_1 1 := by
    have r1 : rd [x0, x1, x2, x3, x4, x5, x6, x7] 0 = x0 := rfl
    have r2 : rd [y0, y1, y2, y3, y4, y5, y6, y7] 0 = y0 := rfl
    have r3 : rd [0, 0, 0, 0, 0, 0, 0, 0, 0] (0 + 0) = 0 := rfl
    have := mul_step (k + 23 + 6) [x0, x1, x2, x3, x4, x5, x6, x7] [y0, y1, y2, y3, y4, y5, y6, y7] [0, 0, 0, 0, 0, 0, 0, 0, 0] 0 0 0 (by decide) (by decide) (by decide) (by decide) rfl rfl rfl (by rw [r1]; exact hx00) (by rw [r1]; exact hx01) (by rw [r2]; exact hy00) (by rw [r2]; exact hy01) (by rw [r3]; exact (Int.le_refl 0)) (by rw [r3]; exact (by decide)) (Int.le_refl 0) (by decide)
    rw [r1, r2, r3, hz00, hc00] at this
    exact this
  obtain ⟨z0_1, c0_2, e01, u01, v01, p01, q01, hz01, hc01⟩ := mul_dig 0 (x0 * y1) c0_1 (Int.le_refl 0) (by decide) (prod_bd x0 y1 hx00 hx01 hy10 hy11).1 (prod_bd x0 y1 hx00 hx01 hy10 hy11).2 p00 q00
  have s01 : overfallref01_Mul.l1 (k + 23 + 6) [x0, x1, x2, x3, x4, x5, x6, x7] [y0, y1, y2, y3, y4, y5, y6, y7] [z0_0, 0, 0, 0, 0, 0, 0, 0, 0] 0 c0_1 1 = overfallref01_Mul.l1 (k + 22 + 6) [x0, x1, x2, x3, x4, x5, x6, x7] [y0, y1, y2, y3, y4, y5, y6, y7] [z0_0, z0_1, 0, 0, 0, 0, 0, 0, 0] 0 c0_2 2 := by
    have r1 : rd [x0, x1, x2, x3, x4, x5, x6, x7] 0 = x0 := rfl
    have r2 : rd [y0, y1, y2, y3, y4, y5, y6, y7] 1 = y1 := rfl
    have r3 : rd [z0_0, 0, 0, 0, 0, 0, 0, 0, 0] (0 + 1) = 0 := rfl
    have := mul_step (k + 22 + 6) [x0, x1, x2, x3, x4, x5, x6, x7] [y0, y1, y2, y3, y4, y5, y6, y7] [z0_0, 0, 0, 0, 0, 0, 0, 0, 0] 0 c0_1 1 (by decide) (by decide) (by decide) (by decide) rfl rfl rfl (by rw [r1]; exact hx00) (by rw [r1]; exact hx01) (by rw [r2]; exact hy10) (by rw [r2]; exact hy11) (by rw [r3]; exact (Int.le_refl 0)) (by rw [r3]; exact (by decide)) p00 q00
    rw [r1, r2, r3, hz01, hc01] at this
    exact this
  obtain ⟨z0_2, c0_3, e02, u02, v02, p02, q02, hz02, hc02⟩ := mul_dig 0 (x0 * y2) c0_2 (Int.le_refl 0) (by decide) (prod_bd x0 y2 hx00 hx01 hy20 hy21).1 (prod_bd x0 y2 hx00 hx01 hy20 hy21).2 p01 q01
  have s02 : overfallref01_Mul.l1 (k + 22 + 6) [x0, x1, x2, x3, x4, x5, x6, x7] [y0, y1, y2, y3, y4, y5, y6, y7] [z0_0, z0_1, 0, 0, 0, 0, 0, 0, 0] 0 c0_2 2 = overfallref01_Mul.l1 (k + 21 + 6) [x0, x1, x2, x3, x4, x5, x6, x7] [y0, y1, y2, y3, y4, y5, y6, y7] [z0_0, z0_1, z0_2, 0, 0, 0, 0, 0, 0] 0 c0_3 3 := by
    have r1 : rd [x0, x1, x2, x3, x4, x5, x6, x7] 0 = x0 := rfl
    have r2 : rd [y0, y1, y2, y3, y4, y5, y6, y7] 2 = y2 := rfl
    have r3 : rd [z0_0, z0_1, 0, 0, 0, 0, 0, 0, 0] (0 + 2) = 0 := rfl
    have := mul_step (k + 21 + 6) [x0, x1, x2, x3, x4, x5, x6, x7] [y0, y1, y2, y3, y4, y5, y6, y7] [z0_0, z0_1, 0, 0, 0, 0, 0, 0, 0] 0 c0_2 2 (by decide) (by decide) (by decide) (by decide) rfl rfl rfl (by rw [r1]; exact hx00) (by rw [r1]; exact hx01) (by rw [r2]; exact hy20) (by rw [r2]; exact hy21) (by rw [r3]; exact (Int.le_refl 0)) (by rw [r3]; exact (by decide)) p01 q01
    rw [r1, r2, r3, hz02, hc02] at this
    exact this
  obtain ⟨z0_3, c0_4, e03, u03, v03, p03, q03, hz03, hc03⟩ := mul_dig 0 (x0 * y3) c0_3 (Int.le_refl 0) (by decide) (prod_bd x0 y3 hx00 hx01 hy30 hy31).1 (prod_bd x0 y3 hx00 hx01 hy30 hy31).2 p02 q02
  have s03 : overfallref01_Mul.l1 (k + 21 + 6) [x0, x1, x2, x3, x4, x5, x6, x7] [y0, y1, y2, y3, y4, y5, y6, y7] [z0_0, z0_1, z0_2, 0, 0, 0, 0, 0, 0] 0 c0_3 3 = overfallref01_Mul.l1 (k + 20 + 6) [x0, x1, x2, x3, x4, x5, x6, x7] [y0, y1, y2, y3, y4, y5, y6, y7] [z0_0, z0_1, z0_2, z0_3, 0, 0, 0, 0, 0] 0 c0_4 4 := by
    have r1 : rd [x0, x1, x2, x3, x4, x5, x6, x7] 0 = x0 := rfl
    have r2 : rd [y0, y1, y2, y3, y4, y5, y6, y7] 3 = y3 := rfl
    have r3 : rd [z0_0, z0_1, z0_2, 0, 0, 0, 0, 0, 0] (0 + 3) = 0 := rfl
    have := mul_step (k + 20 + 6) [x0, x1, x2, x3, x4, x5, x6, x7] [y0, y1, y2, y3, y4, y5, y6, y7] [z0_0, z0_1, z0_2, 0, 0, 0, 0, 0, 0] 0 c0_3 3 (by decide) (by decide) (by decide) (by decide) rfl rfl rfl (by rw [r1]; exact hx00) (by rw [r1]; exact hx01) (by rw [r2]; exact hy30) (by rw [r2]; exact hy31) (by rw [r3]; exact (Int.le_refl 0)) (by rw [r3]; exact (by decide)) p02 q02
    rw [r1, r2, r3, hz03, hc03] at this
    exact this
  have t0 : overfallref01_Mul.l1 (k + 20 + 6) [x0, x1, x2, x3, x4, x5, x6, x7] [y0, y1, y2, y3, y4, y5, y6, y7] [z0_0, z0_1, z0_2, z0_3, 0, 0, 0, 0, 0] 0 c0_4 4 = overfallref01_Mul.l0 (k + 19 + 6) [x0, x1, x2, x3, x4, x5, x6, x7] [y0, y1, y2, y3, y4, y5, y6, y7] [z0_0, z0_1, z0_2, z0_3, c0_4, 0, 0, 0, 0] 1 := mul_end _ _ _ _ _ _ (by decide) (by decide) rfl rfl p03 q03
  have E0 := chain_mul 0 0 0 0 (x0 * y0) (x0 * y1) (x0 * y2) (x0 * y3) z0_0 z0_1 z0_2 z0_3 c0_1 c0_2 c0_3 c0_4 e00 e01 e02 e03
  have b1 : overfallref01_Mul.l0 (k + 19 + 6) [x0, x1, x2, x3, x4, x5, x6, x7] [y0, y1, y2, y3, y4, y5, y6, y7] [z0_0, z0_1, z0_2, z0_3, c0_4, 0, 0, 0, 0] 1 = overfallref01_Mul.l1 (k + 18 + 6) [x0, x1, x2, x3, x4, x5, x6, x7] [y0, y1, y2, y3, y4, y5, y6, y7] [z0_0, z0_1, z0_2, z0_3, c0_4, 0, 0, 0, 0] 1 0 0 := mul_begin _ _ _ _ _ (by decide)
  obtain ⟨z1_0, c1_1, e10, u10, v10, p10, q10, hz10, hc10⟩ := mul_dig z0_1 (x1 * y0) 0 u01 v01 (prod_bd x1 y0 hx10 hx11 hy00 hy01).1 (prod_bd x1 y0 hx10 hx11 hy00 hy01).2 (Int.le_refl 0) (by decide)
  have s10 : overfallref01_Mul.l1 (k + 18 + 6) [x0, x1, x2, x3, x4, x5, x6, x7] [y0, y1, y2, y3, y4, y5, y6, y7] [z0_0, z0_1, z0_2, z0_3, c0_4, 0, 0, 0, 0] 1 0 0 = overfallref01_Mul.l1 (k + 17 + 6) [x0, x1, x2, x3, x4, x5, x6, x7] [y0, y1, y2, y3, y4, y5, y6, y7] [z0_0, z1_0, z0_2, z0_3, c0_4, 0, 0, 0, 0] 1 c1_1 1 := by
    have r1 : rd [x0, x1, x2, x3, x4, x5, x6, x7] 1 = x1 := rfl
    have r2 : rd [y0, y1, y2, y3, y4, y5, y6, y7] 0 = y0 := rfl
    have r3 : rd [z0_0, z0_1, z0_2, z0_3, c0_4, 0, 0, 0, 0] (1 + 0) = z0_1 := rfl
    have := mul_step (k + 17 + 6) [x0, x1, x2, x3, x4, x5, x6, x7] [y0, y1, y2, y3, y4, y5, y6, y7] [z0_0, z0_1, z0_2, z0_3, c0_4, 0, 0, 0, 0] 1 0 0 (by decide) (by decide) (by decide) (by decide) rfl rfl rfl (by rw [r1]; exact hx10) (by rw [r1]; exact hx11) (by rw [r2]; exact hy00) (by rw [r2]; exact hy01) (by rw [r3]; exact u01) (by rw [r3]; exact v01) (Int.le_refl 0) (by decide)
    rw [r1, r2, r3, hz10, hc10] at this
    exact this
  obtain ⟨z1_1, c1_2, e11, u11, v11, p11, q11, hz11, hc11⟩ := mul_dig z0_2 (x1 * y1) c1_1 u02 v02 (prod_bd x1 y1 hx10 hx11 hy10 hy11).1 (prod_bd x1 y1 hx10 hx11 hy10 hy11).2 p10 q10
  have s11 : overfallref01_Mul.l1 (k + 17 + 6) [x0, x1, x2, x3, x4, x5, x6, x7] [y0, y1, y2, y3, y4, y5, y6, y7] [z0_0, z1_0, z0_2, z0_3, c0_4, 0, 0, 0, 0] 1 c1_1 1 = overfallref01_Mul.l1 (k + 16 + 6) [x0, x1, x2, x3, x4, x5, x6, x7] [y0, y1, y2, y3, y4, y5, y6, y7] [z0_0, z1_0, z1_1, z0_3, c0_4, 0, 0, 0, 0] 1 c1_2 2 := by
    have r1 : rd [x0, x1, x2, x3, x4, x5, x6, x7] 1 = x1 := rfl
    have r2 : rd [y0, y1, y2, y3, y4, y5, y6, y7] 1 = y1 := rfl
    have r3 : rd [z0_0, z1_0, z0_2, z0_3, c0_4, 0, 0, 0, 0] (1 + 1) = z0_2 := rfl
    have := mul_step (k + 16 + 6) [x0, x1, x2, x3, x4, x5, x6, x7] [y0, y1, y2, y3, y4, y5, y6, y7] [z0_0, z1_0, z0_2, z0_3, c0_4, 0, 0, 0, 0] 1 c1_1 1 (by decide) (by decide) (by decide) (by decide) rfl rfl rfl (by rw [r1]; exact hx10) (by rw [r1]; exact hx11) (by rw [r2]; exact hy10) (by rw [r2]; exact hy11) (by rw [r3]; exact u02) (by rw [r3]; exact v02) p10 q10
    rw [r1, r2, r3, hz11, hc11] at this
    exact this
  obtain ⟨z1_2, c1_3, e12, u12, v12, p12, q12, hz12, hc12⟩ := mul_dig z0_3 (x1 * y2) c1_2 u03 v03 (prod_bd x1 y2 hx10 hx11 hy20 hy21).1 (prod_bd x1 y2 hx10 hx11 hy20 hy21).2 p11 q11
  have s12 : overfallref01_Mul.l1 (k + 16 + 6) [x0, x1, x2, x3, x4, x5, x6, x7] [y0, y1, y2, y3, y4, y5, y6, y7] [z0_0, z1_0, z1_1, z0_3, c0_4, 0, 0, 0, 0] 1 c1_2 2 = overfallref01_Mul.l1 (k + 15 + 6) [x0, x1, x2, x3, x4, x5, x6, x7] [y0, y1, y2, y3, y4, y5, y6, y7] [z0_0, z1_0, z1_1, z1_2, c0_4, 0, 0, 0, 0] 1 c1_3 3 := by
    have r1 : rd [x0, x1, x2, x3, x4, x5, x6, x7] 1 = x1 := rfl
    have r2 : rd [y0, y1, y2, y3, y4, y5, y6, y7] 2 = y2 := rfl
    have r3 : rd [z0_0, z1_0, z1_1, z0_3, c0_4, 0, 0, 0, 0] (1 + 2) = z0_3 := rfl
    have := mul_step (k + 15 + 6) [x0, x1, x2, x3, x4, x5, x6, x7] [y0, y1, y2, y3, y4, y5, y6, y7] [z0_0, z1_0, z1_1, z0_3, c0_4, 0, 0, 0, 0] 1 c1_2 2 (by decide) (by decide) (by decide) (by decide) rfl rfl rfl (by rw [r1]; exact hx10) (by rw [r1]; exact hx11) (by rw [r2]; exact hy20) (by rw [r2]; exact hy21) (by rw [r3]; exact u03) (by rw [r3]; exact v03) p11 q11
    rw [r1, r2, r3, hz12, hc12] at this
    exact this
  obtain ⟨z1_3, c1_4, e13, u13, v13, p13, q13, hz13, hc13⟩ := mul_dig c0_4 (x1 * y3) c1_3 p03 q03 (prod_bd x1 y3 hx10 hx11 hy30 hy31).1 (prod_bd x1 y3 hx10 hx11 hy30 hy31).2 p12 q12
  have s13 : overfallref01_Mul.l1 (k + 15 + 6) [x0, x1, x2, x3, x4, x5, x6, x7] [y0, y1, y2, y3, y4, y5, y6, y7] [z0_0, z1_0, z1_1, z1_2, c0_4, 0, 0, 0, 0] 1 c1_3 3 = overfallref01_Mul.l1 (k + 14 + 6) [x0, x1, x2, x3, x4, x5, x6, x7] [y0, y1, y2, y3, y4, y5, y6, y7] [z0_0, z1_0, z1_1, z1_2, z1_3, 0, 0, 0, 0] 1 c1_4 4 := by
    have r1 : rd [x0, x1, x2, x3, x4, x5, x6, x7] 1 = x1 := rfl
    have r2 : rd [y0, y1, y2, y3, y4, y5, y6, y7] 3 = y3 := rfl
    have r3 : rd [z0_0, z1_0, z1_1, z1_2, c0_4, 0, 0, 0, 0] (1 + 3) = c0_4 := rfl
    have := mul_step (k + 14 + 6) [x0, x1, x2, x3, x4, x5, x6, x7] [y0, y1, y2, y3, y4, y5, y6, y7] [z0_0, z1_0, z1_1, z1_2, c0_4, 0, 0, 0, 0] 1 c1_3 3 (by decide) (by decide) (by decide) (by decide) rfl rfl rfl (by rw [r1]; exact hx10) (by rw [r1]; exact hx11) (by rw [r2]; exact hy30) (by rw [r2]; exact hy31) (by rw [r3]; exact p03) (by rw [r3]; exact q03) p12 q12
    rw [r1, r2, r3, hz13, hc13] at this
    exact this
  have t1 : overfallref01_Mul.l1 (k + 14 + 6) [x0, x1, x2, x3, x4, x5, x6, x7] [y0, y1, y2, y3, y4, y5, y6, y7] [z0_0, z1_0, z1_1, z1_2, z1_3, 0, 0, 0, 0] 1 c1_4 4 = overfallref01_Mul.l0 (k + 13 + 6) [x0, x1, x2, x3, x4, x5, x6, x7] [y0, y1, y2, y3, y4, y5, y6, y7] [z0_0, z1_0, z1_1, z1_2, z1_3, c1_4, 0, 0, 0] 2 := mul_end _ _ _ _ _ _ (by decide) (by decide) rfl rfl p13 q13
  have E1 := chain_mul z0_1 z0_2 z0_3 c0_4 (x1 * y0) (x1 * y1) (x1 * y2) (x1 * y3) z1_0 z1_1 z1_2 z1_3 c1_1 c1_2 c1_3 c1_4 e10 e11 e12 e13
  have b2 : overfallref01_Mul.l0 (k + 13 + 6) [x0, x1, x2, x3, x4, x5, x6, x7] [y0, y1, y2, y3, y4, y5, y6, y7] [z0_0, z1_0, z1_1, z1_2, z1_3, c1_4, 0, 0, 0] 2 = overfallref01_Mul.l1 (k + 12 + 6) [x0, x1, x2, x3, x4, x5, x6, x7] [y0, y1, y2, y3, y4, y5, y6, y7] [z0_0, z1_0, z1_1, z1_2, z1_3, c1_4, 0, 0, 0] 2 0 0 := mul_begin _ _ _ _ _ (by decide)
  obtain ⟨z2_0, c2_1, e20, u20, v20, p20, q20, hz20, hc20⟩ := mul_dig z1_1 (x2 * y0) 0 u11 v11 (prod_bd x2 y0 hx20 hx21 hy00 hy01).1 (prod_bd x2 y0 hx20 hx21 hy00 hy01).2 (Int.le_refl 0) (by decide)
  have s20 : overfallref01_Mul.l1 (k + 12 + 6) [x0, x1, x2, x3, x4, x5, x6, x7] [y0, y1, y2, y3, y4, y5, y6, y7] [z0_0, z1_0, z1_1, z1_2, z1_3, c1_4, 0, 0, 0] 2 0 0 = overfallref01_Mul.l1 (k + 11 + 6) [x0, x1, x2, x3, x4, x5, x6, x7] [y0, y1, y2, y3, y4, y5, y6, y7] [z0_0, z1_0, z2_0, z1_2, z1_3, c1_4, 0, 0, 0] 2 c2_1 1 := by
    have r1 : rd [x0, x1, x2, x3, x4, x5, x6, x7] 2 = x2 := rfl
    have r2 : rd [y0, y1, y2, y3, y4, y5, y6, y7] 0 = y0 := rfl
    have r3 : rd [z0_0, z1_0, z1_1, z1_2, z1_3, c1_4, 0, 0, 0] (2 + 0) = z1_1 := rfl
    have := mul_step (k + 11 + 6) [x0, x1, x2, x3, x4, x5, x6, x7] [y0, y1, y2, y3, y4, y5, y6, y7] [z0_0, z1_0, z1_1, z1_2, z1_3, c1_4, 0, 0, 0] 2 0 0 (by decide) (by decide) (by decide) (by decide) rfl rfl rfl (by rw [r1]; exact hx20) (by rw [r1]; exact hx21) (by rw [r2]; exact hy00) (by rw [r2]; exact hy01) (by rw [r3]; exact u11) (by rw [r3]; exact v11) (Int.le_refl 0) (by decide)
    rw [r1, r2, r3, hz20, hc20] at this
    exact this
  obtain ⟨z2_1, c2_2, e21, u21, v21, p21, q21, hz21, hc21⟩ := mul_dig z1_2 (x2 * y1) c2_1 u12 v12 (prod_bd x2 y1 hx20 hx21 hy10 hy11).1 (prod_bd x2 y1 hx20 hx21 hy10 hy11).2 p20 q20
  have s21 : overfallref01_Mul.l1 (k + 11 + 6) [x0, x1, x2, x3, x4, x5, x6, x7] [y0, y1, y2, y3, y4, y5, y6, y7] [z0_0, z1_0, z2_0, z1_2, z1_3, c1_4, 0, 0, 0] 2 c2_1 1 = overfallref01_Mul.l1 (k + 10 + 6) [x0, x1, x2, x3, x4, x5, x6, x7] [y0, y1, y2, y3, y4, y5, y6, y7] [z0_0, z1_0, z2_0, z2_1, z1_3, c1_4, 0, 0, 0] 2 c2_2 2 := by
    have r1 : rd [x0, x1, x2, x3, x4, x5, x6, x7] 2 = x2 := rfl
    have r2 : rd [y0, y1, y2, y3, y4, y5, y6, y7] 1 = y1 := rfl
    have r3 : rd [z0_0, z1_0, z2_0, z1_2, z1_3, c1_4, 0, 0, 0] (2 + 1) = z1_2 := rfl
    have := mul_step (k + 10 + 6) [x0, x1, x2, x3, x4, x5, x6, x7] [y0, y1, y2, y3, y4, y5, y6, y7] [z0_0, z1_0, z2_0, z1_2, z1_3, c1_4, 0, 0, 0] 2 c2_1 1 (by decide) (by decide) (by decide) (by decide) rfl rfl rfl (by rw [r1]; exact hx20) (by rw [r1]; exact hx21) (by rw [r2]; exact hy10) (by rw [r2]; exact hy11) (by rw [r3]; exact u12) (by rw [r3]; exact v12) p20 q20
    rw [r1, r2, r3, hz21, hc21] at this
    exact this
  obtain ⟨z2_2, c2_3, e22, u22, v22, p22, q22, hz22, hc22⟩ := mul_dig z1_3 (x2 * y2) c2_2 u13 v13 (prod_bd x2 y2 hx20 hx21 hy20 hy21).1 (prod_bd x2 y2 hx20 hx21 hy20 hy21).2 p21 q21
  have s22 : overfallref01_Mul.l1 (k + 10 + 6) [x0, x1, x2, x3, x4, x5, x6, x7] [y0, y1, y2, y3, y4, y5, y6, y7] [z0_0, z1_0, z2_0, z2_1, z1_3, c1_4, 0, 0, 0] 2 c2_2 2 = overfallref01_Mul.l1 (k + 9 + 6) [x0, x1, x2, x3, x4, x5, x6, x7] [y0, y1, y2, y3, y4, y5, y6, y7] [z0_0, z1_0, z2_0, z2_1, z2_2, c1_4, 0, 0, 0] 2 c2_3 3 := by
    have r1 : rd [x0, x1, x2, x3, x4, x5, x6, x7] 2 = x2 := rfl
    have r2 : rd [y0, y1, y2, y3, y4, y5, y6, y7] 2 = y2 := rfl
    have r3 : rd [z0_0, z1_0, z2_0, z2_1, z1_3, c1_4, 0, 0, 0] (2 + 2) = z1_3 := rfl
    have := mul_step (k + 9 + 6) [x0, x1, x2, x3, x4, x5, x6, x7] [y0, y1, y2, y3, y4, y5, y6, y7] [z0_0, z1_0, z2_0, z2_1, z1_3, c1_4, 0, 0, 0] 2 c2_2 2 (by decide) (by decide) (by decide) (by decide) rfl rfl rfl (by rw [r1]; exact hx20) (by rw [r1]; exact hx21) (by rw [r2]; exact hy20) (by rw [r2]; exact hy21) (by rw [r3]; exact u13) (by rw [r3]; exact v13) p21 q21
    rw [r1, r2, r3, hz22, hc22] at this
    exact this
  obtain ⟨z2_3, c2_4, e23, u23, v23, p23, q23, hz23, hc23⟩ := mul_dig c1_4 (x2 * y3) c2_3 p13 q13 (prod_bd x2 y3 hx20 hx21 hy30 hy31).1 (prod_bd x2 y3 hx20 hx21 hy30 hy31).2 p22 q22
  have s23 : overfallref01_Mul.l1 (k + 9 + 6) [x0, x1, x2, x3, x4, x5, x6, x7] [y0, y1, y2, y3, y4, y5, y6, y7] [z0_0, z1_0, z2_0, z2_1, z2_2, c1_4, 0, 0, 0] 2 c2_3 3 = overfallref01_Mul.l1 (k + 8 + 6) [x0, x1, x2, x3, x4, x5, x6, x7] [y0, y1, y2, y3, y4, y5, y6, y7] [z0_0, z1_0, z2_0, z2_1, z2_2, z2_3, 0, 0, 0] 2 c2_4 4 := by
    have r1 : rd [x0, x1, x2, x3, x4, x5, x6, x7] 2 = x2 := rfl
    have r2 : rd [y0, y1, y2, y3, y4, y5, y6, y7] 3 = y3 := rfl
    have r3 : rd [z0_0, z1_0, z2_0, z2_1, z2_2, c1_4, 0, 0, 0] (2 + 3) = c1_4 := rfl
    have := mul_step (k + 8 + 6) [x0, x1, x2, x3, x4, x5, x6, x7] [y0, y1, y2, y3, y4, y5, y6, y7] [z0_0, z1_0, z2_0, z2_1, z2_2, c1_4, 0, 0, 0] 2 c2_3 3 (by decide) (by decide) (by decide) (by decide) rfl rfl rfl (by rw [r1]; exact hx20) (by rw [r1]; exact hx21) (by rw [r2]; exact hy30) (by rw [r2]; exact hy31) (by rw [r3]; exact p13) (by rw [r3]; exact q13) p22 q22
    rw [r1, r2, r3, hz23, hc23] at this
    exact this
  have t2 : overfallref01_Mul.l1 (k + 8 + 6) [x0, x1, x2, x3, x4, x5, x6, x7] [y0, y1, y2, y3, y4, y5, y6, y7] [z0_0, z1_0, z2_0, z2_1, z2_2, z2_3, 0, 0, 0] 2 c2_4 4 = overfallref01_Mul.l0 (k + 7 + 6) [x0, x1, x2, x3, x4, x5, x6, x7] [y0, y1, y2, y3, y4, y5, y6, y7] [z0_0, z1_0, z2_0, z2_1, z2_2, z2_3, c2_4, 0, 0] 3 := mul_end _ _ _ _ _ _ (by decide) (by decide) rfl rfl p23 q23
  have E2 := chain_mul z1_1 z1_2 z1_3 c1_4 (x2 * y0) (x2 * y1) (x2 * y2) (x2 * y3) z2_0 z2_1 z2_2 z2_3 c2_1 c2_2 c2_3 c2_4 e20 e21 e22 e23
  have b3 : overfallref01_Mul.l0 (k + 7 + 6) [x0, x1, x2, x3, x4, x5, x6, x7] [y0, y1, y2, y3, y4, y5, y6, y7] [z0_0, z1_0, z2_0, z2_1, z2_2, z2_3, c2_4, 0, 0] 3 = overfallref01_Mul.l1 (k + 6 + 6) [x0, x1, x2, x3, x4, x5, x6, x7] [y0, y1, y2, y3, y4, y5, y6, y7] [z0_0, z1_0, z2_0, z2_1, z2_2, z2_3, c2_4, 0, 0] 3 0 0 := mul_begin _ _ _ _ _ (by decide)
  obtain ⟨z3_0, c3_1, e30, u30, v30, p30, q30, hz30, hc30⟩ := mul_dig z2_1 (x3 * y0) 0 u21 v21 (prod_bd x3 y0 hx30 hx31 hy00 hy01).1 (prod_bd x3 y0 hx30 hx31 hy00 hy01).2 (Int.le_refl 0) (by decide)
  have s30 : overfallref01_Mul.l1 (k + 6 + 6) [x0, x1, x2, x3, x4, x5, x6, x7] [y0, y1, y2, y3, y4, y5, y6, y7] [z0_0, z1_0, z2_0, z2_1, z2_2, z2_3, c2_4, 0, 0] 3 0 0 = overfallref01_Mul.l1 (k + 5 + 6) [x0, x1, x2, x3, x4, x5, x6, x7] [y0, y1, y2, y3, y4, y5, y6, y7] [z0_0, z1_0, z2_0, z3_0, z2_2, z2_3, c2_4, 0, 0] 3 c3_1 1 := by
    have r1 : rd [x0, x1, x2, x3, x4, x5, x6, x7] 3 = x3 := rfl
    have r2 : rd [y0, y1, y2, y3, y4, y5, y6, y7] 0 = y0 := rfl
    have r3 : rd [z0_0, z1_0, z2_0, z2_1, z2_2, z2_3, c2_4, 0, 0] (3 + 0) = z2_1 := rfl
    have := mul_step (k + 5 + 6) [x0, x1, x2, x3, x4, x5, x6, x7] [y0, y1, y2, y3, y4, y5, y6, y7] [z0_0, z1_0, z2_0, z2_1, z2_2, z2_3, c2_4, 0, 0] 3 0 0 (by decide) (by decide) (by decide) (by decide) rfl rfl rfl (by rw [r1]; exact hx30) (by rw [r1]; exact hx31) (by rw [r2]; exact hy00) (by rw [r2]; exact hy01) (by rw [r3]; exact u21) (by rw [r3]; exact v21) (Int.le_refl 0) (by decide)
    rw [r1, r2, r3, hz30, hc30] at this
    exact this
  obtain ⟨z3_1, c3_2, e31, u31, v31, p31, q31, hz31, hc31⟩ := mul_dig z2_2 (x3 * y1) c3_1 u22 v22 (prod_bd x3 y1 hx30 hx31 hy10 hy11).1 (prod_bd x3 y1 hx30 hx31 hy10 hy11).2 p30 q30
  have s31 : overfallref01_Mul.l1 (k + 5 + 6) [x0, x1, x2, x3, x4, x5, x6, x7] [y0, y1, y2, y3, y4, y5, y6, y7] [z0_0, z1_0, z2_0, z3_0, z2_2, z2_3, c2_4, 0, 0] 3 c3_1 1 = overfallref01_Mul.l1 (k + 4 + 6) [x0, x1, x2, x3, x4, x5, x6, x7] [y0, y1, y2, y3, y4, y5, y6, y7] [z0_0, z1_0, z2_0, z3_0, z3_1, z2_3, c2_4, 0, 0] 3 c3_2 2 := by
    have r1 : rd [x0, x1, x2, x3, x4, x5, x6, x7] 3 = x3 := rfl
    have r2 : rd [y0, y1, y2, y3, y4, y5, y6, y7] 1 = y1 := rfl
    have r3 : rd [z0_0, z1_0, z2_0, z3_0, z2_2, z2_3, c2_4, 0, 0] (3 + 1) = z2_2 := rfl
    have := mul_step (k + 4 + 6) [x0, x1, x2, x3, x4, x5, x6, x7] [y0, y1, y2, y3, y4, y5, y6, y7] [z0_0, z1_0, z2_0, z3_0, z2_2, z2_3, c2_4, 0, 0] 3 c3_1 1 (by decide) (by decide) (by decide) (by decide) rfl rfl rfl (by rw [r1]; exact hx30) (by rw [r1]; exact hx31) (by rw [r2]; exact hy10) (by rw [r2]; exact hy11) (by rw [r3]; exact u22) (by rw [r3]; exact v22) p30 q30
    rw [r1, r2, r3, hz31, hc31] at this
    exact this
  obtain ⟨z3_2, c3_3, e32, u32, v32, p32, q32, hz32, hc32⟩ := mul_dig z2_3 (x3 * y2) c3_2 u23 v23 (prod_bd x3 y2 hx30 hx31 hy20 hy21).1 (prod_bd x3 y2 hx30 hx31 hy20 hy21).2 p31 q31
  have s32 : overfallref01_Mul.l1 (k + 4 + 6) [x0, x1, x2, x3, x4, x5, x6, x7] [y0, y1, y2, y3, y4, y5, y6, y7] [z0_0, z1_0, z2_0, z3_0, z3_1, z2_3, c2_4, 0, 0] 3 c3_2 2 = overfallref01_Mul.l1 (k + 3 + 6) [x0, x1, x2, x3, x4, x5, x6, x7] [y0, y1, y2, y3, y4, y5, y6, y7] [z0_0, z1_0, z2_0, z3_0, z3_1, z3_2, c2_4, 0, 0] 3 c3_3 3 := by
    have r1 : rd [x0, x1, x2, x3, x4, x5, x6, x7] 3 = x3 := rfl
    have r2 : rd [y0, y1, y2, y3, y4, y5, y6, y7] 2 = y2 := rfl
    have r3 : rd [z0_0, z1_0, z2_0, z3_0, z3_1, z2_3, c2_4, 0, 0] (3 + 2) = z2_3 := rfl
    have := mul_step (k + 3 + 6) [x0, x1, x2, x3, x4, x5, x6, x7] [y0, y1, y2, y3, y4, y5, y6, y7] [z0_0, z1_0, z2_0, z3_0, z3_1, z2_3, c2_4, 0, 0] 3 c3_2 2 (by decide) (by decide) (by decide) (by decide) rfl rfl rfl (by rw [r1]; exact hx30) (by rw [r1]; exact hx31) (by rw [r2]; exact hy20) (by rw [r2]; exact hy21) (by rw [r3]; exact u23) (by rw [r3]; exact v23) p31 q31
    rw [r1, r2, r3, hz32, hc32] at this
    exact this
  obtain ⟨z3_3, c3_4, e33, u33, v33, p33, q33, hz33, hc33⟩ := mul_dig c2_4 (x3 * y3) c3_3 p23 q23 (prod_bd x3 y3 hx30 hx31 hy30 hy31).1 (prod_bd x3 y3 hx30 hx31 hy30 hy31).2 p32 q32
  have s33 : overfallref01_Mul.l1 (k + 3 + 6) [x0, x1, x2, x3, x4, x5, x6, x7] [y0, y1, y2, y3, y4, y5, y6, y7] [z0_0, z1_0, z2_0, z3_0, z3_1, z3_2, c2_4, 0, 0] 3 c3_3 3 = overfallref01_Mul.l1 (k + 2 + 6) [x0, x1, x2, x3, x4, x5, x6, x7] [y0, y1, y2, y3, y4, y5, y6, y7] [z0_0, z1_0, z2_0, z3_0, z3_1, z3_2, z3_3, 0, 0] 3 c3_4 4 := by
    have r1 : rd [x0, x1, x2, x3, x4, x5, x6, x7] 3 = x3 := rfl
    have r2 : rd [y0, y1, y2, y3, y4, y5, y6, y7] 3 = y3 := rfl
    have r3 : rd [z0_0, z1_0, z2_0, z3_0, z3_1, z3_2, c2_4, 0, 0] (3 + 3) = c2_4 := rfl
    have := mul_step (k + 2 + 6) [x0, x1, x2, x3, x4, x5, x6, x7] [y0, y1, y2, y3, y4, y5, y6, y7] [z0_0, z1_0, z2_0, z3_0, z3_1, z3_2, c2_4, 0, 0] 3 c3_3 3 (by decide) (by decide) (by decide) (by decide) rfl rfl rfl (by rw [r1]; exact hx30) (by rw [r1]; exact hx31) (by rw [r2]; exact hy30) (by rw [r2]; exact hy31) (by rw [r3]; exact p23) (by rw [r3]; exact q23) p32 q32
    rw [r1, r2, r3, hz33, hc33] at this
    exact this
  have t3 : overfallref01_Mul.l1 (k + 2 + 6) [x0, x1, x2, x3, x4, x5, x6, x7] [y0, y1, y2, y3, y4, y5, y6, y7] [z0_0, z1_0, z2_0, z3_0, z3_1, z3_2, z3_3, 0, 0] 3 c3_4 4 = overfallref01_Mul.l0 (k + 1 + 6) [x0, x1, x2, x3, x4, x5, x6, x7] [y0, y1, y2, y3, y4, y5, y6, y7] [z0_0, z1_0, z2_0, z3_0, z3_1, z3_2, z3_3, c3_4, 0] 4 := mul_end _ _ _ _ _ _ (by decide) (by decide) rfl rfl p33 q33
  have E3 := chain_mul z2_1 z2_2 z2_3 c2_4 (x3 * y0) (x3 * y1) (x3 * y2) (x3 * y3) z3_0 z3_1 z3_2 z3_3 c3_1 c3_2 c3_3 c3_4 e30 e31 e32 e33
  refine ⟨z0_0 + 65536 * z1_0 + 4294967296 * z2_0 + 281474976710656 * z3_0, z3_1 + 65536 * z3_2 + 4294967296 * z3_3 + 281474976710656 * c3_4, ?_, ?_⟩
  · rw [b0, s00, s01, s02, s03, t0, b1, s10, s11, s12, s13, t1, b2, s20, s21, s22, s23, t2, b3, s30, s31, s32, s33, t3, overfallref01_Mul.l0, if_neg (by decide), if_pos (by simp)]
    have tk : List.take 8 [z0_0, z1_0, z2_0, z3_0, z3_1, z3_2, z3_3, c3_4, 0] = [z0_0, z1_0, z2_0, z3_0, z3_1, z3_2, z3_3, c3_4] := rfl
    rw [tk, valuef k z0_0 z1_0 z2_0 z3_0 z3_1 z3_2 z3_3 c3_4 u00 v00 u10 v10 u20 v20 u30 v30 u31 v31 u32 v32 u33 v33 p33 q33]
    rfl
  · have B1 := lin_bd z0_0 z1_0 z2_0 z3_0 u00 v00 u10 v10 u20 v20 u30 v30
    have B2 := lin_bd z3_1 z3_2 z3_3 c3_4 u31 v31 u32 v32 u33 v33 p33 q33
    refine ⟨B1.1, B1.2, B2.1, B2.2, ?_⟩
    clear e00 e01 e02 e03
    clear e10 e11 e12 e13
    clear e20 e21 e22 e23
    clear e30 e31 e32 e33
    have EX : (x0 + 65536 * x1 + 4294967296 * x2 + 281474976710656 * x3) * (y0 + 65536 * y1 + 4294967296 * y2 + 281474976710656 * y3) = 1 * (x0 * y0) + 65536 * (x0 * y1) + 4294967296 * (x0 * y2) + 281474976710656 * (x0 * y3) + 65536 * (x1 * y0) + 4294967296 * (x1 * y1) + 281474976710656 * (x1 * y2) + 18446744073709551616 * (x1 * y3) + 4294967296 * (x2 * y0) + 281474976710656 * (x2 * y1) + 18446744073709551616 * (x2 * y2) + 1208925819614629174706176 * (x2 * y3) + 281474976710656 * (x3 * y0) + 18446744073709551616 * (x3 * y1) + 1208925819614629174706176 * (x3 * y2) + 79228162514264337593543950336 * (x3 * y3) := by grind
    rw [EX]
    clear B1 B2 EX b0 s00 s01 s02 s03 t0 b1 s10 s11 s12 s13 t1 b2 s20 s21 s22 s23 t2 b3 s30 s31 s32 s33 t3 u00 v00 p00 q00 hz00 hc00 u01 v01 p01 q01 hz01 hc01 u02 v02 p02 q02 hz02 hc02 u03 v03 p03 q03 hz03 hc03 u10 v10 p10 q10 hz10 hc10 u11 v11 p11 q11 hz11 hc11 u12 v12 p12 q12 hz12 hc12 u13 v13 p13 q13 hz13 hc13 u20 v20 p20 q20 hz20 hc20 u21 v21 p21 q21 hz21 hc21 u22 v22 p22 q22 hz22 hc22 u23 v23 p23 q23 hz23 hc23 u30 v30 p30 q30 hz30 hc30 u31 v31 p31 q31 hz31 hc31 u32 v32 p32 q32 hz32 hc32 u33 v33 p33 q33 hz33 hc33 hx00 hx01 hx10 hx11 hx20 hx21 hx30 hx31 hx40 hx41 hx50 hx51 hx60 hx61 hx70 hx71 hy00 hy01 hy10 hy11 hy20 hy21 hy30 hy31 hy40 hy41 hy50 hy51 hy60 hy61 hy70 hy71
    generalize x0 * y0 = m00 at *
    generalize x0 * y1 = m01 at *
    generalize x0 * y2 = m02 at *
    generalize x0 * y3 = m03 at *
    generalize x1 * y0 = m10 at *
    generalize x1 * y1 = m11 at *
    generalize x1 * y2 = m12 at *
    generalize x1 * y3 = m13 at *
    generalize x2 * y0 = m20 at *
    generalize x2 * y1 = m21 at *
    generalize x2 * y2 = m22 at *
    generalize x2 * y3 = m23 at *
    generalize x3 * y0 = m30 at *
    generalize x3 * y1 = m31 at *
    generalize x3 * y2 = m32 at *
    generalize x3 * y3 = m33 at *
    omega
theorem rmulf (k : Nat) (a b : Int) (a0 : 0 ≤ a) (a1 : a < 18446744073709551616) (b0 : 0 ≤ b) (b1 : b < 18446744073709551616) : overfallref01_Mul.f (k + 40) a b = some (a * b / 18446744073709551616, a * b % 18446744073709551616) := by
  obtain ⟨x0, x1, x2, x3, x4, x5, x6, x7, ex, exl, exh, hx00, hx01, hx10, hx11, hx20, hx21, hx30, hx31, hx40, hx41, hx50, hx51, hx60, hx61, hx70, hx71⟩ := digs_split 0 a (by decide) (by decide) a0 a1
  obtain ⟨y0, y1, y2, y3, y4, y5, y6, y7, ey, eyl, eyh, hy00, hy01, hy10, hy11, hy20, hy21, hy30, hy31, hy40, hy41, hy50, hy51, hy60, hy61, hy70, hy71⟩ := digs_split 0 b (by decide) (by decide) b0 b1
  rw [overfallref01_Mul.f, digitsf (k + 30) 0 a (by decide) (by decide) a0 a1, digitsf (k + 30) 0 b (by decide) (by decide) b0 b1, ex, ey]
  simp only [Option.bind_some]
  rw [if_pos (by decide)]
  obtain ⟨zl, zh, e, l0, l1, h0, h1, hp⟩ := mul_all (k + 9) x0 x1 x2 x3 x4 x5 x6 x7 y0 y1 y2 y3 y4 y5 y6 y7 hx00 hx01 hx10 hx11 hx20 hx21 hx30 hx31 hx40 hx41 hx50 hx51 hx60 hx61 hx70 hx71 hy00 hy01 hy10 hy11 hy20 hy21 hy30 hy31 hy40 hy41 hy50 hy51 hy60 hy61 hy70 hy71
  rw [← exl, ← eyl] at hp
  rw [← hp]
  refine e.trans ?_
  rw [show (zl + 18446744073709551616 * zh) / 18446744073709551616 = zh by omega, show (zl + 18446744073709551616 * zh) % 18446744073709551616 = zl by omega]

end Go.Proofs.Ytiiffgmbkajkhaa.Lib
