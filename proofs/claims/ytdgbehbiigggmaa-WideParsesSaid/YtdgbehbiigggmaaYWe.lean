import Derived.Test.YtdgbehbiigggmaaYWd
import Derived.Test.YtdgbehbiigggmaaYx7
namespace Go.Proofs.Ytdgbehbiigggmaa.Lib
open Go.RowKit Go.Proofs.Ytdgbehbiigggmaa.Y Go.Proofs.YtdgbehbiigggmaaW.PrintWords Go.Proofs.YtdgbehbiigggmaaW.PrintLast Go.Proofs.YtdgbehbiigggmaaW.PrintMore
set_option linter.unusedVariables false
set_option linter.unusedSimpArgs false

theorem digs_split (hi lo : Int) (h0 : 0 ≤ hi) (h1 : hi < 18446744073709551616) (l0 : 0 ≤ lo) (l1 : lo < 18446744073709551616) : ∃ x0 x1 x2 x3 x4 x5 x6 x7 : Int, digs hi lo = [x0, x1, x2, x3, x4, x5, x6, x7] ∧ lo = x0 + 65536 * x1 + 4294967296 * x2 + 281474976710656 * x3 ∧ hi = x4 + 65536 * x5 + 4294967296 * x6 + 281474976710656 * x7 ∧ 0 ≤ x0 ∧ x0 < 65536 ∧ 0 ≤ x1 ∧ x1 < 65536 ∧ 0 ≤ x2 ∧ x2 < 65536 ∧ 0 ≤ x3 ∧ x3 < 65536 ∧ 0 ≤ x4 ∧ x4 < 65536 ∧ 0 ≤ x5 ∧ x5 < 65536 ∧ 0 ≤ x6 ∧ x6 < 65536 ∧ 0 ≤ x7 ∧ x7 < 65536 :=
  ⟨_, _, _, _, _, _, _, _, rfl, by omega, by omega, by omega, by omega, by omega, by omega, by omega, by omega, by omega, by omega, by omega, by omega, by omega, by omega, by omega, by omega, by omega, by omega⟩
theorem rd0 (a : Int) (l : List Int) : rd (a :: l) 0 = a := rfl
theorem rdS (a : Int) (l : List Int) (i : Int) (h : 0 < i) : rd (a :: l) i = rd l (i - 1) := by
  obtain ⟨n, rfl⟩ := Int.eq_ofNat_of_zero_le (Int.le_of_lt h)
  obtain ⟨m, rfl⟩ : ∃ m, n = m + 1 := ⟨n - 1, by omega⟩
  unfold rd
  have : ((m + 1 : Nat) : Int) - 1 = (m : Int) := by omega
  rw [this]
  simp

theorem valuef (k : Nat) (x0 x1 x2 x3 x4 x5 x6 x7 : Int) (hx00 : 0 ≤ x0) (hx01 : x0 < 65536) (hx10 : 0 ≤ x1) (hx11 : x1 < 65536) (hx20 : 0 ≤ x2) (hx21 : x2 < 65536) (hx30 : 0 ≤ x3) (hx31 : x3 < 65536) (hx40 : 0 ≤ x4) (hx41 : x4 < 65536) (hx50 : 0 ≤ x5) (hx51 : x5 < 65536) (hx60 : 0 ≤ x6) (hx61 : x6 < 65536) (hx70 : 0 ≤ x7) (hx71 : x7 < 65536) : overfallref01_Value.f (k + 6) [x0, x1, x2, x3, x4, x5, x6, x7] = some (x4 + 65536 * x5 + 4294967296 * x6 + 281474976710656 * x7, x0 + 65536 * x1 + 4294967296 * x2 + 281474976710656 * x3) := by
  rw [overfallref01_Value.f]
  have w : ∀ x : Int, -1000 ≤ x → x < 1000 → wrap64 x = x := fun x a b => w64 (by omega) (by omega)
  simp only [overfallref01_Value.l0]
  simp [w, rd]
  constructor <;> (simp only [wu]; omega)
theorem add_dig (x y c : Int) (a0 : 0 ≤ x) (a1 : x < 65536) (b0 : 0 ≤ y) (b1 : y < 65536) (c0 : 0 ≤ c) (c1 : c ≤ 1) : ∃ z c' : Int, x + y + c = z + 65536 * c' ∧ 0 ≤ z ∧ z < 65536 ∧ 0 ≤ c' ∧ c' ≤ 1 ∧ (x + y + c) % 65536 = z ∧ (x + y + c) / 65536 = c' := ⟨_, _, by omega, by omega, by omega, by omega, by omega, rfl, rfl⟩
theorem sub_dig (x y c : Int) (a0 : 0 ≤ x) (a1 : x < 65536) (b0 : 0 ≤ y) (b1 : y < 65536) (c0 : 0 ≤ c) (c1 : c ≤ 1) : ∃ z c' : Int, x - y - c = z - 65536 * c' ∧ 0 ≤ z ∧ z < 65536 ∧ 0 ≤ c' ∧ c' ≤ 1 ∧ (x - y - c) % 65536 = z ∧ (if x - y - c < 0 then 1 else 0) = c' := ⟨(x - y - c) % 65536, (if x - y - c < 0 then 1 else 0), by split <;> omega, by omega, by omega, by split <;> omega, by split <;> omega, rfl, rfl⟩
theorem chain_add (x0 x1 x2 x3 y0 y1 y2 y3 z0 z1 z2 z3 c0 c1 c2 c3 c4 : Int) (e0 : x0 + y0 + c0 = z0 + 65536 * c1) (e1 : x1 + y1 + c1 = z1 + 65536 * c2) (e2 : x2 + y2 + c2 = z2 + 65536 * c3) (e3 : x3 + y3 + c3 = z3 + 65536 * c4) : x0 + 65536 * x1 + 4294967296 * x2 + 281474976710656 * x3 + (y0 + 65536 * y1 + 4294967296 * y2 + 281474976710656 * y3) + c0 = z0 + 65536 * z1 + 4294967296 * z2 + 281474976710656 * z3 + 18446744073709551616 * c4 := by omega
theorem chain_sub (x0 x1 x2 x3 y0 y1 y2 y3 z0 z1 z2 z3 c0 c1 c2 c3 c4 : Int) (e0 : x0 - y0 - c0 = z0 - 65536 * c1) (e1 : x1 - y1 - c1 = z1 - 65536 * c2) (e2 : x2 - y2 - c2 = z2 - 65536 * c3) (e3 : x3 - y3 - c3 = z3 - 65536 * c4) : x0 + 65536 * x1 + 4294967296 * x2 + 281474976710656 * x3 - (y0 + 65536 * y1 + 4294967296 * y2 + 281474976710656 * y3) - c0 = z0 + 65536 * z1 + 4294967296 * z2 + 281474976710656 * z3 - 18446744073709551616 * c4 := by omega
theorem lin_bd (z0 z1 z2 z3 : Int) (hz00 : 0 ≤ z0) (hz01 : z0 < 65536) (hz10 : 0 ≤ z1) (hz11 : z1 < 65536) (hz20 : 0 ≤ z2) (hz21 : z2 < 65536) (hz30 : 0 ≤ z3) (hz31 : z3 < 65536) : 0 ≤ z0 + 65536 * z1 + 4294967296 * z2 + 281474976710656 * z3 ∧ z0 + 65536 * z1 + 4294967296 * z2 + 281474976710656 * z3 < 18446744073709551616 := by omega
theorem add_step (k : Nat) (xs ys : List Int) (c i : Int) (h0 : 0 ≤ i) (h1 : i < 8) (lx : xs.length = 8) (ly : ys.length = 8) (a0 : 0 ≤ rd xs i) (a1 : rd xs i < 65536) (b0 : 0 ≤ rd ys i) (b1 : rd ys i < 65536) (c0 : 0 ≤ c) (c1 : c ≤ 1) :
    overfallref01_Add.l0 (k + 1) xs ys c i = overfallref01_Add.l0 k (xs.set i.toNat ((rd xs i + rd ys i + c) % 65536)) ys ((rd xs i + rd ys i + c) / 65536) (i + 1) := by
  rw [overfallref01_Add.l0, if_pos h1, if_pos h0, if_pos (by omega), if_pos (by omega), w64 (x := rd xs i + rd ys i) (by omega) (by omega), w64 (x := rd xs i + rd ys i + c) (by omega) (by omega), tmod_nn (by omega), tdiv_nn (by omega), w64 (by omega) (by omega), w64 (by omega) (by omega)]
set_option maxHeartbeats 4000000 in
theorem add_all (k : Nat) (x0 x1 x2 x3 x4 x5 x6 x7 y0 y1 y2 y3 y4 y5 y6 y7 : Int) (hx00 : 0 ≤ x0) (hx01 : x0 < 65536) (hx10 : 0 ≤ x1) (hx11 : x1 < 65536) (hx20 : 0 ≤ x2) (hx21 : x2 < 65536) (hx30 : 0 ≤ x3) (hx31 : x3 < 65536) (hx40 : 0 ≤ x4) (hx41 : x4 < 65536) (hx50 : 0 ≤ x5) (hx51 : x5 < 65536) (hx60 : 0 ≤ x6) (hx61 : x6 < 65536) (hx70 : 0 ≤ x7) (hx71 : x7 < 65536) (hy00 : 0 ≤ y0) (hy01 : y0 < 65536) (hy10 : 0 ≤ y1) (hy11 : y1 < 65536) (hy20 : 0 ≤ y2) (hy21 : y2 < 65536) (hy30 : 0 ≤ y3) (hy31 : y3 < 65536) (hy40 : 0 ≤ y4) (hy41 : y4 < 65536) (hy50 : 0 ≤ y5) (hy51 : y5 < 65536) (hy60 : 0 ≤ y6) (hy61 : y6 < 65536) (hy70 : 0 ≤ y7) (hy71 : y7 < 65536) : ∃ z0 z1 z2 z3 z4 z5 z6 z7 c1 c2 c3 c4 c5 c6 c7 c8 : Int, overfallref01_Add.l0 (k + 9 + 6) [x0, x1, x2, x3, x4, x5, x6, x7] [y0, y1, y2, y3, y4, y5, y6, y7] 0 0 = (overfallref01_Value.f (k + 6) [z0, z1, z2, z3, z4, z5, z6, z7]).bind (fun b => some (b.1, b.2, decide (c8 > 0))) ∧
    x0 + y0 + 0 = z0 + 65536 * c1 ∧ 0 ≤ z0 ∧ z0 < 65536 ∧ 0 ≤ c1 ∧ c1 ≤ 1 ∧ x1 + y1 + c1 = z1 + 65536 * c2 ∧ 0 ≤ z1 ∧ z1 < 65536 ∧ 0 ≤ c2 ∧ c2 ≤ 1 ∧ x2 + y2 + c2 = z2 + 65536 * c3 ∧ 0 ≤ z2 ∧ z2 < 65536 ∧ 0 ≤ c3 ∧ c3 ≤ 1 ∧ x3 + y3 + c3 = z3 + 65536 * c4 ∧ 0 ≤ z3 ∧ z3 < 65536 ∧ 0 ≤ c4 ∧ c4 ≤ 1 ∧ x4 + y4 + c4 = z4 + 65536 * c5 ∧ 0 ≤ z4 ∧ z4 < 65536 ∧ 0 ≤ c5 ∧ c5 ≤ 1 ∧ x5 + y5 + c5 = z5 + 65536 * c6 ∧ 0 ≤ z5 ∧ z5 < 65536 ∧ 0 ≤ c6 ∧ c6 ≤ 1 ∧ x6 + y6 + c6 = z6 + 65536 * c7 ∧ 0 ≤ z6 ∧ z6 < 65536 ∧ 0 ≤ c7 ∧ c7 ≤ 1 ∧ x7 + y7 + c7 = z7 + 65536 * c8 ∧ 0 ≤ z7 ∧ z7 < 65536 ∧ 0 ≤ c8 ∧ c8 ≤ 1 := by
  obtain ⟨z0, c1, e0, u0, v0, p0, q0, hz0, hc0⟩ := add_dig x0 y0 0 hx00 hx01 hy00 hy01 (Int.le_refl 0) (by decide)
  obtain ⟨z1, c2, e1, u1, v1, p1, q1, hz1, hc1⟩ := add_dig x1 y1 c1 hx10 hx11 hy10 hy11 p0 q0
  obtain ⟨z2, c3, e2, u2, v2, p2, q2, hz2, hc2⟩ := add_dig x2 y2 c2 hx20 hx21 hy20 hy21 p1 q1
  obtain ⟨z3, c4, e3, u3, v3, p3, q3, hz3, hc3⟩ := add_dig x3 y3 c3 hx30 hx31 hy30 hy31 p2 q2
  obtain ⟨z4, c5, e4, u4, v4, p4, q4, hz4, hc4⟩ := add_dig x4 y4 c4 hx40 hx41 hy40 hy41 p3 q3
  obtain ⟨z5, c6, e5, u5, v5, p5, q5, hz5, hc5⟩ := add_dig x5 y5 c5 hx50 hx51 hy50 hy51 p4 q4
  obtain ⟨z6, c7, e6, u6, v6, p6, q6, hz6, hc6⟩ := add_dig x6 y6 c6 hx60 hx61 hy60 hy61 p5 q5
  obtain ⟨z7, c8, e7, u7, v7, p7, q7, hz7, hc7⟩ := add_dig x7 y7 c7 hx70 hx71 hy70 hy71 p6 q6
  refine ⟨z0, z1, z2, z3, z4, z5, z6, z7, c1, c2, c3, c4, c5, c6, c7, c8, ?_, e0, u0, v0, p0, q0, e1, u1, v1, p1, q1, e2, u2, v2, p2, q2, e3, u3, v3, p3, q3, e4, u4, v4, p4, q4, e5, u5, v5, p5, q5, e6, u6, v6, p6, q6, e7, u7, v7, p7, q7⟩
  have s0 : overfallref01_Add.l0 (k + 9 + 6) [x0, x1, x2, x3, x4, x5, x6, x7] [y0, y1, y2, y3, y4, y5, y6, y7] 0 0 = overfallref01_Add.l0 (k + 8 + 6) [z0, x1, x2, x3, x4, x5, x6, x7] [y0, y1, y2, y3, y4, y5, y6, y7] c1 1 := by
    have r1 : rd [x0, x1, x2, x3, x4, x5, x6, x7] 0 = x0 := rfl
    have r2 : rd [y0, y1, y2, y3, y4, y5, y6, y7] 0 = y0 := rfl
    have := add_step (k + 8 + 6) [x0, x1, x2, x3, x4, x5, x6, x7] [y0, y1, y2, y3, y4, y5, y6, y7] 0 0 (by decide) (by decide) rfl rfl (by rw [r1]; exact hx00) (by rw [r1]; exact hx01) (by rw [r2]; exact hy00) (by rw [r2]; exact hy01) (Int.le_refl 0) (by decide)
    rw [r1, r2, hz0, hc0] at this
    exact this
  have s1 : overfallref01_Add.l0 (k + 8 + 6) [z0, x1, x2, x3, x4, x5, x6, x7] [y0, y1, y2, y3, y4, y5, y6, y7] c1 1 = overfallref01_Add.l0 (k + 7 + 6) [z0, z1, x2, x3, x4, x5, x6, x7] [y0, y1, y2, y3, y4, y5, y6, y7] c2 2 := by
    have r1 : rd [z0, x1, x2, x3, x4, x5, x6, x7] 1 = x1 := rfl
    have r2 : rd [y0, y1, y2, y3, y4, y5, y6, y7] 1 = y1 := rfl
    have := add_step (k + 7 + 6) [z0, x1, x2, x3, x4, x5, x6, x7] [y0, y1, y2, y3, y4, y5, y6, y7] c1 1 (by decide) (by decide) rfl rfl (by rw [r1]; exact hx10) (by rw [r1]; exact hx11) (by rw [r2]; exact hy10) (by rw [r2]; exact hy11) p0 q0
    rw [r1, r2, hz1, hc1] at this
    exact this
  have s2 : overfallref01_Add.l0 (k + 7 + 6) [z0, z1, x2, x3, x4, x5, x6, x7] [y0, y1, y2, y3, y4, y5, y6, y7] c2 2 = overfallref01_Add.l0 (k + 6 + 6) [z0, z1, z2, x3, x4, x5, x6, x7] [y0, y1, y2, y3, y4, y5, y6, y7] c3 3 := by
    have r1 : rd [z0, z1, x2, x3, x4, x5, x6, x7] 2 = x2 := rfl
    have r2 : rd [y0, y1, y2, y3, y4, y5, y6, y7] 2 = y2 := rfl
    have := add_step (k + 6 + 6) [z0, z1, x2, x3, x4, x5, x6, x7] [y0, y1, y2, y3, y4, y5, y6, y7] c2 2 (by decide) (by decide) rfl rfl (by rw [r1]; exact hx20) (by rw [r1]; exact hx21) (by rw [r2]; exact hy20) (by rw [r2]; exact hy21) p1 q1
    rw [r1, r2, hz2, hc2] at this
    exact this
  have s3 : overfallref01_Add.l0 (k + 6 + 6) [z0, z1, z2, x3, x4, x5, x6, x7] [y0, y1, y2, y3, y4, y5, y6, y7] c3 3 = overfallref01_Add.l0 (k + 5 + 6) [z0, z1, z2, z3, x4, x5, x6, x7] [y0, y1, y2, y3, y4, y5, y6, y7] c4 4 := by
    have r1 : rd [z0, z1, z2, x3, x4, x5, x6, x7] 3 = x3 := rfl
    have r2 : rd [y0, y1, y2, y3, y4, y5, y6, y7] 3 = y3 := rfl
    have := add_step (k + 5 + 6) [z0, z1, z2, x3, x4, x5, x6, x7] [y0, y1, y2, y3, y4, y5, y6, y7] c3 3 (by decide) (by decide) rfl rfl (by rw [r1]; exact hx30) (by rw [r1]; exact hx31) (by rw [r2]; exact hy30) (by rw [r2]; exact hy31) p2 q2
    rw [r1, r2, hz3, hc3] at this
    exact this
  have s4 : overfallref01_Add.l0 (k + 5 + 6) [z0, z1, z2, z3, x4, x5, x6, x7] [y0, y1, y2, y3, y4, y5, y6, y7] c4 4 = overfallref01_Add.l0 (k + 4 + 6) [z0, z1, z2, z3, z4, x5, x6, x7] [y0, y1, y2, y3, y4, y5, y6, y7] c5 5 := by
    have r1 : rd [z0, z1, z2, z3, x4, x5, x6, x7] 4 = x4 := rfl
    have r2 : rd [y0, y1, y2, y3, y4, y5, y6, y7] 4 = y4 := rfl
    have := add_step (k + 4 + 6) [z0, z1, z2, z3, x4, x5, x6, x7] [y0, y1, y2, y3, y4, y5, y6, y7] c4 4 (by decide) (by decide) rfl rfl (by rw [r1]; exact hx40) (by rw [r1]; exact hx41) (by rw [r2]; exact hy40) (by rw [r2]; exact hy41) p3 q3
    rw [r1, r2, hz4, hc4] at this
    exact this
  have s5 : overfallref01_Add.l0 (k + 4 + 6) [z0, z1, z2, z3, z4, x5, x6, x7] [y0, y1, y2, y3, y4, y5, y6, y7] c5 5 = overfallref01_Add.l0 (k + 3 + 6) [z0, z1, z2, z3, z4, z5, x6, x7] [y0, y1, y2, y3, y4, y5, y6, y7] c6 6 := by
    have r1 : rd [z0, z1, z2, z3, z4, x5, x6, x7] 5 = x5 := rfl
    have r2 : rd [y0, y1, y2, y3, y4, y5, y6, y7] 5 = y5 := rfl
    have := add_step (k + 3 + 6) [z0, z1, z2, z3, z4, x5, x6, x7] [y0, y1, y2, y3, y4, y5, y6, y7] c5 5 (by decide) (by decide) rfl rfl (by rw [r1]; exact hx50) (by rw [r1]; exact hx51) (by rw [r2]; exact hy50) (by rw [r2]; exact hy51) p4 q4
    rw [r1, r2, hz5, hc5] at this
    exact this
  have s6 : overfallref01_Add.l0 (k + 3 + 6) [z0, z1, z2, z3, z4, z5, x6, x7] [y0, y1, y2, y3, y4, y5, y6, y7] c6 6 = overfallref01_Add.l0 (k + 2 + 6) [z0, z1, z2, z3, z4, z5, z6, x7] [y0, y1, y2, y3, y4, y5, y6, y7] c7 7 := by
    have r1 : rd [z0, z1, z2, z3, z4, z5, x6, x7] 6 = x6 := rfl
    have r2 : rd [y0, y1, y2, y3, y4, y5, y6, y7] 6 = y6 := rfl
    have := add_step (k + 2 + 6) [z0, z1, z2, z3, z4, z5, x6, x7] [y0, y1, y2, y3, y4, y5, y6, y7] c6 6 (by decide) (by decide) rfl rfl (by rw [r1]; exact hx60) (by rw [r1]; exact hx61) (by rw [r2]; exact hy60) (by rw [r2]; exact hy61) p5 q5
    rw [r1, r2, hz6, hc6] at this
    exact this
  have s7 : overfallref01_Add.l0 (k + 2 + 6) [z0, z1, z2, z3, z4, z5, z6, x7] [y0, y1, y2, y3, y4, y5, y6, y7] c7 7 = overfallref01_Add.l0 (k + 1 + 6) [z0, z1, z2, z3, z4, z5, z6, z7] [y0, y1, y2, y3, y4, y5, y6, y7] c8 8 := by
    have r1 : rd [z0, z1, z2, z3, z4, z5, z6, x7] 7 = x7 := rfl
    have r2 : rd [y0, y1, y2, y3, y4, y5, y6, y7] 7 = y7 := rfl
    have := add_step (k + 1 + 6) [z0, z1, z2, z3, z4, z5, z6, x7] [y0, y1, y2, y3, y4, y5, y6, y7] c7 7 (by decide) (by decide) rfl rfl (by rw [r1]; exact hx70) (by rw [r1]; exact hx71) (by rw [r2]; exact hy70) (by rw [r2]; exact hy71) p6 q6
    rw [r1, r2, hz7, hc7] at this
    exact this
  rw [s0, s1, s2, s3, s4, s5, s6, s7, overfallref01_Add.l0, if_neg (by decide)]
theorem raddf (k : Nat) (a b c d : Int) (a0 : 0 ≤ a) (a1 : a < 18446744073709551616) (b0 : 0 ≤ b) (b1 : b < 18446744073709551616) (c0 : 0 ≤ c) (c1 : c < 18446744073709551616) (d0 : 0 ≤ d) (d1 : d < 18446744073709551616) :
    overfallref01_Add.f (k + 20) a b c d = some ((a + c + (b + d) / 18446744073709551616) % 18446744073709551616, (b + d) % 18446744073709551616, decide (18446744073709551616 ≤ a + c + (b + d) / 18446744073709551616)) := by
  obtain ⟨x0, x1, x2, x3, x4, x5, x6, x7, ex, exl, exh, hx00, hx01, hx10, hx11, hx20, hx21, hx30, hx31, hx40, hx41, hx50, hx51, hx60, hx61, hx70, hx71⟩ := digs_split a b a0 a1 b0 b1
  obtain ⟨y0, y1, y2, y3, y4, y5, y6, y7, ey, eyl, eyh, hy00, hy01, hy10, hy11, hy20, hy21, hy30, hy31, hy40, hy41, hy50, hy51, hy60, hy61, hy70, hy71⟩ := digs_split c d c0 c1 d0 d1
  rw [overfallref01_Add.f, digitsf (k + 10) a b a0 a1 b0 b1, digitsf (k + 10) c d c0 c1 d0 d1, ex, ey]
  simp only [Option.bind_some]
  obtain ⟨z0, z1, z2, z3, z4, z5, z6, z7, k1, k2, k3, k4, k5, k6, k7, k8, es, e0, u0, v0, p0, q0, e1, u1, v1, p1, q1, e2, u2, v2, p2, q2, e3, u3, v3, p3, q3, e4, u4, v4, p4, q4, e5, u5, v5, p5, q5, e6, u6, v6, p6, q6, e7, u7, v7, p7, q7⟩ := add_all (k + 5) x0 x1 x2 x3 x4 x5 x6 x7 y0 y1 y2 y3 y4 y5 y6 y7 hx00 hx01 hx10 hx11 hx20 hx21 hx30 hx31 hx40 hx41 hx50 hx51 hx60 hx61 hx70 hx71 hy00 hy01 hy10 hy11 hy20 hy21 hy30 hy31 hy40 hy41 hy50 hy51 hy60 hy61 hy70 hy71
  rw [es, valuef (k + 5) z0 z1 z2 z3 z4 z5 z6 z7 u0 v0 u1 v1 u2 v2 u3 v3 u4 v4 u5 v5 u6 v6 u7 v7]
  simp only [Option.bind_some]
  have E1 := chain_add x0 x1 x2 x3 y0 y1 y2 y3 z0 z1 z2 z3 0 k1 k2 k3 k4 e0 e1 e2 e3
  have E2 := chain_add x4 x5 x6 x7 y4 y5 y6 y7 z4 z5 z6 z7 k4 k5 k6 k7 k8 e4 e5 e6 e7
  have B1 := lin_bd z0 z1 z2 z3 u0 v0 u1 v1 u2 v2 u3 v3
  have B2 := lin_bd z4 z5 z6 z7 u4 v4 u5 v5 u6 v6 u7 v7
  rw [← exl, ← eyl] at E1
  rw [← exh, ← eyh] at E2
  clear ex exl exh ey eyl eyh es e0 e1 e2 e3 e4 e5 e6 e7 u0 u1 u2 u3 u4 u5 u6 u7 v0 v1 v2 v3 v4 v5 v6 v7 hx00 hx01 hx10 hx11 hx20 hx21 hx30 hx31 hx40 hx41 hx50 hx51 hx60 hx61 hx70 hx71 hy00 hy01 hy10 hy11 hy20 hy21 hy30 hy31 hy40 hy41 hy50 hy51 hy60 hy61 hy70 hy71
  generalize z0 + 65536 * z1 + 4294967296 * z2 + 281474976710656 * z3 = ZL at *
  generalize z4 + 65536 * z5 + 4294967296 * z6 + 281474976710656 * z7 = ZH at *
  have q1 : (b + d) / 18446744073709551616 = k4 := by omega
  have q2 : (b + d) % 18446744073709551616 = ZL := by omega
  rw [q1, q2]
  have q3 : (a + c + k4) % 18446744073709551616 = ZH := by omega
  have q4 : (18446744073709551616 ≤ a + c + k4) = (k8 > 0) := by apply propext; omega
  rw [q3, decide_eq_decide.2 (iff_of_eq q4)]
theorem rtwicef (k : Nat) (a b : Int) (a0 : 0 ≤ a) (a1 : a < 18446744073709551616) (b0 : 0 ≤ b) (b1 : b < 18446744073709551616) : overfallref01_Twice.f (k + 20) a b = some ((2 * (a * 18446744073709551616 + b)) / 18446744073709551616 % 18446744073709551616, (2 * (a * 18446744073709551616 + b)) % 18446744073709551616) := by
  rw [overfallref01_Twice.f, raddf k a b a b a0 a1 b0 b1 a0 a1 b0 b1]
  simp only [Option.bind_some]
  rw [show (a + a + (b + b) / 18446744073709551616) % 18446744073709551616 = (2 * (a * 18446744073709551616 + b)) / 18446744073709551616 % 18446744073709551616 by omega, show (b + b) % 18446744073709551616 = (2 * (a * 18446744073709551616 + b)) % 18446744073709551616 by omega]
end Go.Proofs.Ytdgbehbiigggmaa.Lib
