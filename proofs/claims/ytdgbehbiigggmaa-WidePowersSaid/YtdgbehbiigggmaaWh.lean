/- Halving and doubling, the reference's shifts and the program's (plain Lean over the printed functions). -/
import Derived.Test.YtdgbehbiigggmaaWe
import Derived.Test.YtdgbehbiigggmaaGx11
namespace Go.Proofs.Ytdgbehbiigggmaa.Lib
open Go.RowKit Go.Proofs.Ytdgbehbiigggmaa.G Go.Proofs.YtdgbehbiigggmaaW.PrintWords Go.Proofs.YtdgbehbiigggmaaW.PrintLast Go.Proofs.YtdgbehbiigggmaaW.PrintMore
set_option linter.unusedVariables false
set_option linter.unusedSimpArgs false
theorem half_dig (x c : Int) (a0 : 0 ≤ x) (a1 : x < 65536) (c0 : 0 ≤ c) (c1 : c ≤ 1) : ∃ z c' : Int, x + 65536 * c = 2 * z + c' ∧ 0 ≤ z ∧ z < 65536 ∧ 0 ≤ c' ∧ c' ≤ 1 ∧ (x + 65536 * c) / 2 = z ∧ (x + 65536 * c) % 2 = c' := ⟨_, _, by omega, by omega, by omega, by omega, by omega, rfl, rfl⟩
theorem half_step (k : Nat) (xs : List Int) (c i : Int) (h0 : 0 ≤ i) (h1 : i < 8) (lx : xs.length = 8) (a0 : 0 ≤ rd xs i) (a1 : rd xs i < 65536) (c0 : 0 ≤ c) (c1 : c ≤ 1) :
    overfallref01_Half.l0 (k + 1) xs c i = overfallref01_Half.l0 k (xs.set i.toNat ((rd xs i + 65536 * c) / 2)) ((rd xs i + 65536 * c) % 2) (i - 1) := by
  rw [overfallref01_Half.l0, if_pos (show i ≥ 0 from h0), if_pos h0, if_pos (by omega), w64 (x := 65536 * c) (by omega) (by omega), w64 (x := rd xs i + 65536 * c) (by omega) (by omega), tdiv_nn (by omega), tmod_nn (by omega), w64 (by omega) (by omega), w64 (by omega) (by omega)]
theorem chain_half (x0 x1 x2 x3 z0 z1 z2 z3 c0 c1 c2 c3 c4 : Int) (e3 : x3 + 65536 * c4 = 2 * z3 + c3) (e2 : x2 + 65536 * c3 = 2 * z2 + c2) (e1 : x1 + 65536 * c2 = 2 * z1 + c1) (e0 : x0 + 65536 * c1 = 2 * z0 + c0) : x0 + 65536 * x1 + 4294967296 * x2 + 281474976710656 * x3 + 18446744073709551616 * c4 = 2 * (z0 + 65536 * z1 + 4294967296 * z2 + 281474976710656 * z3) + c0 := by omega
set_option maxHeartbeats 4000000 in
theorem half_all (k : Nat) (x0 x1 x2 x3 x4 x5 x6 x7 : Int) (hx00 : 0 ≤ x0) (hx01 : x0 < 65536) (hx10 : 0 ≤ x1) (hx11 : x1 < 65536) (hx20 : 0 ≤ x2) (hx21 : x2 < 65536) (hx30 : 0 ≤ x3) (hx31 : x3 < 65536) (hx40 : 0 ≤ x4) (hx41 : x4 < 65536) (hx50 : 0 ≤ x5) (hx51 : x5 < 65536) (hx60 : 0 ≤ x6) (hx61 : x6 < 65536) (hx70 : 0 ≤ x7) (hx71 : x7 < 65536) : ∃ zl zh c ch : Int, overfallref01_Half.l0 (k + 9 + 6) [x0, x1, x2, x3, x4, x5, x6, x7] 0 7 = some (zh, zl, c) ∧ 0 ≤ zl ∧ zl < 18446744073709551616 ∧ 0 ≤ zh ∧ zh < 18446744073709551616 ∧ 0 ≤ c ∧ c ≤ 1 ∧ x4 + 65536 * x5 + 4294967296 * x6 + 281474976710656 * x7 = 2 * zh + ch ∧ x0 + 65536 * x1 + 4294967296 * x2 + 281474976710656 * x3 + 18446744073709551616 * ch = 2 * zl + c := by
  obtain ⟨z7, c7, e7, u7, v7, p7, q7, hz7, hc7⟩ := half_dig x7 0 hx70 hx71 (Int.le_refl 0) (by decide)
  have s7 : overfallref01_Half.l0 (k + 9 + 6) [x0, x1, x2, x3, x4, x5, x6, x7] 0 7 = overfallref01_Half.l0 (k + 8 + 6) [x0, x1, x2, x3, x4, x5, x6, z7] c7 (7 - 1) := by
    have r1 : rd [x0, x1, x2, x3, x4, x5, x6, x7] 7 = x7 := rfl
    have := half_step (k + 8 + 6) [x0, x1, x2, x3, x4, x5, x6, x7] 0 7 (by decide) (by decide) rfl (by rw [r1]; exact hx70) (by rw [r1]; exact hx71) (Int.le_refl 0) (by decide)
    rw [r1, hz7, hc7] at this
    exact this
  obtain ⟨z6, c6, e6, u6, v6, p6, q6, hz6, hc6⟩ := half_dig x6 c7 hx60 hx61 p7 q7
  have s6 : overfallref01_Half.l0 (k + 8 + 6) [x0, x1, x2, x3, x4, x5, x6, z7] c7 6 = overfallref01_Half.l0 (k + 7 + 6) [x0, x1, x2, x3, x4, x5, z6, z7] c6 (6 - 1) := by
    have r1 : rd [x0, x1, x2, x3, x4, x5, x6, z7] 6 = x6 := rfl
    have := half_step (k + 7 + 6) [x0, x1, x2, x3, x4, x5, x6, z7] c7 6 (by decide) (by decide) rfl (by rw [r1]; exact hx60) (by rw [r1]; exact hx61) p7 q7
    rw [r1, hz6, hc6] at this
    exact this
  obtain ⟨z5, c5, e5, u5, v5, p5, q5, hz5, hc5⟩ := half_dig x5 c6 hx50 hx51 p6 q6
  have s5 : overfallref01_Half.l0 (k + 7 + 6) [x0, x1, x2, x3, x4, x5, z6, z7] c6 5 = overfallref01_Half.l0 (k + 6 + 6) [x0, x1, x2, x3, x4, z5, z6, z7] c5 (5 - 1) := by
    have r1 : rd [x0, x1, x2, x3, x4, x5, z6, z7] 5 = x5 := rfl
    have := half_step (k + 6 + 6) [x0, x1, x2, x3, x4, x5, z6, z7] c6 5 (by decide) (by decide) rfl (by rw [r1]; exact hx50) (by rw [r1]; exact hx51) p6 q6
    rw [r1, hz5, hc5] at this
    exact this
  obtain ⟨z4, c4, e4, u4, v4, p4, q4, hz4, hc4⟩ := half_dig x4 c5 hx40 hx41 p5 q5
  have s4 : overfallref01_Half.l0 (k + 6 + 6) [x0, x1, x2, x3, x4, z5, z6, z7] c5 4 = overfallref01_Half.l0 (k + 5 + 6) [x0, x1, x2, x3, z4, z5, z6, z7] c4 (4 - 1) := by
    have r1 : rd [x0, x1, x2, x3, x4, z5, z6, z7] 4 = x4 := rfl
    have := half_step (k + 5 + 6) [x0, x1, x2, x3, x4, z5, z6, z7] c5 4 (by decide) (by decide) rfl (by rw [r1]; exact hx40) (by rw [r1]; exact hx41) p5 q5
    rw [r1, hz4, hc4] at this
    exact this
  obtain ⟨z3, c3, e3, u3, v3, p3, q3, hz3, hc3⟩ := half_dig x3 c4 hx30 hx31 p4 q4
  have s3 : overfallref01_Half.l0 (k + 5 + 6) [x0, x1, x2, x3, z4, z5, z6, z7] c4 3 = overfallref01_Half.l0 (k + 4 + 6) [x0, x1, x2, z3, z4, z5, z6, z7] c3 (3 - 1) := by
    have r1 : rd [x0, x1, x2, x3, z4, z5, z6, z7] 3 = x3 := rfl
    have := half_step (k + 4 + 6) [x0, x1, x2, x3, z4, z5, z6, z7] c4 3 (by decide) (by decide) rfl (by rw [r1]; exact hx30) (by rw [r1]; exact hx31) p4 q4
    rw [r1, hz3, hc3] at this
    exact this
  obtain ⟨z2, c2, e2, u2, v2, p2, q2, hz2, hc2⟩ := half_dig x2 c3 hx20 hx21 p3 q3
  have s2 : overfallref01_Half.l0 (k + 4 + 6) [x0, x1, x2, z3, z4, z5, z6, z7] c3 2 = overfallref01_Half.l0 (k + 3 + 6) [x0, x1, z2, z3, z4, z5, z6, z7] c2 (2 - 1) := by
    have r1 : rd [x0, x1, x2, z3, z4, z5, z6, z7] 2 = x2 := rfl
    have := half_step (k + 3 + 6) [x0, x1, x2, z3, z4, z5, z6, z7] c3 2 (by decide) (by decide) rfl (by rw [r1]; exact hx20) (by rw [r1]; exact hx21) p3 q3
    rw [r1, hz2, hc2] at this
    exact this
  obtain ⟨z1, c1, e1, u1, v1, p1, q1, hz1, hc1⟩ := half_dig x1 c2 hx10 hx11 p2 q2
  have s1 : overfallref01_Half.l0 (k + 3 + 6) [x0, x1, z2, z3, z4, z5, z6, z7] c2 1 = overfallref01_Half.l0 (k + 2 + 6) [x0, z1, z2, z3, z4, z5, z6, z7] c1 (1 - 1) := by
    have r1 : rd [x0, x1, z2, z3, z4, z5, z6, z7] 1 = x1 := rfl
    have := half_step (k + 2 + 6) [x0, x1, z2, z3, z4, z5, z6, z7] c2 1 (by decide) (by decide) rfl (by rw [r1]; exact hx10) (by rw [r1]; exact hx11) p2 q2
    rw [r1, hz1, hc1] at this
    exact this
  obtain ⟨z0, c0, e0, u0, v0, p0, q0, hz0, hc0⟩ := half_dig x0 c1 hx00 hx01 p1 q1
  have s0 : overfallref01_Half.l0 (k + 2 + 6) [x0, z1, z2, z3, z4, z5, z6, z7] c1 0 = overfallref01_Half.l0 (k + 1 + 6) [z0, z1, z2, z3, z4, z5, z6, z7] c0 (0 - 1) := by
    have r1 : rd [x0, z1, z2, z3, z4, z5, z6, z7] 0 = x0 := rfl
    have := half_step (k + 1 + 6) [x0, z1, z2, z3, z4, z5, z6, z7] c1 0 (by decide) (by decide) rfl (by rw [r1]; exact hx00) (by rw [r1]; exact hx01) p1 q1
    rw [r1, hz0, hc0] at this
    exact this
  refine ⟨z0 + 65536 * z1 + 4294967296 * z2 + 281474976710656 * z3, z4 + 65536 * z5 + 4294967296 * z6 + 281474976710656 * z7, c0, c4, ?_, ?_⟩
  · rw [s7, show (7 : Int) - 1 = 6 by decide, s6, show (6 : Int) - 1 = 5 by decide, s5, show (5 : Int) - 1 = 4 by decide, s4, show (4 : Int) - 1 = 3 by decide, s3, show (3 : Int) - 1 = 2 by decide, s2, show (2 : Int) - 1 = 1 by decide, s1, show (1 : Int) - 1 = 0 by decide, s0, show (0 : Int) - 1 = -1 by decide, overfallref01_Half.l0, if_neg (by decide)]
    rw [valuef k z0 z1 z2 z3 z4 z5 z6 z7 u0 v0 u1 v1 u2 v2 u3 v3 u4 v4 u5 v5 u6 v6 u7 v7]
    rfl
  · have B1 := lin_bd z0 z1 z2 z3 u0 v0 u1 v1 u2 v2 u3 v3
    have B2 := lin_bd z4 z5 z6 z7 u4 v4 u5 v5 u6 v6 u7 v7
    have E1 := chain_half x0 x1 x2 x3 z0 z1 z2 z3 c0 c1 c2 c3 c4 e3 e2 e1 e0
    have E2 := chain_half x4 x5 x6 x7 z4 z5 z6 z7 c4 c5 c6 c7 0 e7 e6 e5 e4
    exact ⟨B1.1, B1.2, B2.1, B2.2, p0, q0, by simpa using E2, E1⟩
theorem rhalff (k : Nat) (a b : Int) (a0 : 0 ≤ a) (a1 : a < 18446744073709551616) (b0 : 0 ≤ b) (b1 : b < 18446744073709551616) : overfallref01_Half.f (k + 20) a b = some ((a * 18446744073709551616 + b) / 2 / 18446744073709551616, (a * 18446744073709551616 + b) / 2 % 18446744073709551616, (a * 18446744073709551616 + b) % 2) := by
  obtain ⟨x0, x1, x2, x3, x4, x5, x6, x7, ex, exl, exh, hx00, hx01, hx10, hx11, hx20, hx21, hx30, hx31, hx40, hx41, hx50, hx51, hx60, hx61, hx70, hx71⟩ := digs_split a b a0 a1 b0 b1
  rw [overfallref01_Half.f, digitsf (k + 10) a b a0 a1 b0 b1, ex]
  simp only [Option.bind_some]
  obtain ⟨zl, zh, c, ch, e, l0, l1, h0, h1, p, q, E1, E2⟩ := half_all (k + 5) x0 x1 x2 x3 x4 x5 x6 x7 hx00 hx01 hx10 hx11 hx20 hx21 hx30 hx31 hx40 hx41 hx50 hx51 hx60 hx61 hx70 hx71
  rw [← exl] at E2
  rw [← exh] at E1
  refine e.trans ?_
  clear e ex exl exh
  rw [show (a * 18446744073709551616 + b) / 2 / 18446744073709551616 = zh by omega, show (a * 18446744073709551616 + b) / 2 % 18446744073709551616 = zl by omega, show (a * 18446744073709551616 + b) % 2 = c by omega]

/-! pairs -/
def V (hi lo : Int) : Int := hi * 18446744073709551616 + lo
theorem V_bd {hi lo : Int} (h0 : 0 ≤ hi) (h1 : hi < 18446744073709551616) (l0 : 0 ≤ lo) (l1 : lo < 18446744073709551616) : 0 ≤ V hi lo ∧ V hi lo < 18446744073709551616 * 18446744073709551616 := by unfold V; omega
theorem V_of (v : Int) : V (v / 18446744073709551616) (v % 18446744073709551616) = v := by unfold V; omega
theorem V_inj {a b c d : Int} (b0 : 0 ≤ b) (b1 : b < 18446744073709551616) (d0 : 0 ≤ d) (d1 : d < 18446744073709551616) (h : V a b = V c d) : a = c ∧ b = d := by unfold V at h; omega
theorem pair_lt {v : Int} (h0 : 0 ≤ v) (h : v < 18446744073709551616 * 18446744073709551616) : 0 ≤ v / 18446744073709551616 ∧ v / 18446744073709551616 < 18446744073709551616 ∧ 0 ≤ v % 18446744073709551616 ∧ v % 18446744073709551616 < 18446744073709551616 := by omega

/-- The reference's doublings. -/
theorem rleft_loop (x1 : Int) (d : Nat) : ∀ (k : Nat) (i v : Int), 0 ≤ i → i ≤ 128 → (128 - i).toNat = d → 0 ≤ v → v < 18446744073709551616 * 18446744073709551616 →
    overfallref01_Left.l0 (k + d + 21) x1 i (v / 18446744073709551616) (v % 18446744073709551616) = some (v * 2 ^ (min x1 128 - i).toNat / 18446744073709551616 % 18446744073709551616, v * 2 ^ (min x1 128 - i).toNat % 18446744073709551616) := by
  induction d with
  | zero =>
    intro k i v i0 i1 hd v0 v1
    have : i = 128 := by omega
    subst this
    rw [overfallref01_Left.l0]
    have e : (min x1 128 - 128).toNat = 0 := by omega
    rw [e]
    by_cases c : 128 < x1
    · rw [if_pos c, if_neg (by omega)]; simp; omega
    · rw [if_neg c]; simp; omega
  | succ d ih =>
    intro k i v i0 i1 hd v0 v1
    rw [show k + (d + 1) + 21 = (k + d + 21) + 1 by omega, overfallref01_Left.l0]
    by_cases c : i < x1
    · rw [if_pos c, if_pos (by omega)]
      have p := pair_lt v0 v1
      rw [show k + d + 21 = (k + d + 1) + 20 by omega, rtwicef (k + d + 1) _ _ p.1 p.2.1 p.2.2.1 p.2.2.2]
      simp only [Option.bind_some]
      rw [show v / 18446744073709551616 * 18446744073709551616 + v % 18446744073709551616 = v by omega, w64 (by omega) (by omega)]
      have hr := ih k (i + 1) (2 * v % (18446744073709551616 * 18446744073709551616)) (by omega) (by omega) (by omega) (by omega) (by omega)
      rw [show 2 * v % (18446744073709551616 * 18446744073709551616) / 18446744073709551616 = 2 * v / 18446744073709551616 % 18446744073709551616 by omega, show 2 * v % (18446744073709551616 * 18446744073709551616) % 18446744073709551616 = 2 * v % 18446744073709551616 by omega] at hr
      refine hr.trans ?_
      have en : (min x1 128 - i).toNat = (min x1 128 - (i + 1)).toNat + 1 := by omega
      rw [en, Int.pow_succ]
      generalize (2 : Int) ^ (min x1 128 - (i + 1)).toNat = p2
      have e2 : v * (p2 * 2) = 2 * v * p2 := by grind
      rw [e2]
      have key : 2 * v % (18446744073709551616 * 18446744073709551616) * p2 % (18446744073709551616 * 18446744073709551616) = 2 * v * p2 % (18446744073709551616 * 18446744073709551616) := by rw [Int.mul_emod, Int.emod_emod, ← Int.mul_emod]
      generalize 2 * v % (18446744073709551616 * 18446744073709551616) * p2 = s at *
      generalize 2 * v * p2 = t at *
      rw [show s / 18446744073709551616 % 18446744073709551616 = t / 18446744073709551616 % 18446744073709551616 by omega, show s % 18446744073709551616 = t % 18446744073709551616 by omega]
    · rw [if_neg c, show (min x1 128 - i).toNat = 0 by omega]
      simp
      omega
theorem rleftf (k : Nat) (hi lo x1 : Int) (h0 : 0 ≤ hi) (h1 : hi < 18446744073709551616) (l0 : 0 ≤ lo) (l1 : lo < 18446744073709551616) :
    overfallref01_Left.f (k + 150) hi lo x1 = some (V hi lo * 2 ^ (min x1 128).toNat / 18446744073709551616 % 18446744073709551616, V hi lo * 2 ^ (min x1 128).toNat % 18446744073709551616) := by
  have b := V_bd h0 h1 l0 l1
  have h := rleft_loop x1 128 (k + 1) 0 (V hi lo) (by omega) (by omega) (by omega) b.1 b.2
  rw [show V hi lo / 18446744073709551616 = hi by unfold V; omega, show V hi lo % 18446744073709551616 = lo by unfold V; omega, Int.sub_zero] at h
  rw [overfallref01_Left.f]
  exact h
/-- Its halvings. -/
theorem rright_loop (x1 : Int) (d : Nat) : ∀ (k : Nat) (i v : Int), 0 ≤ i → i ≤ 128 → (128 - i).toNat = d → 0 ≤ v → v < 18446744073709551616 * 18446744073709551616 →
    overfallref01_Right.l0 (k + d + 21) x1 i (v / 18446744073709551616) (v % 18446744073709551616) = some (v / 2 ^ (min x1 128 - i).toNat / 18446744073709551616, v / 2 ^ (min x1 128 - i).toNat % 18446744073709551616) := by
  induction d with
  | zero =>
    intro k i v i0 i1 hd v0 v1
    have : i = 128 := by omega
    subst this
    rw [overfallref01_Right.l0]
    have e : (min x1 128 - 128).toNat = 0 := by omega
    rw [e]
    by_cases c : 128 < x1
    · rw [if_pos c, if_neg (by omega)]; simp
    · rw [if_neg c]; simp
  | succ d ih =>
    intro k i v i0 i1 hd v0 v1
    rw [show k + (d + 1) + 21 = (k + d + 21) + 1 by omega, overfallref01_Right.l0]
    by_cases c : i < x1
    · rw [if_pos c, if_pos (by omega)]
      have p := pair_lt v0 v1
      rw [show k + d + 21 = (k + d + 1) + 20 by omega, rhalff (k + d + 1) _ _ p.1 p.2.1 p.2.2.1 p.2.2.2]
      simp only [Option.bind_some]
      rw [show v / 18446744073709551616 * 18446744073709551616 + v % 18446744073709551616 = v by omega, w64 (by omega) (by omega)]
      have hr := ih k (i + 1) (v / 2) (by omega) (by omega) (by omega) (by omega) (by omega)
      refine hr.trans ?_
      have en : (min x1 128 - i).toNat = (min x1 128 - (i + 1)).toNat + 1 := by omega
      rw [en, Int.pow_succ, Int.mul_comm _ 2, ← Int.ediv_ediv_of_nonneg (by omega)]
    · rw [if_neg c, show (min x1 128 - i).toNat = 0 by omega]
      simp
theorem rrightf (k : Nat) (hi lo x1 : Int) (h0 : 0 ≤ hi) (h1 : hi < 18446744073709551616) (l0 : 0 ≤ lo) (l1 : lo < 18446744073709551616) :
    overfallref01_Right.f (k + 150) hi lo x1 = some (V hi lo / 2 ^ (min x1 128).toNat / 18446744073709551616, V hi lo / 2 ^ (min x1 128).toNat % 18446744073709551616) := by
  have b := V_bd h0 h1 l0 l1
  have h := rright_loop x1 128 (k + 1) 0 (V hi lo) (by omega) (by omega) (by omega) b.1 b.2
  rw [show V hi lo / 18446744073709551616 = hi by unfold V; omega, show V hi lo % 18446744073709551616 = lo by unfold V; omega, Int.sub_zero] at h
  rw [overfallref01_Right.f]
  exact h

end Go.Proofs.Ytdgbehbiigggmaa.Lib
