/- Halving and doubling, the reference's shifts and the program's (plain Lean over the printed functions). -/
import Derived.Test.YtdgbehbiigggmaaYWv
import Derived.Test.YtdgbehbiigggmaaYWe
import Derived.Test.YtdgbehbiigggmaaYx8
namespace Go.Proofs.Ytdgbehbiigggmaa.Lib
open Go.RowKit Go.Proofs.Ytdgbehbiigggmaa.Y Go.Proofs.YtdgbehbiigggmaaW.PrintWords Go.Proofs.YtdgbehbiigggmaaW.PrintLast Go.Proofs.YtdgbehbiigggmaaW.PrintMore
set_option linter.unusedVariables false
set_option linter.unusedSimpArgs false
/-- The reference's doublings. -/
theorem rleft_loop (x1 : Int) (d : Nat) : ∀ (k : Nat) (i v : Int), 0 ≤ i → i ≤ 128 → (128 - i).toNat = d → 0 ≤ v → v < 18446744073709551616 * 18446744073709551616 →
    overfallref01_Left.l0 (k + d + 21) x1 i (v / 18446744073709551616) (v % 18446744073709551616) = some (v * 2 ^ (min x1 128 - i).toNat / 18446744073709551616 % 18446744073709551616, v * 2 ^ (min x1 128 - i).toNat % 18446744073709551616) := by
  induction d with
  | zero =>
    intro k i v i0 i1 hd v0 v1
    have : i = 128 := by omega
    subst this
    rw [overfallref01_Left.l0]
    have e : (min x1 128 - 128).toNat = 0 := by omega
    rw [e]
    by_cases c : 128 < x1
    · rw [if_pos c, if_neg (by omega)]; simp; omega
    · rw [if_neg c]; simp; omega
  | succ d ih =>
    intro k i v i0 i1 hd v0 v1
    rw [show k + (d + 1) + 21 = (k + d + 21) + 1 by omega, overfallref01_Left.l0]
    by_cases c : i < x1
    · rw [if_pos c, if_pos (by omega)]
      have p := pair_lt v0 v1
      rw [show k + d + 21 = (k + d + 1) + 20 by omega, rtwicef (k + d + 1) _ _ p.1 p.2.1 p.2.2.1 p.2.2.2]
      simp only [Option.bind_some]
      rw [show v / 18446744073709551616 * 18446744073709551616 + v % 18446744073709551616 = v by omega, w64 (by omega) (by omega)]
      have hr := ih k (i + 1) (2 * v % (18446744073709551616 * 18446744073709551616)) (by omega) (by omega) (by omega) (by omega) (by omega)
      rw [show 2 * v % (18446744073709551616 * 18446744073709551616) / 18446744073709551616 = 2 * v / 18446744073709551616 % 18446744073709551616 by omega, show 2 * v % (18446744073709551616 * 18446744073709551616) % 18446744073709551616 = 2 * v % 18446744073709551616 by omega] at hr
      refine hr.trans ?_
      have en : (min x1 128 - i).toNat = (min x1 128 - (i + 1)).toNat + 1 := by omega
      rw [en, Int.pow_succ]
      generalize (2 : Int) ^ (min x1 128 - (i + 1)).toNat = p2
      have e2 : v * (p2 * 2) = 2 * v * p2 := by grind
      rw [e2]
      have key : 2 * v % (18446744073709551616 * 18446744073709551616) * p2 % (18446744073709551616 * 18446744073709551616) = 2 * v * p2 % (18446744073709551616 * 18446744073709551616) := by rw [Int.mul_emod, Int.emod_emod, ← Int.mul_emod]
      generalize 2 * v % (18446744073709551616 * 18446744073709551616) * p2 = s at *
      generalize 2 * v * p2 = t at *
      rw [show s / 18446744073709551616 % 18446744073709551616 = t / 18446744073709551616 % 18446744073709551616 by omega, show s % 18446744073709551616 = t % 18446744073709551616 by omega]
    · rw [if_neg c, show (min x1 128 - i).toNat = 0 by omega]
      simp
      omega
theorem rleftf (k : Nat) (hi lo x1 : Int) (h0 : 0 ≤ hi) (h1 : hi < 18446744073709551616) (l0 : 0 ≤ lo) (l1 : lo < 18446744073709551616) :
    overfallref01_Left.f (k + 150) hi lo x1 = some (V hi lo * 2 ^ (min x1 128).toNat / 18446744073709551616 % 18446744073709551616, V hi lo * 2 ^ (min x1 128).toNat % 18446744073709551616) := by
  have b := V_bd h0 h1 l0 l1
  have h := rleft_loop x1 128 (k + 1) 0 (V hi lo) (by omega) (by omega) (by omega) b.1 b.2
  rw [show V hi lo / 18446744073709551616 = hi by unfold V; omega, show V hi lo % 18446744073709551616 = lo by unfold V; omega, Int.sub_zero] at h
  rw [overfallref01_Left.f]
  exact h
end Go.Proofs.Ytdgbehbiigggmaa.Lib
