/- WideDivs' pure statement: quotient and rest are the reference's, and give the number back. -/
import Derived.Test.YtdgbehbiigggmaaWg
import Derived.Test.YtdgbehbiigggmaaWj
import Derived.Test.YtdgbehbiigggmaaGx10
namespace Go.Proofs.Ytdgbehbiigggmaa.Pure
set_option linter.unusedVariables false
set_option linter.unusedSimpArgs false
open Go.RowKit Go.Proofs.Ytdgbehbiigggmaa.G Go.Proofs.YtdgbehbiigggmaaW.PrintWords Go.Proofs.YtdgbehbiigggmaaW.PrintLast Go.Proofs.YtdgbehbiigggmaaW.PrintMore
open Go.Proofs.Ytdgbehbiigggmaa.Lib

theorem WideDivs : ∀ (a0_0 : Int) (a0_1 : Int) (a1 : Int), (Lit.int .u64 a0_0).wf = true → (Lit.int .u64 a0_1).wf = true → (Lit.int .u64 a1).wf = true → ∃ k, overfalllaw01_WideDivs.f k a0_0 a0_1 a1 = some true := by
  intro hi lo d ha hb hd
  have A := wf_u64 ha
  have B := wf_u64 hb
  have D := wf_u64 hd
  obtain ⟨K1, h1⟩ := awakef
  by_cases hz : d = 0
  · subst hz
    refine ⟨K1 + 2, ?_⟩
    rw [overfalllaw01_WideDivs.f, h1 _ (by omega)]
    simp only [Option.bind_some, if_true, ownf, divf0, rdivf0]
    simp [overfalllaw01_WideDivs.j0]
  · obtain ⟨K2, h2⟩ := divf hi lo d A.1 A.2 B.1 B.2 (by omega) D.2
    refine ⟨K1 + K2 + 290, ?_⟩
    rw [overfalllaw01_WideDivs.f, h1 _ (by omega)]
    simp only [Option.bind_some, if_true, ownf, h2 (K1 + K2 + 290) (by omega), rdivf (K1 + K2) hi lo d A.1 A.2 B.1 B.2 (by omega) D.2]
    have ev : V hi lo = hi * 18446744073709551616 + lo := rfl
    rw [ev]
    have vs : d * ((hi * 18446744073709551616 + lo) / d) + (hi * 18446744073709551616 + lo) % d = hi * 18446744073709551616 + lo := Int.mul_ediv_add_emod _ _
    have r0 := Int.emod_nonneg (hi * 18446744073709551616 + lo) hz
    have r1 := Int.emod_lt_of_pos (hi * 18446744073709551616 + lo) (show 0 < d by omega)
    have Q0 : 0 ≤ (hi * 18446744073709551616 + lo) / d := Int.ediv_nonneg (by omega) (by omega)
    have Q1 : (hi * 18446744073709551616 + lo) / d ≤ hi * 18446744073709551616 + lo := Int.ediv_le_self _ (by omega)
    generalize (hi * 18446744073709551616 + lo) / d = Q at *
    generalize (hi * 18446744073709551616 + lo) % d = r at *
    have hq : d * Q = Q % 18446744073709551616 * d + Q / 18446744073709551616 * d * 18446744073709551616 := by
      have : Q = Q % 18446744073709551616 + Q / 18446744073709551616 * 18446744073709551616 := by omega
      have h : d * Q = d * (Q % 18446744073709551616 + Q / 18446744073709551616 * 18446744073709551616) := by rw [← this]
      rw [h]; grind
    have P0 : 0 ≤ Q % 18446744073709551616 * d := Int.mul_nonneg (by omega) (by omega)
    have S0 : 0 ≤ Q / 18446744073709551616 * d := Int.mul_nonneg (by omega) (by omega)
    simp only [beq_self_eq_true, Bool.not_true, Bool.or_self, bne_self_eq_false, if_false]
    rw [if_neg (by simp), show K1 + K2 + 290 = (K1 + K2 + 289) + 1 by omega, overfalllaw01_WideDivs.j0, if_neg (by simp), if_neg hz, mulf _ d (by omega) (by omega) D.1 D.2]
    simp only [Option.bind_some]
    rw [mulf _ d (by omega) (by omega) D.1 D.2]
    simp only [Option.bind_some]
    generalize Q % 18446744073709551616 * d = P at *
    generalize Q / 18446744073709551616 * d = S at *
    rw [addf _ _ _ _ (by omega) (by omega) (by omega) (by omega) (by omega) (by omega) (by omega) (by omega)]
    simp only [Option.bind_some, off]
    rw [addf _ _ _ _ (by omega) (by omega) (by omega) (by omega) (by omega) (by omega) (by omega) (by omega)]
    simp only [Option.bind_some]
    rw [if_pos r1, if_pos, if_pos (by omega), if_neg]
    · simp; omega
    · simp; omega
    · simp; omega
end Go.Proofs.Ytdgbehbiigggmaa.Pure
