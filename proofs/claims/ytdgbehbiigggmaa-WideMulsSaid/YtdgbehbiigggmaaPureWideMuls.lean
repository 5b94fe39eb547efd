/- Lemmas of this claim's session over the printed functions (plain Lean, no condition beyond those each theorem names). -/
import Derived.Test.YtdgbehbiigggmaaWg
import Derived.Test.YtdgbehbiigggmaaWf
import Derived.Test.YtdgbehbiigggmaaGx6
namespace Go.Proofs.Ytdgbehbiigggmaa.Pure
set_option linter.unusedVariables false
set_option linter.unusedSimpArgs false
open Go.RowKit Go.Proofs.Ytdgbehbiigggmaa.G Go.Proofs.YtdgbehbiigggmaaW.PrintWords Go.Proofs.YtdgbehbiigggmaaW.PrintLast Go.Proofs.YtdgbehbiigggmaaW.PrintMore
open Go.Proofs.Ytdgbehbiigggmaa.Lib

theorem WideMuls : ∀ (a0 : Int) (a1 : Int), (Lit.int .u64 a0).wf = true → (Lit.int .u64 a1).wf = true → ∃ k, overfalllaw01_WideMuls.f k a0 a1 = some true := by
  intro a b ha hb
  have A := wf_u64 ha
  have B := wf_u64 hb
  obtain ⟨K1, h1⟩ := awakef
  have hp0 : 0 ≤ a * b := Int.mul_nonneg A.1 B.1
  have hp1 : a * b < 18446744073709551616 * 18446744073709551616 := by
    have := Int.mul_le_mul (show a ≤ 18446744073709551615 by omega) (show b ≤ 18446744073709551615 by omega) B.1 (by omega)
    omega
  have e : a * b / 18446744073709551616 * 18446744073709551616 + a * b % 18446744073709551616 = a * b := by omega
  by_cases hz : a = 0
  · subst hz
    refine ⟨K1 + 40, ?_⟩
    rw [overfalllaw01_WideMuls.f, h1 _ (by omega)]
    simp only [Option.bind_some, if_true, mulf 0 b (by omega) (by omega) B.1 B.2, mulf b 0 B.1 B.2 (by omega) (by omega), divf0, ownf, rmulf K1 0 b (by omega) (by omega) B.1 B.2]
    simp
  · obtain ⟨K2, h2⟩ := divf (a * b / 18446744073709551616) (a * b % 18446744073709551616) a (by omega) (by omega) (by omega) (by omega) (by omega) A.2
    refine ⟨K1 + K2 + 40, ?_⟩
    rw [overfalllaw01_WideMuls.f, h1 _ (by omega)]
    have d1 : a * b / a = b := Int.mul_ediv_cancel_left _ hz
    have d2 : a * b % a = 0 := Int.mul_emod_right a b
    simp only [Option.bind_some, if_true, mulf a b A.1 A.2 B.1 B.2, mulf b a B.1 B.2 A.1 A.2, h2 (K1 + K2 + 40) (by omega), ownf, off, rmulf (K1 + K2) a b A.1 A.2 B.1 B.2, e, d1, d2, Int.mul_comm b a]
    simp [hz]
    omega
end Go.Proofs.Ytdgbehbiigggmaa.Pure
