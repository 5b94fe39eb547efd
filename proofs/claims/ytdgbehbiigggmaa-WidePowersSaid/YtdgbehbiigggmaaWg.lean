/- Lemmas of this claim's session over the printed functions (plain Lean, no condition beyond those each theorem names). -/
import Derived.Test.YtdgbehbiigggmaaGx4
namespace Go.Proofs.Ytdgbehbiigggmaa.Lib
set_option linter.unusedVariables false
set_option linter.unusedSimpArgs false
open Go.RowKit Go.Proofs.Ytdgbehbiigggmaa.G Go.Proofs.YtdgbehbiigggmaaW.PrintWords Go.Proofs.YtdgbehbiigggmaaW.PrintLast Go.Proofs.YtdgbehbiigggmaaW.PrintMore
theorem awake_at : overfalllaw01_awake.f 100 = some true := by decide +kernel
theorem awakef : ∃ K, ∀ k, K ≤ k → overfalllaw01_awake.f k = some true := Ev.of (g := fun k => overfalllaw01_awake.f k) (fun k => overfalllaw01_awake.mono k) awake_at
end Go.Proofs.Ytdgbehbiigggmaa.Lib
