/- Halving and doubling, the reference's shifts and the program's (plain Lean over the printed functions). -/
import Derived.Test.YtdgbehbiigggmaaXWv
import Derived.Test.YtdgbehbiigggmaaXWe
namespace Go.Proofs.Ytdgbehbiigggmaa.Lib
open Go.RowKit Go.Proofs.Ytdgbehbiigggmaa.X Go.Proofs.YtdgbehbiigggmaaW.PrintWords Go.Proofs.YtdgbehbiigggmaaW.PrintLast Go.Proofs.YtdgbehbiigggmaaW.PrintMore
set_option linter.unusedVariables false
set_option linter.unusedSimpArgs false
end Go.Proofs.Ytdgbehbiigggmaa.Lib
