/- Halving and doubling, the reference's shifts and the program's (plain Lean over the printed functions). -/
import Derived.Test.YtiiffgmbkajkhaaAWv
import Derived.Test.YtiiffgmbkajkhaaAWe
namespace Go.Proofs.Ytiiffgmbkajkhaa.Lib
open Go.RowKit Go.Proofs.Ytiiffgmbkajkhaa.A Go.Proofs.YtiiffgmbkajkhaaW.PrintWords Go.Proofs.YtiiffgmbkajkhaaW.PrintLast Go.Proofs.YtiiffgmbkajkhaaW.PrintMore
set_option linter.unusedVariables false
set_option linter.unusedSimpArgs false
end Go.Proofs.Ytiiffgmbkajkhaa.Lib
