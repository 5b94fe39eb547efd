/- The program's shifts are products and quotients by powers of two (plain Lean over the printed functions). -/
import Derived.Test.YtiiffgmbkajkhaaLWv
import Derived.Test.YtiiffgmbkajkhaaLWe
namespace Go.Proofs.Ytiiffgmbkajkhaa.Lib
open Go.RowKit Go.Proofs.Ytiiffgmbkajkhaa.L Go.Proofs.YtiiffgmbkajkhaaW.PrintWords Go.Proofs.YtiiffgmbkajkhaaW.PrintLast Go.Proofs.YtiiffgmbkajkhaaW.PrintMore
set_option linter.unusedVariables false
set_option linter.unusedSimpArgs false
end Go.Proofs.Ytiiffgmbkajkhaa.Lib

namespace Go.Proofs.Ytiiffgmbkajkhaa.Lib
open Go.RowKit Go.Proofs.Ytiiffgmbkajkhaa.L Go.Proofs.YtiiffgmbkajkhaaW.PrintWords Go.Proofs.YtiiffgmbkajkhaaW.PrintLast Go.Proofs.YtiiffgmbkajkhaaW.PrintMore
set_option linter.unusedVariables false
set_option linter.unusedSimpArgs false

end Go.Proofs.Ytiiffgmbkajkhaa.Lib
