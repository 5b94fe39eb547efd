/- Halving and doubling, the reference's shifts and the program's (plain Lean over the printed functions). -/
import Derived.Test.YthmapfhemiamhaaSWv
import Derived.Test.YthmapfhemiamhaaSWe
import Derived.Test.YthmapfhemiamhaaSx5
import Derived.Test.YthmapfhemiamhaaSx3
namespace Go.Proofs.Ythmapfhemiamhaa.Lib
open Go.RowKit Go.Proofs.Ythmapfhemiamhaa.S Go.Proofs.YthmapfhemiamhaaW.PrintWords Go.Proofs.YthmapfhemiamhaaW.PrintLast Go.Proofs.YthmapfhemiamhaaW.PrintMore
set_option linter.unusedVariables false
set_option linter.unusedSimpArgs false
end Go.Proofs.Ythmapfhemiamhaa.Lib
