/- Halving and doubling, the reference's shifts and the program's (plain Lean over the printed functions). -/
import Derived.Test.YtjgjmeefieikaaaBWv
import Derived.Test.YtjgjmeefieikaaaBx4
import Derived.Test.YtjgjmeefieikaaaBx6
namespace Go.Proofs.Ytjgjmeefieikaaa.Lib
open Go.RowKit Go.Proofs.Ytjgjmeefieikaaa.B Go.Proofs.YtjgjmeefieikaaaW.PrintWords Go.Proofs.YtjgjmeefieikaaaW.PrintLast Go.Proofs.YtjgjmeefieikaaaW.PrintMore
set_option linter.unusedVariables false
set_option linter.unusedSimpArgs false
end Go.Proofs.Ytjgjmeefieikaaa.Lib
