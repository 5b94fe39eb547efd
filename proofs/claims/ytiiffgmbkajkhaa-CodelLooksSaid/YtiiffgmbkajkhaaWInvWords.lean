-- Words of the kit's printer, those that this seat's texts use: laid by a program of this claim's session (wip/tools/shake.py).
import Derived.Test.YtiiffgmbkajkhaaWInv
import Derived.Test.YtiiffgmbkajkhaaWFootNe
namespace Go.Proofs.YtiiffgmbkajkhaaW.PrintWords
open Go.RowKit
end Go.Proofs.YtiiffgmbkajkhaaW.PrintWords
namespace Go.Proofs.YtiiffgmbkajkhaaW.PrintLast
section
variable {ops : Array Oper} {a : Act} {o og : Oper} {g : Nat} {t : Tmp} {u : Bool}
end
end Go.Proofs.YtiiffgmbkajkhaaW.PrintLast
