-- Words of the kit's printer, those that this seat's texts use: laid by a program of this claim's session (wip/tools/shake.py).
import Derived.Test.YthmapfhemiamhaaWInv
import Derived.Test.YthmapfhemiamhaaWFootNe
namespace Go.Proofs.YthmapfhemiamhaaW.PrintWords
open Go.RowKit
end Go.Proofs.YthmapfhemiamhaaW.PrintWords
namespace Go.Proofs.YthmapfhemiamhaaW.PrintLast
section
variable {ops : Array Oper} {a : Act} {o og : Oper} {g : Nat} {t : Tmp} {u : Bool}
end
end Go.Proofs.YthmapfhemiamhaaW.PrintLast
