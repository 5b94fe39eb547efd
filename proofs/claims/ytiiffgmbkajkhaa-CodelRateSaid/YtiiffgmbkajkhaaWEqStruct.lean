-- Words of the kit's printer, those that this seat's texts use: laid by a program of this claim's session (wip/tools/shake.py).
import Derived.Test.YtiiffgmbkajkhaaWWords
import Derived.Laws.StructEq
namespace Go.Proofs.YtiiffgmbkajkhaaW.PrintWords
open Go.RowKit
section
variable {P : Program} {d : Nat} {xs ys : Array Value} {f : Field} {fs : List Field} {a b : Value} {r s : Bool} {w : World}
end
end Go.Proofs.YtiiffgmbkajkhaaW.PrintWords
