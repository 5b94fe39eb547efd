-- Words of the kit's printer, those that this seat's texts use: laid by a program of this claim's session (wip/tools/shake.py).
import Derived.Test.YtiiffgmbkajkhaaWApart
import Derived.Test.YtiiffgmbkajkhaaWArr
namespace Go.Proofs.YtiiffgmbkajkhaaW.PrintWords
open Go.RowKit
section
variable {P : Program}
end
namespace Kd
section
variable {P : Program} {ops : Array Oper} {rest : List Oper} {o : Oper} {a : Act} {Q : Exit → Act → World → Prop} {Kc : Act → World → Prop} {α : Type}
end
section
variable {α : Type} {d : Kd α} {e : Nat} {w : World} {base : Nat} {ok : Nat → Prop} {v : Value} {xs : List α}
end
section
variable {P : Program} {ops : Array Oper} {rest : List Oper} {o : Oper} {a : Act} {Q : Exit → Act → World → Prop} {Kc : Act → World → Prop} {α : Type}
end
end Kd
end Go.Proofs.YtiiffgmbkajkhaaW.PrintWords
