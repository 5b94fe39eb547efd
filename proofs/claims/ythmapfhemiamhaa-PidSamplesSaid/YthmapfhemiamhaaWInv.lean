-- Words of the kit's printer, those that this seat's texts use: laid by a program of this claim's session (wip/tools/shake.py).
import Derived.Test.YthmapfhemiamhaaWTab
namespace Go.Proofs.YthmapfhemiamhaaW.PrintLast
def up (b : Nat → Bool) (i : Nat) : Nat → Bool := fun j => if j = i then true else b j
section
variable {P : Program} {ops : Array Oper} {Q : Exit → Act → World → Prop} {md : Region.Mode} {T : Bool × List (List Nat × List Nat)} {B : List Nat} {O : List Nat} {b : Nat → Bool} {i j n : Nat}
end
end Go.Proofs.YthmapfhemiamhaaW.PrintLast
