/- Lemmas of this claim's session over the printed functions (plain Lean, no condition beyond those each theorem names). -/
import Derived.Test.YthmapfhemiamhaaSWa
import Derived.Test.YthmapfhemiamhaaSDm
namespace Go.Proofs.Ythmapfhemiamhaa.Lib
set_option linter.unusedVariables false
set_option linter.unusedVariables false
set_option linter.unusedSimpArgs false
open Go.RowKit Go.Proofs.Ythmapfhemiamhaa.S Go.Proofs.YthmapfhemiamhaaW.PrintWords Go.Proofs.YthmapfhemiamhaaW.PrintLast Go.Proofs.YthmapfhemiamhaaW.PrintMore

theorem tdiv_nn {a b : Int} (h : 0 ≤ a) : Int.tdiv a b = a / b := Int.tdiv_eq_ediv_of_nonneg h
theorem tmod_nn {a b : Int} (h : 0 ≤ a) : Int.tmod a b = a % b := Int.tmod_eq_emod_of_nonneg h

end Go.Proofs.Ythmapfhemiamhaa.Lib
