/- Lemmas of this claim's session over the printed functions (plain Lean, no condition beyond those each theorem names). -/
import Derived.Test.YthmapfhemiamhaaPWc
import Derived.Test.YthmapfhemiamhaaPx2
namespace Go.Proofs.Ythmapfhemiamhaa.Lib
set_option linter.unusedVariables false
set_option linter.unusedSimpArgs false
open Go.RowKit Go.Proofs.Ythmapfhemiamhaa.P Go.Proofs.YthmapfhemiamhaaW.PrintWords Go.Proofs.YthmapfhemiamhaaW.PrintLast Go.Proofs.YthmapfhemiamhaaW.PrintMore
set_option linter.unusedVariables false

theorem off (x : Int) : wide_Of.f x = some (0, x) := rfl
theorem addf (a b c d : Int) (a0 : 0 ≤ a) (a1 : a < 18446744073709551616) (b0 : 0 ≤ b) (b1 : b < 18446744073709551616) (c0 : 0 ≤ c) (c1 : c < 18446744073709551616) (d0 : 0 ≤ d) (d1 : d < 18446744073709551616) :
    wide_Num_Add.f a b c d = some ((a + c + (b + d) / 18446744073709551616) % 18446744073709551616, (b + d) % 18446744073709551616, decide (18446744073709551616 ≤ a + c + (b + d) / 18446744073709551616)) := by
  rw [wide_Num_Add.f, if_pos (by omega)]
  congr 3
  rw [decide_eq_decide]
  omega
end Go.Proofs.Ythmapfhemiamhaa.Lib
