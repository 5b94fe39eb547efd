/- The reference's numbers that don't go over: the same sums, differences, products. -/
import Derived.Test.YtiiffgmbkajkhaaAFa
import Derived.Test.YtiiffgmbkajkhaaAWf
import Derived.Test.YtiiffgmbkajkhaaAWe
namespace Go.Proofs.Ytiiffgmbkajkhaa.Lib
set_option linter.unusedVariables false
set_option linter.unusedSimpArgs false
open Go.RowKit Go.Proofs.Ytiiffgmbkajkhaa.A Go.Proofs.YtiiffgmbkajkhaaW.PrintWords Go.Proofs.YtiiffgmbkajkhaaW.PrintLast Go.Proofs.YtiiffgmbkajkhaaW.PrintMore

theorem sg_mul (a b : Int) : sg (ab a * ab b) (decide (a < 0) != decide (b < 0)) false = sat (a * b) := by
  rw [← sgn_mul a b]
  cases (decide (a < 0) != decide (b < 0))
  · rw [sg_f, if_neg Bool.false_ne_true]
  · rw [sg_tf, if_pos (rfl : true = true)]
end Go.Proofs.Ytiiffgmbkajkhaa.Lib
