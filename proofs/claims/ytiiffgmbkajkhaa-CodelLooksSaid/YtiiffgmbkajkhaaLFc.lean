/- Numbers in parts: products, quotients, floors; program and reference. -/
import Derived.Test.YtiiffgmbkajkhaaLFb
import Derived.Test.YtiiffgmbkajkhaaLWi
namespace Go.Proofs.Ytiiffgmbkajkhaa.Lib
set_option linter.unusedVariables false
set_option linter.unusedSimpArgs false
open Go.RowKit Go.Proofs.Ytiiffgmbkajkhaa.L Go.Proofs.YtiiffgmbkajkhaaW.PrintWords Go.Proofs.YtiiffgmbkajkhaaW.PrintLast Go.Proofs.YtiiffgmbkajkhaaW.PrintMore

theorem p32 : (2 : Int) ^ (min (32 : Int) 128).toNat = 4294967296 := by decide
end Go.Proofs.Ytiiffgmbkajkhaa.Lib
