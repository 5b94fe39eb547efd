-- Laid by a program of this claim's session (wip/tools/myprint.py) over the kit's printer.
import Derived.Test.YtiiffgmbkajkhaaProg
import Derived.Below
import Derived.Deep.Draws
import Derived.Deep.AppendLies
import Derived.Maps.AppendAt
import Derived.OwnWalk
import Derived.Laws.BytesArg
import Derived.Laws.MakeOwn
import Derived.Laws.OwnMore
import Derived.Deep.OwnRows
import Derived.Tactics
import Derived.Lib.ConvBytes
import Derived.Laws.Slices
import Derived.WalkKit
import Derived.KernelRfl
import Derived.RowKit3
import Derived.Deep.LoopGhost
import Derived.Deep.QuietTactic
import Derived.BigQuiet
import Derived.WideLaws
import Derived.Deep.DeepCutAuto
import Derived.Deep.CutBlock
import Derived.Deep.RegionHeld3
import Derived.Laws.Rows
import Derived.Lib.AppendStr
import Derived.ArgAppend
import Derived.Laws.IdiomCopy
import Derived.OrdersHeld
import Derived.Laws.BitsLemmas
import Derived.RowKit
import Derived.ScopeJumps
import Derived.WalkMore
import Derived.Test.YtiiffgmbkajkhaaWWords
import Derived.Test.YtiiffgmbkajkhaaWLast
import Derived.Test.YtiiffgmbkajkhaaWTab
import Derived.Test.YtiiffgmbkajkhaaWFour
import Derived.Test.YtiiffgmbkajkhaaWQPut
import Derived.Test.YtiiffgmbkajkhaaWApart
import Derived.Test.YtiiffgmbkajkhaaWArr
import Derived.Test.YtiiffgmbkajkhaaWZeros
import Derived.Test.YtiiffgmbkajkhaaWFoot
import Derived.Test.YtiiffgmbkajkhaaWKept
import Derived.Test.YtiiffgmbkajkhaaWShare
import Derived.Test.YtiiffgmbkajkhaaWN
import Derived.Test.YtiiffgmbkajkhaaWFootNe
import Derived.Test.YtiiffgmbkajkhaaWAt
import Derived.Test.YtiiffgmbkajkhaaWEqStruct
import Derived.Test.YtiiffgmbkajkhaaWRepsOne
import Derived.Test.YtiiffgmbkajkhaaWInv
import Derived.Test.YtiiffgmbkajkhaaWInvWords
import Derived.Test.YtiiffgmbkajkhaaWGuard
import Derived.Test.YtiiffgmbkajkhaaWNEv
import Derived.Test.YtiiffgmbkajkhaaWMore
import Derived.Test.YtiiffgmbkajkhaaWShort
namespace Go.Proofs.Ytiiffgmbkajkhaa.L
open Go.RowKit Go.Proofs.YtiiffgmbkajkhaaW.PrintWords Go.Proofs.YtiiffgmbkajkhaaW.PrintLast Go.Proofs.YtiiffgmbkajkhaaW.PrintMore
attribute [local go_sem] max2_int min2_int max_two min_two max_three min_three max_four min_four   -- for this text's walks alone
set_option linter.unusedVariables false
set_option linter.unusedSimpArgs false



def errW : Option Int → Value
  | none => .nilIface
  | some c => .iface 0 (.int .i64 c)
theorem errW_none : errW none = .nilIface := rfl
theorem errW_some (c : Int) : errW (some c) = .iface 0 (.int .i64 c) := rfl

theorem info3 : (Try.prog.info? 3).map (fun i => (i.zero, i.size, i.bytes)) = some (some (.int .i64 0), 1, 8) := by kernel_rfl
-- the values' own types

end Go.Proofs.Ytiiffgmbkajkhaa.L
