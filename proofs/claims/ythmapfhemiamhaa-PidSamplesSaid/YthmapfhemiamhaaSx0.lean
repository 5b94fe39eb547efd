-- Laid by a program of this claim's session (wip/tools/myprint.py) over the kit's printer.
import Derived.Test.YthmapfhemiamhaaProg
import Derived.Below
import Derived.Deep.Draws
import Derived.Deep.AppendLies
import Derived.Maps.AppendAt
import Derived.OwnWalk
import Derived.Laws.BytesArg
import Derived.Laws.MakeOwn
import Derived.Laws.OwnMore
import Derived.Deep.OwnRows
import Derived.Tactics
import Derived.Lib.ConvBytes
import Derived.Laws.Slices
import Derived.WalkKit
import Derived.KernelRfl
import Derived.RowKit3
import Derived.Deep.LoopGhost
import Derived.Deep.QuietTactic
import Derived.BigQuiet
import Derived.WideLaws
import Derived.Deep.DeepCutAuto
import Derived.Deep.CutBlock
import Derived.Deep.RegionHeld3
import Derived.Laws.Rows
import Derived.Lib.AppendStr
import Derived.ArgAppend
import Derived.Laws.IdiomCopy
import Derived.OrdersHeld
import Derived.Laws.BitsLemmas
import Derived.RowKit
import Derived.ScopeJumps
import Derived.WalkMore
import Derived.Test.YthmapfhemiamhaaWWords
import Derived.Test.YthmapfhemiamhaaWLast
import Derived.Test.YthmapfhemiamhaaWTab
import Derived.Test.YthmapfhemiamhaaWFour
import Derived.Test.YthmapfhemiamhaaWQPut
import Derived.Test.YthmapfhemiamhaaWApart
import Derived.Test.YthmapfhemiamhaaWArr
import Derived.Test.YthmapfhemiamhaaWZeros
import Derived.Test.YthmapfhemiamhaaWFoot
import Derived.Test.YthmapfhemiamhaaWKept
import Derived.Test.YthmapfhemiamhaaWShare
import Derived.Test.YthmapfhemiamhaaWN
import Derived.Test.YthmapfhemiamhaaWFootNe
import Derived.Test.YthmapfhemiamhaaWAt
import Derived.Test.YthmapfhemiamhaaWEqStruct
import Derived.Test.YthmapfhemiamhaaWRepsOne
import Derived.Test.YthmapfhemiamhaaWInv
import Derived.Test.YthmapfhemiamhaaWInvWords
import Derived.Test.YthmapfhemiamhaaWGuard
import Derived.Test.YthmapfhemiamhaaWNEv
import Derived.Test.YthmapfhemiamhaaWMore
namespace Go.Proofs.Ythmapfhemiamhaa.S
open Go.RowKit Go.Proofs.YthmapfhemiamhaaW.PrintWords Go.Proofs.YthmapfhemiamhaaW.PrintLast Go.Proofs.YthmapfhemiamhaaW.PrintMore
attribute [local go_sem] max2_int min2_int max_two min_two max_three min_three max_four min_four   -- for this text's walks alone
set_option linter.unusedVariables false
set_option linter.unusedSimpArgs false



def errW : Option Int → Value
  | none => .nilIface
  | some c => .iface 0 (.int .i64 c)
theorem errW_none : errW none = .nilIface := rfl
theorem errW_some (c : Int) : errW (some c) = .iface 0 (.int .i64 c) := rfl

theorem info3 : (Try.prog.info? 3).map (fun i => (i.zero, i.size, i.bytes)) = some (some (.int .i64 0), 1, 8) := by kernel_rfl
-- the values' own types

end Go.Proofs.Ythmapfhemiamhaa.S
