-- Laid by a program of this claim's session (wip/tools/myprint.py) over the kit's printer.
import Derived.Test.YtjgjmeefieikaaaProg
import Derived.Below
import Derived.Deep.Draws
import Derived.Deep.AppendLies
import Derived.Maps.AppendAt
import Derived.OwnWalk
import Derived.Laws.BytesArg
import Derived.Laws.MakeOwn
import Derived.Laws.OwnMore
import Derived.Deep.OwnRows
import Derived.Tactics
import Derived.Lib.ConvBytes
import Derived.Laws.Slices
import Derived.WalkKit
import Derived.KernelRfl
import Derived.RowKit3
import Derived.Deep.LoopGhost
import Derived.Deep.QuietTactic
import Derived.BigQuiet
import Derived.WideLaws
import Derived.Deep.DeepCutAuto
import Derived.Deep.CutBlock
import Derived.Deep.RegionHeld3
import Derived.Laws.Rows
import Derived.Lib.AppendStr
import Derived.ArgAppend
import Derived.Laws.IdiomCopy
import Derived.OrdersHeld
import Derived.Laws.BitsLemmas
import Derived.RowKit
import Derived.ScopeJumps
import Derived.WalkMore
import Derived.Test.YtjgjmeefieikaaaWWords
import Derived.Test.YtjgjmeefieikaaaWLast
import Derived.Test.YtjgjmeefieikaaaWTab
import Derived.Test.YtjgjmeefieikaaaWFour
import Derived.Test.YtjgjmeefieikaaaWQPut
import Derived.Test.YtjgjmeefieikaaaWApart
import Derived.Test.YtjgjmeefieikaaaWArr
import Derived.Test.YtjgjmeefieikaaaWZeros
import Derived.Test.YtjgjmeefieikaaaWFoot
import Derived.Test.YtjgjmeefieikaaaWKept
import Derived.Test.YtjgjmeefieikaaaWShare
import Derived.Test.YtjgjmeefieikaaaWN
import Derived.Test.YtjgjmeefieikaaaWFootNe
import Derived.Test.YtjgjmeefieikaaaWAt
import Derived.Test.YtjgjmeefieikaaaWEqStruct
import Derived.Test.YtjgjmeefieikaaaWRepsOne
import Derived.Test.YtjgjmeefieikaaaWInv
import Derived.Test.YtjgjmeefieikaaaWInvWords
import Derived.Test.YtjgjmeefieikaaaWGuard
import Derived.Test.YtjgjmeefieikaaaWNEv
import Derived.Test.YtjgjmeefieikaaaWMore
namespace Go.Proofs.Ytjgjmeefieikaaa.B
open Go.RowKit Go.Proofs.YtjgjmeefieikaaaW.PrintWords Go.Proofs.YtjgjmeefieikaaaW.PrintLast Go.Proofs.YtjgjmeefieikaaaW.PrintMore
attribute [local go_sem] max2_int min2_int max_two min_two max_three min_three max_four min_four   -- for this text's walks alone
set_option linter.unusedVariables false
set_option linter.unusedSimpArgs false



def errW : Option Int → Value
  | none => .nilIface
  | some c => .iface 0 (.int .i64 c)
theorem errW_none : errW none = .nilIface := rfl
theorem errW_some (c : Int) : errW (some c) = .iface 0 (.int .i64 c) := rfl

theorem info3 : (Try.prog.info? 3).map (fun i => (i.zero, i.size, i.bytes)) = some (some (.int .i64 0), 1, 8) := by kernel_rfl
-- the values' own types

end Go.Proofs.Ytjgjmeefieikaaa.B
