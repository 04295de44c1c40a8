-- Written for this claim by a program of this seat's (wip/tools), by way of the kit's printing program; not one of its printed files. Lean checks it.
import Derived.Test.YtoejaknfoniphaaProg
import Derived.Below
import Derived.Deep.Draws
import Derived.Deep.AppendLies
import Derived.Maps.AppendAt
import Derived.OwnWalk
import Derived.Laws.BytesArg
import Derived.Laws.MakeOwn
import Derived.Laws.OwnMore
import Derived.Deep.OwnRows
import Derived.Tactics
import Derived.Lib.ConvBytes
import Derived.Laws.Slices
import Derived.WalkKit
import Derived.KernelRfl
import Derived.RowKit3
import Derived.Deep.LoopGhost
import Derived.Deep.QuietTactic
import Derived.BigQuiet
import Derived.WideLaws
import Derived.Deep.DeepCutAuto
import Derived.Deep.CutBlock
import Derived.Deep.RegionHeld3
import Derived.Laws.Rows
import Derived.Lib.AppendStr
import Derived.ArgAppend
import Derived.Laws.IdiomCopy
import Derived.OrdersHeld
import Derived.Laws.BitsLemmas
import Derived.RowKit
import Derived.Test.YtoejaknfoniphaaWWords
import Derived.Test.YtoejaknfoniphaaWLast
import Derived.Test.YtoejaknfoniphaaWTab
import Derived.Test.YtoejaknfoniphaaWFour
import Derived.Test.YtoejaknfoniphaaWQPut
import Derived.Test.YtoejaknfoniphaaWApart
import Derived.Test.YtoejaknfoniphaaWArr
import Derived.Test.YtoejaknfoniphaaWZeros
import Derived.Test.YtoejaknfoniphaaWFoot
import Derived.Test.YtoejaknfoniphaaWKept
import Derived.Test.YtoejaknfoniphaaWShare
import Derived.Test.YtoejaknfoniphaaWN
import Derived.Test.YtoejaknfoniphaaWFootNe
import Derived.Test.YtoejaknfoniphaaWAt
import Derived.Test.YtoejaknfoniphaaWEqStruct
import Derived.Test.YtoejaknfoniphaaWRepsOne
import Derived.Test.YtoejaknfoniphaaWInv
import Derived.Test.YtoejaknfoniphaaWInvWords
import Derived.Test.YtoejaknfoniphaaWGuard
import Derived.Test.YtoejaknfoniphaaWNEv
import Derived.Test.YtoejaknfoniphaaWMore
namespace Go.Proofs.Ytoejaknfoniphaa.T
open Go.RowKit Go.Proofs.YtoejaknfoniphaaW.PrintWords Go.Proofs.YtoejaknfoniphaaW.PrintLast Go.Proofs.YtoejaknfoniphaaW.PrintMore
attribute [local go_sem] max2_int min2_int max_two min_two max_three min_three max_four min_four   -- for this text's walks alone
set_option linter.unusedVariables false
set_option linter.unusedSimpArgs false



def errW : Option Int → Value
  | none => .nilIface
  | some c => .iface 0 (.int .i64 c)
theorem errW_none : errW none = .nilIface := rfl
theorem errW_some (c : Int) : errW (some c) = .iface 0 (.int .i64 c) := rfl

theorem info2 : (Try.prog.info? 2).map (fun i => (i.zero, i.size, i.bytes)) = some (some (.int .i64 0), 1, 8) := by kernel_rfl
-- the values' own types

end Go.Proofs.Ytoejaknfoniphaa.T
