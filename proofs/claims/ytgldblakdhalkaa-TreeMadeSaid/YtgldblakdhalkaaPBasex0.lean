/- Written by this session's program wip/tools/giv.py over the seat's translation: Lean functions of the Go functions named below and the proofs that the calls come to them. Conditions: as each contract states. -/
import Derived.Test.YtgldblakdhalkaaProg
import Derived.Below
import Derived.Deep.Draws
import Derived.Deep.AppendLies
import Derived.Maps.AppendAt
import Derived.OwnWalk
import Derived.Laws.BytesArg
import Derived.Laws.MakeOwn
import Derived.Laws.OwnMore
import Derived.Deep.OwnRows
import Derived.Tactics
import Derived.Lib.ConvBytes
import Derived.Laws.Slices
import Derived.WalkKit
import Derived.KernelRfl
import Derived.RowKit3
import Derived.Deep.LoopGhost
import Derived.Deep.QuietTactic
import Derived.BigQuiet
import Derived.WideLaws
import Derived.Deep.DeepCutAuto
import Derived.Deep.CutBlock
import Derived.Deep.RegionHeld3
import Derived.Laws.Rows
import Derived.Lib.AppendStr
import Derived.ArgAppend
import Derived.Laws.IdiomCopy
import Derived.OrdersHeld
import Derived.Laws.BitsLemmas
import Derived.RowKit
import Derived.Test.YtgldblakdhalkaaGMin
import Derived.Test.YtgldblakdhalkaaWWords
import Derived.Test.YtgldblakdhalkaaWLast
import Derived.Test.YtgldblakdhalkaaWTab
import Derived.Test.YtgldblakdhalkaaWFour
import Derived.Test.YtgldblakdhalkaaWQPut
import Derived.Test.YtgldblakdhalkaaWApart
import Derived.Test.YtgldblakdhalkaaWArr
import Derived.Test.YtgldblakdhalkaaWZeros
import Derived.Test.YtgldblakdhalkaaWFoot
import Derived.Test.YtgldblakdhalkaaWKept
import Derived.Test.YtgldblakdhalkaaWShare
import Derived.Test.YtgldblakdhalkaaWN
import Derived.Test.YtgldblakdhalkaaWFootNe
import Derived.Test.YtgldblakdhalkaaWAt
import Derived.Test.YtgldblakdhalkaaWEqStruct
import Derived.Test.YtgldblakdhalkaaWRepsOne
import Derived.Test.YtgldblakdhalkaaWInv
import Derived.Test.YtgldblakdhalkaaWInvWords
import Derived.Test.YtgldblakdhalkaaWGuard
import Derived.Test.YtgldblakdhalkaaWNEv
import Derived.Test.YtgldblakdhalkaaWMore
namespace Go.Proofs.Ytgldblakdhalkaa.PBase
open Go.RowKit Go.Proofs.YtgldblakdhalkaaW.PrintWords Go.Proofs.YtgldblakdhalkaaW.PrintLast Go.Proofs.YtgldblakdhalkaaW.PrintMore
attribute [local go_sem] max2_mx min2_mn max_two min_two max_three min_three max_four min_four   -- for this text's walks alone
set_option linter.unusedVariables false
set_option linter.unusedSimpArgs false



def errW : Option Int → Value
  | none => .nilIface
  | some c => .iface 0 (.int .i64 c)
theorem errW_none : errW none = .nilIface := rfl
theorem errW_some (c : Int) : errW (some c) = .iface 0 (.int .i64 c) := rfl

theorem info3 : (Try.prog.info? 3).map (fun i => (i.zero, i.size, i.bytes)) = some (some (.int .i64 0), 1, 8) := by kernel_rfl
-- the values' own types

end Go.Proofs.Ytgldblakdhalkaa.PBase
