/- Written by this session's program wip/tools/giv.py over the seat's translation: Lean functions of the Go functions named below and the proofs that the calls come to them. Conditions: as each contract states. -/
import Derived.Test.YtnhfkkffmlfkbaaProg
import Derived.Below
import Derived.Deep.Draws
import Derived.Deep.AppendLies
import Derived.Maps.AppendAt
import Derived.OwnWalk
import Derived.Laws.BytesArg
import Derived.Laws.MakeOwn
import Derived.Laws.OwnMore
import Derived.Deep.OwnRows
import Derived.Tactics
import Derived.Lib.ConvBytes
import Derived.Laws.Slices
import Derived.WalkKit
import Derived.KernelRfl
import Derived.RowKit3
import Derived.Deep.LoopGhost
import Derived.Deep.QuietTactic
import Derived.BigQuiet
import Derived.WideLaws
import Derived.Deep.DeepCutAuto
import Derived.Deep.CutBlock
import Derived.Deep.RegionHeld3
import Derived.Laws.Rows
import Derived.Lib.AppendStr
import Derived.ArgAppend
import Derived.Laws.IdiomCopy
import Derived.OrdersHeld
import Derived.Laws.BitsLemmas
import Derived.RowKit
import Derived.Test.YtnhfkkffmlfkbaaGMin
import Derived.Test.YtnhfkkffmlfkbaaGSquash
import Derived.Test.YtnhfkkffmlfkbaaWWords
import Derived.Test.YtnhfkkffmlfkbaaWLast
import Derived.Test.YtnhfkkffmlfkbaaWTab
import Derived.Test.YtnhfkkffmlfkbaaWFour
import Derived.Test.YtnhfkkffmlfkbaaWQPut
import Derived.Test.YtnhfkkffmlfkbaaWApart
import Derived.Test.YtnhfkkffmlfkbaaWArr
import Derived.Test.YtnhfkkffmlfkbaaWZeros
import Derived.Test.YtnhfkkffmlfkbaaWFoot
import Derived.Test.YtnhfkkffmlfkbaaWKept
import Derived.Test.YtnhfkkffmlfkbaaWShare
import Derived.Test.YtnhfkkffmlfkbaaWN
import Derived.Test.YtnhfkkffmlfkbaaWFootNe
import Derived.Test.YtnhfkkffmlfkbaaWAt
import Derived.Test.YtnhfkkffmlfkbaaWEqStruct
import Derived.Test.YtnhfkkffmlfkbaaWRepsOne
import Derived.Test.YtnhfkkffmlfkbaaWInv
import Derived.Test.YtnhfkkffmlfkbaaWInvWords
import Derived.Test.YtnhfkkffmlfkbaaWGuard
import Derived.Test.YtnhfkkffmlfkbaaWNEv
import Derived.Test.YtnhfkkffmlfkbaaWMore
namespace Go.Proofs.Ytnhfkkffmlfkbaa.PMixerLearns
open Go.RowKit Go.Proofs.YtnhfkkffmlfkbaaW.PrintWords Go.Proofs.YtnhfkkffmlfkbaaW.PrintLast Go.Proofs.YtnhfkkffmlfkbaaW.PrintMore
attribute [local go_sem] max2_mx min2_mn max_two min_two max_three min_three max_four min_four   -- for this text's walks alone
set_option linter.unusedVariables false
set_option linter.unusedSimpArgs false



def errW : Option Int → Value
  | none => .nilIface
  | some c => .iface 0 (.int .i64 c)
theorem errW_none : errW none = .nilIface := rfl
theorem errW_some (c : Int) : errW (some c) = .iface 0 (.int .i64 c) := rfl

theorem info3 : (Try.prog.info? 3).map (fun i => (i.zero, i.size, i.bytes)) = some (some (.int .i64 0), 1, 8) := by kernel_rfl
-- the values' own types

end Go.Proofs.Ytnhfkkffmlfkbaa.PMixerLearns
