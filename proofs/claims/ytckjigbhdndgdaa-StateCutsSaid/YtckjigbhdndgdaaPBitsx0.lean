/- Written by this session's program wip/tools/giv.py over the seat's translation: Lean functions of the Go functions named below and the proofs that the calls come to them. Conditions: as each contract states. -/
import Derived.Test.YtckjigbhdndgdaaProg
import Derived.Below
import Derived.Deep.Draws
import Derived.Deep.AppendLies
import Derived.Maps.AppendAt
import Derived.OwnWalk
import Derived.Laws.BytesArg
import Derived.Laws.MakeOwn
import Derived.Laws.OwnMore
import Derived.Deep.OwnRows
import Derived.Tactics
import Derived.Lib.ConvBytes
import Derived.Laws.Slices
import Derived.WalkKit
import Derived.KernelRfl
import Derived.RowKit3
import Derived.Deep.LoopGhost
import Derived.Deep.QuietTactic
import Derived.BigQuiet
import Derived.WideLaws
import Derived.Deep.DeepCutAuto
import Derived.Deep.CutBlock
import Derived.Deep.RegionHeld3
import Derived.Laws.Rows
import Derived.Lib.AppendStr
import Derived.ArgAppend
import Derived.Laws.IdiomCopy
import Derived.OrdersHeld
import Derived.Laws.BitsLemmas
import Derived.RowKit
import Derived.Test.YtckjigbhdndgdaaGMin
import Derived.Test.YtckjigbhdndgdaaWWords
import Derived.Test.YtckjigbhdndgdaaWLast
import Derived.Test.YtckjigbhdndgdaaWTab
import Derived.Test.YtckjigbhdndgdaaWFour
import Derived.Test.YtckjigbhdndgdaaWQPut
import Derived.Test.YtckjigbhdndgdaaWApart
import Derived.Test.YtckjigbhdndgdaaWArr
import Derived.Test.YtckjigbhdndgdaaWZeros
import Derived.Test.YtckjigbhdndgdaaWFoot
import Derived.Test.YtckjigbhdndgdaaWKept
import Derived.Test.YtckjigbhdndgdaaWShare
import Derived.Test.YtckjigbhdndgdaaWN
import Derived.Test.YtckjigbhdndgdaaWFootNe
import Derived.Test.YtckjigbhdndgdaaWAt
import Derived.Test.YtckjigbhdndgdaaWEqStruct
import Derived.Test.YtckjigbhdndgdaaWRepsOne
import Derived.Test.YtckjigbhdndgdaaWInv
import Derived.Test.YtckjigbhdndgdaaWInvWords
import Derived.Test.YtckjigbhdndgdaaWGuard
import Derived.Test.YtckjigbhdndgdaaWNEv
import Derived.Test.YtckjigbhdndgdaaWMore
namespace Go.Proofs.Ytckjigbhdndgdaa.PBits
open Go.RowKit Go.Proofs.YtckjigbhdndgdaaW.PrintWords Go.Proofs.YtckjigbhdndgdaaW.PrintLast Go.Proofs.YtckjigbhdndgdaaW.PrintMore
attribute [local go_sem] max2_mx min2_mn max_two min_two max_three min_three max_four min_four   -- for this text's walks alone
set_option linter.unusedVariables false
set_option linter.unusedSimpArgs false



def errW : Option Int → Value
  | none => .nilIface
  | some c => .iface 0 (.int .i64 c)
theorem errW_none : errW none = .nilIface := rfl
theorem errW_some (c : Int) : errW (some c) = .iface 0 (.int .i64 c) := rfl

-- the values' own types

end Go.Proofs.Ytckjigbhdndgdaa.PBits
