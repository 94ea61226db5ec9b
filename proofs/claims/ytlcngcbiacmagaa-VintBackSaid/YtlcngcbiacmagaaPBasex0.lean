/- Written by this session's program wip/tools/giv.py over the seat's translation: Lean functions of the Go functions named below and the proofs that the calls come to them. Conditions: as each contract states. -/
import Derived.Test.YtlcngcbiacmagaaProg
import Derived.Below
import Derived.Deep.Draws
import Derived.Deep.AppendLies
import Derived.Maps.AppendAt
import Derived.OwnWalk
import Derived.Laws.BytesArg
import Derived.Laws.MakeOwn
import Derived.Laws.OwnMore
import Derived.Deep.OwnRows
import Derived.Tactics
import Derived.Lib.ConvBytes
import Derived.Laws.Slices
import Derived.WalkKit
import Derived.KernelRfl
import Derived.RowKit3
import Derived.Deep.LoopGhost
import Derived.Deep.QuietTactic
import Derived.BigQuiet
import Derived.WideLaws
import Derived.Deep.DeepCutAuto
import Derived.Deep.CutBlock
import Derived.Deep.RegionHeld3
import Derived.Laws.Rows
import Derived.Lib.AppendStr
import Derived.ArgAppend
import Derived.Laws.IdiomCopy
import Derived.OrdersHeld
import Derived.Laws.BitsLemmas
import Derived.RowKit
import Derived.Test.YtlcngcbiacmagaaGMin
import Derived.Test.YtlcngcbiacmagaaGGet
import Derived.Test.YtlcngcbiacmagaaGWord
import Derived.Test.YtlcngcbiacmagaaGBuild
import Derived.Test.YtlcngcbiacmagaaGFld
import Derived.Test.YtlcngcbiacmagaaWWords
import Derived.Test.YtlcngcbiacmagaaWLast
import Derived.Test.YtlcngcbiacmagaaWTab
import Derived.Test.YtlcngcbiacmagaaWFour
import Derived.Test.YtlcngcbiacmagaaWQPut
import Derived.Test.YtlcngcbiacmagaaWApart
import Derived.Test.YtlcngcbiacmagaaWArr
import Derived.Test.YtlcngcbiacmagaaWZeros
import Derived.Test.YtlcngcbiacmagaaWFoot
import Derived.Test.YtlcngcbiacmagaaWKept
import Derived.Test.YtlcngcbiacmagaaWShare
import Derived.Test.YtlcngcbiacmagaaWN
import Derived.Test.YtlcngcbiacmagaaWFootNe
import Derived.Test.YtlcngcbiacmagaaWAt
import Derived.Test.YtlcngcbiacmagaaWEqStruct
import Derived.Test.YtlcngcbiacmagaaWRepsOne
import Derived.Test.YtlcngcbiacmagaaWInv
import Derived.Test.YtlcngcbiacmagaaWInvWords
import Derived.Test.YtlcngcbiacmagaaWGuard
import Derived.Test.YtlcngcbiacmagaaWNEv
import Derived.Test.YtlcngcbiacmagaaWMore
namespace Go.Proofs.Ytlcngcbiacmagaa.PBase
open Go.RowKit Go.Proofs.YtlcngcbiacmagaaW.PrintWords Go.Proofs.YtlcngcbiacmagaaW.PrintLast Go.Proofs.YtlcngcbiacmagaaW.PrintMore
attribute [local go_sem] fld0 fld1 fld2 max2_mx min2_mn max_two min_two max_three min_three max_four min_four   -- for this text's walks alone
set_option linter.unusedVariables false
set_option linter.unusedSimpArgs false



def errW : Option Int → Value
  | none => .nilIface
  | some c => .iface 0 (.int .i64 c)
theorem errW_none : errW none = .nilIface := rfl
theorem errW_some (c : Int) : errW (some c) = .iface 0 (.int .i64 c) := rfl

theorem info2 : (Try.prog.info? 2).map (fun i => (i.zero, i.size, i.bytes)) = some (some (.int .i64 0), 1, 8) := by kernel_rfl
theorem info5 : (Try.prog.info? 5).map (fun i => (i.zero, i.size, i.bytes)) = some (some (.int .u8 0), 1, 1) := by kernel_rfl
-- the values' own types

end Go.Proofs.Ytlcngcbiacmagaa.PBase
