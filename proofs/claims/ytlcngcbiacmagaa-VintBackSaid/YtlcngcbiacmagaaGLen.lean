/- math/bits.Len8 of any byte is the number of its bits; the memory that was there stays. Conditions: the byte is from 0 to 255. -/
import Derived.Test.YtlcngcbiacmagaaProg
import Derived.Below
import Derived.Deep.Draws
import Derived.Deep.AppendLies
import Derived.Maps.AppendAt
import Derived.OwnWalk
import Derived.Laws.BytesArg
import Derived.Laws.MakeOwn
import Derived.Laws.OwnMore
import Derived.Deep.OwnRows
import Derived.Tactics
import Derived.Lib.ConvBytes
import Derived.Laws.Slices
import Derived.WalkKit
import Derived.KernelRfl
import Derived.RowKit3
import Derived.Deep.LoopGhost
import Derived.Deep.QuietTactic
import Derived.BigQuiet
import Derived.WideLaws
import Derived.Deep.DeepCutAuto
import Derived.Deep.CutBlock
import Derived.Deep.RegionHeld3
import Derived.Laws.Rows
import Derived.Lib.AppendStr
import Derived.ArgAppend
import Derived.Laws.IdiomCopy
import Derived.OrdersHeld
import Derived.Laws.BitsLemmas
import Derived.RowKit
import Derived.Test.YtlcngcbiacmagaaWWords
import Derived.Test.YtlcngcbiacmagaaWLast
import Derived.Test.YtlcngcbiacmagaaWTab
import Derived.Test.YtlcngcbiacmagaaWFour
import Derived.Test.YtlcngcbiacmagaaWQPut
import Derived.Test.YtlcngcbiacmagaaWApart
import Derived.Test.YtlcngcbiacmagaaWArr
import Derived.Test.YtlcngcbiacmagaaWZeros
import Derived.Test.YtlcngcbiacmagaaWFoot
import Derived.Test.YtlcngcbiacmagaaWKept
import Derived.Test.YtlcngcbiacmagaaWShare
import Derived.Test.YtlcngcbiacmagaaWN
import Derived.Test.YtlcngcbiacmagaaWFootNe
import Derived.Test.YtlcngcbiacmagaaWAt
import Derived.Test.YtlcngcbiacmagaaWEqStruct
import Derived.Test.YtlcngcbiacmagaaWRepsOne
import Derived.Test.YtlcngcbiacmagaaWInv
import Derived.Test.YtlcngcbiacmagaaWInvWords
import Derived.Test.YtlcngcbiacmagaaWGuard
import Derived.Test.YtlcngcbiacmagaaWNEv
import Derived.Test.YtlcngcbiacmagaaWMore
import Derived.Lib.BitFns
namespace Go.Proofs.Ytlcngcbiacmagaa
open Go.RowKit Go.Proofs.YtlcngcbiacmagaaW.PrintWords Go.Proofs.YtlcngcbiacmagaaW.PrintLast Go.Proofs.YtlcngcbiacmagaaW.PrintMore
def bits_Len8.f (a0 : Int) : Option Int := if 0 ≤ a0 ∧ a0 ≤ 255 then some (Lib.bitLen a0.toNat : Int) else none
set_option maxRecDepth 100000 in
theorem bits_Len8.calls (a0 : Int) (r : Int) (w : World) (h : bits_Len8.f a0 = some r) :
    Calls Try.prog 33 #[.int .u8 a0] w fun e w' => e = .returned (.int .i64 r) ∧ Below w.heap.size w w' := by
  unfold bits_Len8.f at h
  split at h
  · rename_i hx
    obtain ⟨h0, h1⟩ := hx
    have E : Aside0 (wrap64 (Lib.len8 a0) = r) := ⟨by unfold wrap64; exact (Lib.len8_int a0 h0 h1).trans (Option.some.inj h)⟩
    clear h
    go_enter Try.func33, Try.ntmps33
    go_wp2
    go_ret
    refine ⟨?_, Below.refl _ _⟩
    show Ending.returned (.int .i64 (wrap64 (Lib.len8 a0))) = _
    rw [E.out]
  · cases h
end Go.Proofs.Ytlcngcbiacmagaa
