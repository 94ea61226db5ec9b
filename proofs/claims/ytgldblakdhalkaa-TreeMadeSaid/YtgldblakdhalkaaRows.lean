/-
  No cell of these rows narrows 'for every input' (looked for: loops, veiled, ifaces, maps, wideKeys, modest, calm, conditions, laid).
  DERIVED. THE GIVEN ROWS OF THIS SEAT. 11 by the template 'for every input the law returns true; each argument reads behind the call as it read before'; 0 by the template 'total and deterministic' (their statements: YtgldblakdhalkaaTotals.lean).
  GIVEN WITH THE SEED: the statements are not yours to turn. If you find one false, say at which input.
  Laid BY PROGRAM, IN A SANDBOX (cutbox-rows.mjs): the forced cells as the released guide's own fill.sh prints them over the translation 55af5051e7ba903a… (all of the seat's roots in one cut). By AI agents, Wed Nov 11 2026. No macro, syntax, notation, axiom, sorry.
-/
import Derived.Test.YtgldblakdhalkaaChecked
import GoSem.Claim
import GoSem.ClaimJoined
import GoSem.ClaimMapViews
import Derived.JoinedTies
import Derived.KernelRfl
namespace Go.Proofs.Ytgldblakdhalkaa
/- THE CELL 'sum', in the pinned program and in every row, IS THE sha256 OF THE DUMP (.gsa) THAT YtgldblakdhalkaaProg.lean LOADS. Nothing in Lean hashes anything: it is a label: what it is worth is what the hold of that sum in a sandbox is worth. -/
noncomputable def Try.pinned : Pinned := { name := "ytgldblakdhalkaa", sum := "55af5051e7ba903afcd8c63d9a55efcefde6efbb6af3d82e9f779dee80de9178", checked := Try.checked }
namespace Rows
def none {H : Type} : Left H := { results := [], args := [] }

/-- 'wringerlaw16.TreeRefuses': WHATEVER THE INPUT: true; the input reads as it did. -/
def treeRefusesSpec : ChangeSpec := { name := "treeRefuses", fn := fun _ => fun
  | [d1, d2, d3] => { results := [.lit (.bool true)], args := [d1, d2, d3] }
  | _ => none }
def treeRefusesRow : OpenClaim := { program := "ytgldblakdhalkaa", sum := "55af5051e7ba903afcd8c63d9a55efcefde6efbb6af3d82e9f779dee80de9178", func := "wringer/wringerlaw16.TreeRefuses", spec := "treeRefuses", unfollowed := true, recurses := true, apart := false }
def TreeRefusesSaid : Prop := treeRefusesRow.holds Try.pinned (OpenSpec.ofChange treeRefusesSpec)

/-- ITS FALSE NEIGHBOUR: 'it returns false'. Refute it at one input. -/
def treeRefusesWrong : ChangeSpec := { name := "treeRefuses", fn := fun _ => fun
  | [d1, d2, d3] => { results := [.lit (.bool false)], args := [d1, d2, d3] }
  | _ => none }
def TreeRefusesWrongFalsely : Prop := treeRefusesRow.holds Try.pinned (OpenSpec.ofChange treeRefusesWrong)

/-- 'wringerlaw16.TreeShifts': WHATEVER THE INPUT: true; the input reads as it did. -/
def treeShiftsSpec : ChangeSpec := { name := "treeShifts", fn := fun _ => fun
  | [d] => { results := [.lit (.bool true)], args := [d] }
  | _ => none }
def treeShiftsRow : OpenClaim := { program := "ytgldblakdhalkaa", sum := "55af5051e7ba903afcd8c63d9a55efcefde6efbb6af3d82e9f779dee80de9178", func := "wringer/wringerlaw16.TreeShifts", spec := "treeShifts", unfollowed := true, recurses := true, apart := false }
def TreeShiftsSaid : Prop := treeShiftsRow.holds Try.pinned (OpenSpec.ofChange treeShiftsSpec)

/-- ITS FALSE NEIGHBOUR: 'it returns false'. Refute it at one input. -/
def treeShiftsWrong : ChangeSpec := { name := "treeShifts", fn := fun _ => fun
  | [d] => { results := [.lit (.bool false)], args := [d] }
  | _ => none }
def TreeShiftsWrongFalsely : Prop := treeShiftsRow.holds Try.pinned (OpenSpec.ofChange treeShiftsWrong)

/-- 'wringerlaw15.ChancePut': WHATEVER THE INPUT: true; the input reads as it did. -/
def chancePutSpec : ChangeSpec := { name := "chancePut", fn := fun _ => fun
  | [d] => { results := [.lit (.bool true)], args := [d] }
  | _ => none }
def chancePutRow : OpenClaim := { program := "ytgldblakdhalkaa", sum := "55af5051e7ba903afcd8c63d9a55efcefde6efbb6af3d82e9f779dee80de9178", func := "wringer/wringerlaw15.ChancePut", spec := "chancePut", apart := false }
def ChancePutSaid : Prop := chancePutRow.holds Try.pinned (OpenSpec.ofChange chancePutSpec)

/-- ITS FALSE NEIGHBOUR: 'it returns false'. Refute it at one input. -/
def chancePutWrong : ChangeSpec := { name := "chancePut", fn := fun _ => fun
  | [d] => { results := [.lit (.bool false)], args := [d] }
  | _ => none }
def ChancePutWrongFalsely : Prop := chancePutRow.holds Try.pinned (OpenSpec.ofChange chancePutWrong)

/-- 'wringerlaw15.ChanceGet': WHATEVER THE INPUT: true; the input reads as it did. -/
def chanceGetSpec : ChangeSpec := { name := "chanceGet", fn := fun _ => fun
  | [d1, d2] => { results := [.lit (.bool true)], args := [d1, d2] }
  | _ => none }
def chanceGetRow : OpenClaim := { program := "ytgldblakdhalkaa", sum := "55af5051e7ba903afcd8c63d9a55efcefde6efbb6af3d82e9f779dee80de9178", func := "wringer/wringerlaw15.ChanceGet", spec := "chanceGet", apart := false }
def ChanceGetSaid : Prop := chanceGetRow.holds Try.pinned (OpenSpec.ofChange chanceGetSpec)

/-- ITS FALSE NEIGHBOUR: 'it returns false'. Refute it at one input. -/
def chanceGetWrong : ChangeSpec := { name := "chanceGet", fn := fun _ => fun
  | [d1, d2] => { results := [.lit (.bool false)], args := [d1, d2] }
  | _ => none }
def ChanceGetWrongFalsely : Prop := chanceGetRow.holds Try.pinned (OpenSpec.ofChange chanceGetWrong)

/-- 'wringerlaw15.ChanceMore': WHATEVER THE INPUT: true; the input reads as it did. -/
def chanceMoreSpec : ChangeSpec := { name := "chanceMore", fn := fun _ => fun
  | [d1, d2, d3] => { results := [.lit (.bool true)], args := [d1, d2, d3] }
  | _ => none }
def chanceMoreRow : OpenClaim := { program := "ytgldblakdhalkaa", sum := "55af5051e7ba903afcd8c63d9a55efcefde6efbb6af3d82e9f779dee80de9178", func := "wringer/wringerlaw15.ChanceMore", spec := "chanceMore", apart := false }
def ChanceMoreSaid : Prop := chanceMoreRow.holds Try.pinned (OpenSpec.ofChange chanceMoreSpec)

/-- ITS FALSE NEIGHBOUR: 'it returns false'. Refute it at one input. -/
def chanceMoreWrong : ChangeSpec := { name := "chanceMore", fn := fun _ => fun
  | [d1, d2, d3] => { results := [.lit (.bool false)], args := [d1, d2, d3] }
  | _ => none }
def ChanceMoreWrongFalsely : Prop := chanceMoreRow.holds Try.pinned (OpenSpec.ofChange chanceMoreWrong)

/-- 'wringerlaw15.ChanceBack': WHATEVER THE INPUT: true; the input reads as it did. -/
def chanceBackSpec : ChangeSpec := { name := "chanceBack", fn := fun _ => fun
  | [d1, d2, d3] => { results := [.lit (.bool true)], args := [d1, d2, d3] }
  | _ => none }
def chanceBackRow : OpenClaim := { program := "ytgldblakdhalkaa", sum := "55af5051e7ba903afcd8c63d9a55efcefde6efbb6af3d82e9f779dee80de9178", func := "wringer/wringerlaw15.ChanceBack", spec := "chanceBack", apart := false }
def ChanceBackSaid : Prop := chanceBackRow.holds Try.pinned (OpenSpec.ofChange chanceBackSpec)

/-- ITS FALSE NEIGHBOUR: 'it returns false'. Refute it at one input. -/
def chanceBackWrong : ChangeSpec := { name := "chanceBack", fn := fun _ => fun
  | [d1, d2, d3] => { results := [.lit (.bool false)], args := [d1, d2, d3] }
  | _ => none }
def ChanceBackWrongFalsely : Prop := chanceBackRow.holds Try.pinned (OpenSpec.ofChange chanceBackWrong)

/-- 'wringerlaw15.ChanceLong': WHATEVER THE INPUT: true; the input reads as it did. -/
def chanceLongSpec : ChangeSpec := { name := "chanceLong", fn := fun _ => fun
  | [d1, d2] => { results := [.lit (.bool true)], args := [d1, d2] }
  | _ => none }
def chanceLongRow : OpenClaim := { program := "ytgldblakdhalkaa", sum := "55af5051e7ba903afcd8c63d9a55efcefde6efbb6af3d82e9f779dee80de9178", func := "wringer/wringerlaw15.ChanceLong", spec := "chanceLong", apart := false }
def ChanceLongSaid : Prop := chanceLongRow.holds Try.pinned (OpenSpec.ofChange chanceLongSpec)

/-- ITS FALSE NEIGHBOUR: 'it returns false'. Refute it at one input. -/
def chanceLongWrong : ChangeSpec := { name := "chanceLong", fn := fun _ => fun
  | [d1, d2] => { results := [.lit (.bool false)], args := [d1, d2] }
  | _ => none }
def ChanceLongWrongFalsely : Prop := chanceLongRow.holds Try.pinned (OpenSpec.ofChange chanceLongWrong)

/-- 'wringerlaw15.ChanceFirst': WHATEVER THE INPUT: true; the input reads as it did. -/
def chanceFirstSpec : ChangeSpec := { name := "chanceFirst", fn := fun _ => fun
  | [d1, d2] => { results := [.lit (.bool true)], args := [d1, d2] }
  | _ => none }
def chanceFirstRow : OpenClaim := { program := "ytgldblakdhalkaa", sum := "55af5051e7ba903afcd8c63d9a55efcefde6efbb6af3d82e9f779dee80de9178", func := "wringer/wringerlaw15.ChanceFirst", spec := "chanceFirst", apart := false }
def ChanceFirstSaid : Prop := chanceFirstRow.holds Try.pinned (OpenSpec.ofChange chanceFirstSpec)

/-- ITS FALSE NEIGHBOUR: 'it returns false'. Refute it at one input. -/
def chanceFirstWrong : ChangeSpec := { name := "chanceFirst", fn := fun _ => fun
  | [d1, d2] => { results := [.lit (.bool false)], args := [d1, d2] }
  | _ => none }
def ChanceFirstWrongFalsely : Prop := chanceFirstRow.holds Try.pinned (OpenSpec.ofChange chanceFirstWrong)

/-- 'wringerlaw16.TreeAll': WHATEVER THE INPUT: true; the input reads as it did. -/
def treeAllSpec : ChangeSpec := { name := "treeAll", fn := fun _ => fun
  | [d1, d2, d3, d4, d5, d6, d7] => { results := [.lit (.bool true)], args := [d1, d2, d3, d4, d5, d6, d7] }
  | _ => none }
def treeAllRow : OpenClaim := { program := "ytgldblakdhalkaa", sum := "55af5051e7ba903afcd8c63d9a55efcefde6efbb6af3d82e9f779dee80de9178", func := "wringer/wringerlaw16.TreeAll", spec := "treeAll", unfollowed := true, recurses := true, apart := false }
def TreeAllSaid : Prop := treeAllRow.holds Try.pinned (OpenSpec.ofChange treeAllSpec)

/-- ITS FALSE NEIGHBOUR: 'it returns false'. Refute it at one input. -/
def treeAllWrong : ChangeSpec := { name := "treeAll", fn := fun _ => fun
  | [d1, d2, d3, d4, d5, d6, d7] => { results := [.lit (.bool false)], args := [d1, d2, d3, d4, d5, d6, d7] }
  | _ => none }
def TreeAllWrongFalsely : Prop := treeAllRow.holds Try.pinned (OpenSpec.ofChange treeAllWrong)

/-- 'wringerlaw16.TreeMade': WHATEVER THE INPUT: true; the input reads as it did. -/
def treeMadeSpec : ChangeSpec := { name := "treeMade", fn := fun _ => fun
  | [d1, d2, d3, d4, d5] => { results := [.lit (.bool true)], args := [d1, d2, d3, d4, d5] }
  | _ => none }
def treeMadeRow : OpenClaim := { program := "ytgldblakdhalkaa", sum := "55af5051e7ba903afcd8c63d9a55efcefde6efbb6af3d82e9f779dee80de9178", func := "wringer/wringerlaw16.TreeMade", spec := "treeMade", unfollowed := true, recurses := true, apart := false }
def TreeMadeSaid : Prop := treeMadeRow.holds Try.pinned (OpenSpec.ofChange treeMadeSpec)

/-- ITS FALSE NEIGHBOUR: 'it returns false'. Refute it at one input. -/
def treeMadeWrong : ChangeSpec := { name := "treeMade", fn := fun _ => fun
  | [d1, d2, d3, d4, d5] => { results := [.lit (.bool false)], args := [d1, d2, d3, d4, d5] }
  | _ => none }
def TreeMadeWrongFalsely : Prop := treeMadeRow.holds Try.pinned (OpenSpec.ofChange treeMadeWrong)

/-- 'wringerlaw16.TreeBack': WHATEVER THE INPUT: true; the input reads as it did. -/
def treeBackSpec : ChangeSpec := { name := "treeBack", fn := fun _ => fun
  | [d1, d2, d3, d4] => { results := [.lit (.bool true)], args := [d1, d2, d3, d4] }
  | _ => none }
def treeBackRow : OpenClaim := { program := "ytgldblakdhalkaa", sum := "55af5051e7ba903afcd8c63d9a55efcefde6efbb6af3d82e9f779dee80de9178", func := "wringer/wringerlaw16.TreeBack", spec := "treeBack", unfollowed := true, recurses := true, apart := false }
def TreeBackSaid : Prop := treeBackRow.holds Try.pinned (OpenSpec.ofChange treeBackSpec)

/-- ITS FALSE NEIGHBOUR: 'it returns false'. Refute it at one input. -/
def treeBackWrong : ChangeSpec := { name := "treeBack", fn := fun _ => fun
  | [d1, d2, d3, d4] => { results := [.lit (.bool false)], args := [d1, d2, d3, d4] }
  | _ => none }
def TreeBackWrongFalsely : Prop := treeBackRow.holds Try.pinned (OpenSpec.ofChange treeBackWrong)

/- THE SECOND FORM. 'bulk': how many values and letters a reading holds, each counted each time it is reached (what is shared counts as often as it is met; a slice's spare places count too). A statement '..UptoSaid' is the law's where the arguments, and the package variables that the reading takes, are together of bulk at most 1048576: NARROWER than '..Said'. Prove '..Said' where nothing that the law and all that it calls make is longer than what came in: it says more and counts as full. Else prove '..UptoSaid'. A law counts once. -/
mutual
def uptoBulk {H : Type} : DataW H → Nat
  | .lit (.string bytes) => bytes.length + 1
  | .lit _ => 1
  | .nil => 1
  | .ptr d => uptoBulk d + 1
  | .slice elems spare => uptoBulkAll elems + uptoBulkAll spare + 1
  | .agg parts => uptoBulkAll parts + 1
  | .iface _ d => uptoBulk d + 1
  | .map entries => uptoBulkEntries entries + 1
  | .held _ => 1
def uptoBulkAll {H : Type} : List (DataW H) → Nat
  | [] => 0
  | d :: r => uptoBulk d + uptoBulkAll r
def uptoBulkEntries {H : Type} : List (Lit × DataW H) → Nat
  | [] => 0
  | x :: r => uptoBulkEntry x + uptoBulkEntries r
def uptoBulkEntry {H : Type} : Lit × DataW H → Nat
  | (.string bytes, d) => bytes.length + uptoBulk d + 1
  | (_, d) => uptoBulk d + 1
 end
def uptoSmall : (H : Type) → List (DataW H) → Bool := fun _ ds => decide (uptoBulkAll ds ≤ 1048576)
def OpenSpec.upto (s : _root_.Go.ChangeSpec) : _root_.Go.OpenSpec := { _root_.Go.OpenSpec.ofChange s with cond := some uptoSmall }

/-- 'wringerlaw16.TreeRefuses', WHERE WHAT IT READS IS OF BULK AT MOST 1048576: true; the input reads as it did. -/
def treeRefusesUptoRow : OpenClaim := { program := "ytgldblakdhalkaa", sum := "55af5051e7ba903afcd8c63d9a55efcefde6efbb6af3d82e9f779dee80de9178", func := "wringer/wringerlaw16.TreeRefuses", spec := "treeRefuses", unfollowed := true, recurses := true, apart := false, narrowed := true }
def TreeRefusesUptoSaid : Prop := treeRefusesUptoRow.holds Try.pinned (OpenSpec.upto treeRefusesSpec)

/-- 'wringerlaw16.TreeShifts', WHERE WHAT IT READS IS OF BULK AT MOST 1048576: true; the input reads as it did. -/
def treeShiftsUptoRow : OpenClaim := { program := "ytgldblakdhalkaa", sum := "55af5051e7ba903afcd8c63d9a55efcefde6efbb6af3d82e9f779dee80de9178", func := "wringer/wringerlaw16.TreeShifts", spec := "treeShifts", unfollowed := true, recurses := true, apart := false, narrowed := true }
def TreeShiftsUptoSaid : Prop := treeShiftsUptoRow.holds Try.pinned (OpenSpec.upto treeShiftsSpec)

/-- 'wringerlaw15.ChancePut', WHERE WHAT IT READS IS OF BULK AT MOST 1048576: true; the input reads as it did. -/
def chancePutUptoRow : OpenClaim := { program := "ytgldblakdhalkaa", sum := "55af5051e7ba903afcd8c63d9a55efcefde6efbb6af3d82e9f779dee80de9178", func := "wringer/wringerlaw15.ChancePut", spec := "chancePut", apart := false, narrowed := true }
def ChancePutUptoSaid : Prop := chancePutUptoRow.holds Try.pinned (OpenSpec.upto chancePutSpec)

/-- 'wringerlaw15.ChanceGet', WHERE WHAT IT READS IS OF BULK AT MOST 1048576: true; the input reads as it did. -/
def chanceGetUptoRow : OpenClaim := { program := "ytgldblakdhalkaa", sum := "55af5051e7ba903afcd8c63d9a55efcefde6efbb6af3d82e9f779dee80de9178", func := "wringer/wringerlaw15.ChanceGet", spec := "chanceGet", apart := false, narrowed := true }
def ChanceGetUptoSaid : Prop := chanceGetUptoRow.holds Try.pinned (OpenSpec.upto chanceGetSpec)

/-- 'wringerlaw15.ChanceMore', WHERE WHAT IT READS IS OF BULK AT MOST 1048576: true; the input reads as it did. -/
def chanceMoreUptoRow : OpenClaim := { program := "ytgldblakdhalkaa", sum := "55af5051e7ba903afcd8c63d9a55efcefde6efbb6af3d82e9f779dee80de9178", func := "wringer/wringerlaw15.ChanceMore", spec := "chanceMore", apart := false, narrowed := true }
def ChanceMoreUptoSaid : Prop := chanceMoreUptoRow.holds Try.pinned (OpenSpec.upto chanceMoreSpec)

/-- 'wringerlaw15.ChanceBack', WHERE WHAT IT READS IS OF BULK AT MOST 1048576: true; the input reads as it did. -/
def chanceBackUptoRow : OpenClaim := { program := "ytgldblakdhalkaa", sum := "55af5051e7ba903afcd8c63d9a55efcefde6efbb6af3d82e9f779dee80de9178", func := "wringer/wringerlaw15.ChanceBack", spec := "chanceBack", apart := false, narrowed := true }
def ChanceBackUptoSaid : Prop := chanceBackUptoRow.holds Try.pinned (OpenSpec.upto chanceBackSpec)

/-- 'wringerlaw15.ChanceLong', WHERE WHAT IT READS IS OF BULK AT MOST 1048576: true; the input reads as it did. -/
def chanceLongUptoRow : OpenClaim := { program := "ytgldblakdhalkaa", sum := "55af5051e7ba903afcd8c63d9a55efcefde6efbb6af3d82e9f779dee80de9178", func := "wringer/wringerlaw15.ChanceLong", spec := "chanceLong", apart := false, narrowed := true }
def ChanceLongUptoSaid : Prop := chanceLongUptoRow.holds Try.pinned (OpenSpec.upto chanceLongSpec)

/-- 'wringerlaw15.ChanceFirst', WHERE WHAT IT READS IS OF BULK AT MOST 1048576: true; the input reads as it did. -/
def chanceFirstUptoRow : OpenClaim := { program := "ytgldblakdhalkaa", sum := "55af5051e7ba903afcd8c63d9a55efcefde6efbb6af3d82e9f779dee80de9178", func := "wringer/wringerlaw15.ChanceFirst", spec := "chanceFirst", apart := false, narrowed := true }
def ChanceFirstUptoSaid : Prop := chanceFirstUptoRow.holds Try.pinned (OpenSpec.upto chanceFirstSpec)

/-- 'wringerlaw16.TreeAll', WHERE WHAT IT READS IS OF BULK AT MOST 1048576: true; the input reads as it did. -/
def treeAllUptoRow : OpenClaim := { program := "ytgldblakdhalkaa", sum := "55af5051e7ba903afcd8c63d9a55efcefde6efbb6af3d82e9f779dee80de9178", func := "wringer/wringerlaw16.TreeAll", spec := "treeAll", unfollowed := true, recurses := true, apart := false, narrowed := true }
def TreeAllUptoSaid : Prop := treeAllUptoRow.holds Try.pinned (OpenSpec.upto treeAllSpec)

/-- 'wringerlaw16.TreeMade', WHERE WHAT IT READS IS OF BULK AT MOST 1048576: true; the input reads as it did. -/
def treeMadeUptoRow : OpenClaim := { program := "ytgldblakdhalkaa", sum := "55af5051e7ba903afcd8c63d9a55efcefde6efbb6af3d82e9f779dee80de9178", func := "wringer/wringerlaw16.TreeMade", spec := "treeMade", unfollowed := true, recurses := true, apart := false, narrowed := true }
def TreeMadeUptoSaid : Prop := treeMadeUptoRow.holds Try.pinned (OpenSpec.upto treeMadeSpec)

/-- 'wringerlaw16.TreeBack', WHERE WHAT IT READS IS OF BULK AT MOST 1048576: true; the input reads as it did. -/
def treeBackUptoRow : OpenClaim := { program := "ytgldblakdhalkaa", sum := "55af5051e7ba903afcd8c63d9a55efcefde6efbb6af3d82e9f779dee80de9178", func := "wringer/wringerlaw16.TreeBack", spec := "treeBack", unfollowed := true, recurses := true, apart := false, narrowed := true }
def TreeBackUptoSaid : Prop := treeBackUptoRow.holds Try.pinned (OpenSpec.upto treeBackSpec)

end Rows
end Go.Proofs.Ytgldblakdhalkaa
