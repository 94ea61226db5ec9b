/-
  No cell of these rows narrows 'for every input' (looked for: loops, veiled, ifaces, maps, wideKeys, modest, calm, conditions, laid).
  DERIVED. THE GIVEN ROWS OF THIS SEAT. 6 by the template 'for every input the law returns true; each argument reads behind the call as it read before'; 0 by the template 'total and deterministic' (their statements: YtnhfkkffmlfkbaaTotals.lean).
  GIVEN WITH THE SEED: the statements are not yours to turn. If you find one false, say at which input.
  Laid BY PROGRAM, IN A SANDBOX (cutbox-rows.mjs): the forced cells as the released guide's own fill.sh prints them over the translation 18c2afc94faa661b… (all of the seat's roots in one cut). By AI agents, Wed Nov 11 2026. No macro, syntax, notation, axiom, sorry.
-/
import Derived.Test.YtnhfkkffmlfkbaaChecked
import GoSem.Claim
import GoSem.ClaimJoined
import GoSem.ClaimMapViews
import Derived.JoinedTies
import Derived.KernelRfl
namespace Go.Proofs.Ytnhfkkffmlfkbaa
/- THE CELL 'sum', in the pinned program and in every row, IS THE sha256 OF THE DUMP (.gsa) THAT YtnhfkkffmlfkbaaProg.lean LOADS. Nothing in Lean hashes anything: it is a label: what it is worth is what the hold of that sum in a sandbox is worth. -/
noncomputable def Try.pinned : Pinned := { name := "ytnhfkkffmlfkbaa", sum := "18c2afc94faa661b40bca1fc7d331716068afaf0eeeedfdc40f1dd4bd72b7273", checked := Try.checked }
namespace Rows
def none {H : Type} : Left H := { results := [], args := [] }

/-- 'wringerlaw16.TreeMoves': WHATEVER THE INPUT: true; the input reads as it did. -/
def treeMovesSpec : ChangeSpec := { name := "treeMoves", fn := fun _ => fun
  | [d1, d2, d3, d4] => { results := [.lit (.bool true)], args := [d1, d2, d3, d4] }
  | _ => none }
def treeMovesRow : OpenClaim := { program := "ytnhfkkffmlfkbaa", sum := "18c2afc94faa661b40bca1fc7d331716068afaf0eeeedfdc40f1dd4bd72b7273", func := "wringer/wringerlaw16.TreeMoves", spec := "treeMoves", apart := false }
def TreeMovesSaid : Prop := treeMovesRow.holds Try.pinned (OpenSpec.ofChange treeMovesSpec)

/-- ITS FALSE NEIGHBOUR: 'it returns false'. Refute it at one input. -/
def treeMovesWrong : ChangeSpec := { name := "treeMoves", fn := fun _ => fun
  | [d1, d2, d3, d4] => { results := [.lit (.bool false)], args := [d1, d2, d3, d4] }
  | _ => none }
def TreeMovesWrongFalsely : Prop := treeMovesRow.holds Try.pinned (OpenSpec.ofChange treeMovesWrong)

/-- 'wringerlaw18.MixerAll': WHATEVER THE INPUT: true; the input reads as it did. -/
def mixerAllSpec : ChangeSpec := { name := "mixerAll", fn := fun _ => fun
  | [d1, d2, d3, d4] => { results := [.lit (.bool true)], args := [d1, d2, d3, d4] }
  | _ => none }
def mixerAllRow : OpenClaim := { program := "ytnhfkkffmlfkbaa", sum := "18c2afc94faa661b40bca1fc7d331716068afaf0eeeedfdc40f1dd4bd72b7273", func := "wringer/wringerlaw18.MixerAll", spec := "mixerAll", recurses := true, apart := false }
def MixerAllSaid : Prop := mixerAllRow.holds Try.pinned (OpenSpec.ofChange mixerAllSpec)

/-- ITS FALSE NEIGHBOUR: 'it returns false'. Refute it at one input. -/
def mixerAllWrong : ChangeSpec := { name := "mixerAll", fn := fun _ => fun
  | [d1, d2, d3, d4] => { results := [.lit (.bool false)], args := [d1, d2, d3, d4] }
  | _ => none }
def MixerAllWrongFalsely : Prop := mixerAllRow.holds Try.pinned (OpenSpec.ofChange mixerAllWrong)

/-- 'wringerlaw18.MixerOne': WHATEVER THE INPUT: true; the input reads as it did. -/
def mixerOneSpec : ChangeSpec := { name := "mixerOne", fn := fun _ => fun
  | [d1, d2, d3, d4] => { results := [.lit (.bool true)], args := [d1, d2, d3, d4] }
  | _ => none }
def mixerOneRow : OpenClaim := { program := "ytnhfkkffmlfkbaa", sum := "18c2afc94faa661b40bca1fc7d331716068afaf0eeeedfdc40f1dd4bd72b7273", func := "wringer/wringerlaw18.MixerOne", spec := "mixerOne", recurses := true, apart := false }
def MixerOneSaid : Prop := mixerOneRow.holds Try.pinned (OpenSpec.ofChange mixerOneSpec)

/-- ITS FALSE NEIGHBOUR: 'it returns false'. Refute it at one input. -/
def mixerOneWrong : ChangeSpec := { name := "mixerOne", fn := fun _ => fun
  | [d1, d2, d3, d4] => { results := [.lit (.bool false)], args := [d1, d2, d3, d4] }
  | _ => none }
def MixerOneWrongFalsely : Prop := mixerOneRow.holds Try.pinned (OpenSpec.ofChange mixerOneWrong)

/-- 'wringerlaw18.MixerLearns': WHATEVER THE INPUT: true; the input reads as it did. -/
def mixerLearnsSpec : ChangeSpec := { name := "mixerLearns", fn := fun _ => fun
  | [d1, d2, d3] => { results := [.lit (.bool true)], args := [d1, d2, d3] }
  | _ => none }
def mixerLearnsRow : OpenClaim := { program := "ytnhfkkffmlfkbaa", sum := "18c2afc94faa661b40bca1fc7d331716068afaf0eeeedfdc40f1dd4bd72b7273", func := "wringer/wringerlaw18.MixerLearns", spec := "mixerLearns", recurses := true, apart := false }
def MixerLearnsSaid : Prop := mixerLearnsRow.holds Try.pinned (OpenSpec.ofChange mixerLearnsSpec)

/-- ITS FALSE NEIGHBOUR: 'it returns false'. Refute it at one input. -/
def mixerLearnsWrong : ChangeSpec := { name := "mixerLearns", fn := fun _ => fun
  | [d1, d2, d3] => { results := [.lit (.bool false)], args := [d1, d2, d3] }
  | _ => none }
def MixerLearnsWrongFalsely : Prop := mixerLearnsRow.holds Try.pinned (OpenSpec.ofChange mixerLearnsWrong)

/-- 'wringerlaw18.MixerCuts': WHATEVER THE INPUT: true; the input reads as it did. -/
def mixerCutsSpec : ChangeSpec := { name := "mixerCuts", fn := fun _ => fun
  | [d1, d2, d3] => { results := [.lit (.bool true)], args := [d1, d2, d3] }
  | _ => none }
def mixerCutsRow : OpenClaim := { program := "ytnhfkkffmlfkbaa", sum := "18c2afc94faa661b40bca1fc7d331716068afaf0eeeedfdc40f1dd4bd72b7273", func := "wringer/wringerlaw18.MixerCuts", spec := "mixerCuts", recurses := true, apart := false }
def MixerCutsSaid : Prop := mixerCutsRow.holds Try.pinned (OpenSpec.ofChange mixerCutsSpec)

/-- ITS FALSE NEIGHBOUR: 'it returns false'. Refute it at one input. -/
def mixerCutsWrong : ChangeSpec := { name := "mixerCuts", fn := fun _ => fun
  | [d1, d2, d3] => { results := [.lit (.bool false)], args := [d1, d2, d3] }
  | _ => none }
def MixerCutsWrongFalsely : Prop := mixerCutsRow.holds Try.pinned (OpenSpec.ofChange mixerCutsWrong)

/-- 'wringerlaw18.MixerSteps': WHATEVER THE INPUT: true; the input reads as it did. -/
def mixerStepsSpec : ChangeSpec := { name := "mixerSteps", fn := fun _ => fun
  | [d1, d2, d3, d4] => { results := [.lit (.bool true)], args := [d1, d2, d3, d4] }
  | _ => none }
def mixerStepsRow : OpenClaim := { program := "ytnhfkkffmlfkbaa", sum := "18c2afc94faa661b40bca1fc7d331716068afaf0eeeedfdc40f1dd4bd72b7273", func := "wringer/wringerlaw18.MixerSteps", spec := "mixerSteps", recurses := true, apart := false }
def MixerStepsSaid : Prop := mixerStepsRow.holds Try.pinned (OpenSpec.ofChange mixerStepsSpec)

/-- ITS FALSE NEIGHBOUR: 'it returns false'. Refute it at one input. -/
def mixerStepsWrong : ChangeSpec := { name := "mixerSteps", fn := fun _ => fun
  | [d1, d2, d3, d4] => { results := [.lit (.bool false)], args := [d1, d2, d3, d4] }
  | _ => none }
def MixerStepsWrongFalsely : Prop := mixerStepsRow.holds Try.pinned (OpenSpec.ofChange mixerStepsWrong)

/- THE SECOND FORM. 'bulk': how many values and letters a reading holds, each counted each time it is reached (what is shared counts as often as it is met; a slice's spare places count too). A statement '..UptoSaid' is the law's where the arguments, and the package variables that the reading takes, are together of bulk at most 1048576: NARROWER than '..Said'. Prove '..Said' where nothing that the law and all that it calls make is longer than what came in: it says more and counts as full. Else prove '..UptoSaid'. A law counts once. -/
mutual
def uptoBulk {H : Type} : DataW H → Nat
  | .lit (.string bytes) => bytes.length + 1
  | .lit _ => 1
  | .nil => 1
  | .ptr d => uptoBulk d + 1
  | .slice elems spare => uptoBulkAll elems + uptoBulkAll spare + 1
  | .agg parts => uptoBulkAll parts + 1
  | .iface _ d => uptoBulk d + 1
  | .map entries => uptoBulkEntries entries + 1
  | .held _ => 1
def uptoBulkAll {H : Type} : List (DataW H) → Nat
  | [] => 0
  | d :: r => uptoBulk d + uptoBulkAll r
def uptoBulkEntries {H : Type} : List (Lit × DataW H) → Nat
  | [] => 0
  | x :: r => uptoBulkEntry x + uptoBulkEntries r
def uptoBulkEntry {H : Type} : Lit × DataW H → Nat
  | (.string bytes, d) => bytes.length + uptoBulk d + 1
  | (_, d) => uptoBulk d + 1
 end
def uptoSmall : (H : Type) → List (DataW H) → Bool := fun _ ds => decide (uptoBulkAll ds ≤ 1048576)
def OpenSpec.upto (s : _root_.Go.ChangeSpec) : _root_.Go.OpenSpec := { _root_.Go.OpenSpec.ofChange s with cond := some uptoSmall }

/-- 'wringerlaw16.TreeMoves', WHERE WHAT IT READS IS OF BULK AT MOST 1048576: true; the input reads as it did. -/
def treeMovesUptoRow : OpenClaim := { program := "ytnhfkkffmlfkbaa", sum := "18c2afc94faa661b40bca1fc7d331716068afaf0eeeedfdc40f1dd4bd72b7273", func := "wringer/wringerlaw16.TreeMoves", spec := "treeMoves", apart := false, narrowed := true }
def TreeMovesUptoSaid : Prop := treeMovesUptoRow.holds Try.pinned (OpenSpec.upto treeMovesSpec)

/-- 'wringerlaw18.MixerAll', WHERE WHAT IT READS IS OF BULK AT MOST 1048576: true; the input reads as it did. -/
def mixerAllUptoRow : OpenClaim := { program := "ytnhfkkffmlfkbaa", sum := "18c2afc94faa661b40bca1fc7d331716068afaf0eeeedfdc40f1dd4bd72b7273", func := "wringer/wringerlaw18.MixerAll", spec := "mixerAll", recurses := true, apart := false, narrowed := true }
def MixerAllUptoSaid : Prop := mixerAllUptoRow.holds Try.pinned (OpenSpec.upto mixerAllSpec)

/-- 'wringerlaw18.MixerOne', WHERE WHAT IT READS IS OF BULK AT MOST 1048576: true; the input reads as it did. -/
def mixerOneUptoRow : OpenClaim := { program := "ytnhfkkffmlfkbaa", sum := "18c2afc94faa661b40bca1fc7d331716068afaf0eeeedfdc40f1dd4bd72b7273", func := "wringer/wringerlaw18.MixerOne", spec := "mixerOne", recurses := true, apart := false, narrowed := true }
def MixerOneUptoSaid : Prop := mixerOneUptoRow.holds Try.pinned (OpenSpec.upto mixerOneSpec)

/-- 'wringerlaw18.MixerLearns', WHERE WHAT IT READS IS OF BULK AT MOST 1048576: true; the input reads as it did. -/
def mixerLearnsUptoRow : OpenClaim := { program := "ytnhfkkffmlfkbaa", sum := "18c2afc94faa661b40bca1fc7d331716068afaf0eeeedfdc40f1dd4bd72b7273", func := "wringer/wringerlaw18.MixerLearns", spec := "mixerLearns", recurses := true, apart := false, narrowed := true }
def MixerLearnsUptoSaid : Prop := mixerLearnsUptoRow.holds Try.pinned (OpenSpec.upto mixerLearnsSpec)

/-- 'wringerlaw18.MixerCuts', WHERE WHAT IT READS IS OF BULK AT MOST 1048576: true; the input reads as it did. -/
def mixerCutsUptoRow : OpenClaim := { program := "ytnhfkkffmlfkbaa", sum := "18c2afc94faa661b40bca1fc7d331716068afaf0eeeedfdc40f1dd4bd72b7273", func := "wringer/wringerlaw18.MixerCuts", spec := "mixerCuts", recurses := true, apart := false, narrowed := true }
def MixerCutsUptoSaid : Prop := mixerCutsUptoRow.holds Try.pinned (OpenSpec.upto mixerCutsSpec)

/-- 'wringerlaw18.MixerSteps', WHERE WHAT IT READS IS OF BULK AT MOST 1048576: true; the input reads as it did. -/
def mixerStepsUptoRow : OpenClaim := { program := "ytnhfkkffmlfkbaa", sum := "18c2afc94faa661b40bca1fc7d331716068afaf0eeeedfdc40f1dd4bd72b7273", func := "wringer/wringerlaw18.MixerSteps", spec := "mixerSteps", recurses := true, apart := false, narrowed := true }
def MixerStepsUptoSaid : Prop := mixerStepsUptoRow.holds Try.pinned (OpenSpec.upto mixerStepsSpec)

end Rows
end Go.Proofs.Ytnhfkkffmlfkbaa
