/-
  No cell of these rows narrows 'for every input' (looked for: loops, veiled, ifaces, maps, wideKeys, modest, calm, conditions, laid).
  DERIVED. THE GIVEN ROWS OF THIS SEAT. 8 by the template 'for every input the law returns true; each argument reads behind the call as it read before'; 0 by the template 'total and deterministic' (their statements: YtckjigbhdndgdaaTotals.lean).
  GIVEN WITH THE SEED: the statements are not yours to turn. If you find one false, say at which input.
  Laid BY PROGRAM, IN A SANDBOX (cutbox-rows.mjs): the forced cells as the released guide's own fill.sh prints them over the translation 80527c487087188a… (all of the seat's roots in one cut). By AI agents, Wed Nov 11 2026. No macro, syntax, notation, axiom, sorry.
-/
import Derived.Test.YtckjigbhdndgdaaChecked
import GoSem.Claim
import GoSem.ClaimJoined
import GoSem.ClaimMapViews
import Derived.JoinedTies
import Derived.KernelRfl
namespace Go.Proofs.Ytckjigbhdndgdaa
/- THE CELL 'sum', in the pinned program and in every row, IS THE sha256 OF THE DUMP (.gsa) THAT YtckjigbhdndgdaaProg.lean LOADS. Nothing in Lean hashes anything: it is a label: what it is worth is what the hold of that sum in a sandbox is worth. -/
noncomputable def Try.pinned : Pinned := { name := "ytckjigbhdndgdaa", sum := "80527c487087188a84b4e43b3d0cb508487dd82566b8b2f7d613f18e00544654", checked := Try.checked }
namespace Rows
def none {H : Type} : Left H := { results := [], args := [] }

/-- 'wringerlaw5.XxhAll': WHATEVER THE INPUT: true; the input reads as it did. -/
def xxhAllSpec : ChangeSpec := { name := "xxhAll", fn := fun _ => fun
  | [d1, d2, d3, d4] => { results := [.lit (.bool true)], args := [d1, d2, d3, d4] }
  | _ => none }
def xxhAllRow : OpenClaim := { program := "ytckjigbhdndgdaa", sum := "80527c487087188a84b4e43b3d0cb508487dd82566b8b2f7d613f18e00544654", func := "wringer/wringerlaw5.XxhAll", spec := "xxhAll", unfollowed := true, recurses := true, apart := false }
def XxhAllSaid : Prop := xxhAllRow.holds Try.pinned (OpenSpec.ofChange xxhAllSpec)

/-- ITS FALSE NEIGHBOUR: 'it returns false'. Refute it at one input. -/
def xxhAllWrong : ChangeSpec := { name := "xxhAll", fn := fun _ => fun
  | [d1, d2, d3, d4] => { results := [.lit (.bool false)], args := [d1, d2, d3, d4] }
  | _ => none }
def XxhAllWrongFalsely : Prop := xxhAllRow.holds Try.pinned (OpenSpec.ofChange xxhAllWrong)

/-- 'wringerlaw5.XxhKnown': WHATEVER THE INPUT: true; the input reads as it did. -/
def xxhKnownSpec : ChangeSpec := { name := "xxhKnown", fn := fun _ => fun
  | [d] => { results := [.lit (.bool true)], args := [d] }
  | _ => none }
def xxhKnownRow : OpenClaim := { program := "ytckjigbhdndgdaa", sum := "80527c487087188a84b4e43b3d0cb508487dd82566b8b2f7d613f18e00544654", func := "wringer/wringerlaw5.XxhKnown", spec := "xxhKnown", unfollowed := true, recurses := true, apart := false }
def XxhKnownSaid : Prop := xxhKnownRow.holds Try.pinned (OpenSpec.ofChange xxhKnownSpec)

/-- ITS FALSE NEIGHBOUR: 'it returns false'. Refute it at one input. -/
def xxhKnownWrong : ChangeSpec := { name := "xxhKnown", fn := fun _ => fun
  | [d] => { results := [.lit (.bool false)], args := [d] }
  | _ => none }
def XxhKnownWrongFalsely : Prop := xxhKnownRow.holds Try.pinned (OpenSpec.ofChange xxhKnownWrong)

/-- 'wringerlaw5.XxhSteps': WHATEVER THE INPUT: true; the input reads as it did. -/
def xxhStepsSpec : ChangeSpec := { name := "xxhSteps", fn := fun _ => fun
  | [d1, d2, d3] => { results := [.lit (.bool true)], args := [d1, d2, d3] }
  | _ => none }
def xxhStepsRow : OpenClaim := { program := "ytckjigbhdndgdaa", sum := "80527c487087188a84b4e43b3d0cb508487dd82566b8b2f7d613f18e00544654", func := "wringer/wringerlaw5.XxhSteps", spec := "xxhSteps", unfollowed := true, recurses := true, apart := false }
def XxhStepsSaid : Prop := xxhStepsRow.holds Try.pinned (OpenSpec.ofChange xxhStepsSpec)

/-- ITS FALSE NEIGHBOUR: 'it returns false'. Refute it at one input. -/
def xxhStepsWrong : ChangeSpec := { name := "xxhSteps", fn := fun _ => fun
  | [d1, d2, d3] => { results := [.lit (.bool false)], args := [d1, d2, d3] }
  | _ => none }
def XxhStepsWrongFalsely : Prop := xxhStepsRow.holds Try.pinned (OpenSpec.ofChange xxhStepsWrong)

/-- 'wringerlaw5.XxhLast': WHATEVER THE INPUT: true; the input reads as it did. -/
def xxhLastSpec : ChangeSpec := { name := "xxhLast", fn := fun _ => fun
  | [d1, d2, d3, d4, d5] => { results := [.lit (.bool true)], args := [d1, d2, d3, d4, d5] }
  | _ => none }
def xxhLastRow : OpenClaim := { program := "ytckjigbhdndgdaa", sum := "80527c487087188a84b4e43b3d0cb508487dd82566b8b2f7d613f18e00544654", func := "wringer/wringerlaw5.XxhLast", spec := "xxhLast", unfollowed := true, recurses := true, apart := false }
def XxhLastSaid : Prop := xxhLastRow.holds Try.pinned (OpenSpec.ofChange xxhLastSpec)

/-- ITS FALSE NEIGHBOUR: 'it returns false'. Refute it at one input. -/
def xxhLastWrong : ChangeSpec := { name := "xxhLast", fn := fun _ => fun
  | [d1, d2, d3, d4, d5] => { results := [.lit (.bool false)], args := [d1, d2, d3, d4, d5] }
  | _ => none }
def XxhLastWrongFalsely : Prop := xxhLastRow.holds Try.pinned (OpenSpec.ofChange xxhLastWrong)

/-- 'wringerlaw5.XxhFew': WHATEVER THE INPUT: true; the input reads as it did. -/
def xxhFewSpec : ChangeSpec := { name := "xxhFew", fn := fun _ => fun
  | [d] => { results := [.lit (.bool true)], args := [d] }
  | _ => none }
def xxhFewRow : OpenClaim := { program := "ytckjigbhdndgdaa", sum := "80527c487087188a84b4e43b3d0cb508487dd82566b8b2f7d613f18e00544654", func := "wringer/wringerlaw5.XxhFew", spec := "xxhFew", unfollowed := true, recurses := true, apart := false }
def XxhFewSaid : Prop := xxhFewRow.holds Try.pinned (OpenSpec.ofChange xxhFewSpec)

/-- ITS FALSE NEIGHBOUR: 'it returns false'. Refute it at one input. -/
def xxhFewWrong : ChangeSpec := { name := "xxhFew", fn := fun _ => fun
  | [d] => { results := [.lit (.bool false)], args := [d] }
  | _ => none }
def XxhFewWrongFalsely : Prop := xxhFewRow.holds Try.pinned (OpenSpec.ofChange xxhFewWrong)

/-- 'wringerlaw6.StateAll': WHATEVER THE INPUT: true; the input reads as it did. -/
def stateAllSpec : ChangeSpec := { name := "stateAll", fn := fun _ => fun
  | [d1, d2] => { results := [.lit (.bool true)], args := [d1, d2] }
  | _ => none }
def stateAllRow : OpenClaim := { program := "ytckjigbhdndgdaa", sum := "80527c487087188a84b4e43b3d0cb508487dd82566b8b2f7d613f18e00544654", func := "wringer/wringerlaw6.StateAll", spec := "stateAll", unfollowed := true, recurses := true, apart := false }
def StateAllSaid : Prop := stateAllRow.holds Try.pinned (OpenSpec.ofChange stateAllSpec)

/-- ITS FALSE NEIGHBOUR: 'it returns false'. Refute it at one input. -/
def stateAllWrong : ChangeSpec := { name := "stateAll", fn := fun _ => fun
  | [d1, d2] => { results := [.lit (.bool false)], args := [d1, d2] }
  | _ => none }
def StateAllWrongFalsely : Prop := stateAllRow.holds Try.pinned (OpenSpec.ofChange stateAllWrong)

/-- 'wringerlaw6.StateCuts': WHATEVER THE INPUT: true; the input reads as it did. -/
def stateCutsSpec : ChangeSpec := { name := "stateCuts", fn := fun _ => fun
  | [d1, d2, d3] => { results := [.lit (.bool true)], args := [d1, d2, d3] }
  | _ => none }
def stateCutsRow : OpenClaim := { program := "ytckjigbhdndgdaa", sum := "80527c487087188a84b4e43b3d0cb508487dd82566b8b2f7d613f18e00544654", func := "wringer/wringerlaw6.StateCuts", spec := "stateCuts", unfollowed := true, recurses := true, apart := false }
def StateCutsSaid : Prop := stateCutsRow.holds Try.pinned (OpenSpec.ofChange stateCutsSpec)

/-- ITS FALSE NEIGHBOUR: 'it returns false'. Refute it at one input. -/
def stateCutsWrong : ChangeSpec := { name := "stateCuts", fn := fun _ => fun
  | [d1, d2, d3] => { results := [.lit (.bool false)], args := [d1, d2, d3] }
  | _ => none }
def StateCutsWrongFalsely : Prop := stateCutsRow.holds Try.pinned (OpenSpec.ofChange stateCutsWrong)

/-- 'wringerlaw6.StateAgain': WHATEVER THE INPUT: true; the input reads as it did. -/
def stateAgainSpec : ChangeSpec := { name := "stateAgain", fn := fun _ => fun
  | [d1, d2, d3] => { results := [.lit (.bool true)], args := [d1, d2, d3] }
  | _ => none }
def stateAgainRow : OpenClaim := { program := "ytckjigbhdndgdaa", sum := "80527c487087188a84b4e43b3d0cb508487dd82566b8b2f7d613f18e00544654", func := "wringer/wringerlaw6.StateAgain", spec := "stateAgain", unfollowed := true, recurses := true, apart := false }
def StateAgainSaid : Prop := stateAgainRow.holds Try.pinned (OpenSpec.ofChange stateAgainSpec)

/-- ITS FALSE NEIGHBOUR: 'it returns false'. Refute it at one input. -/
def stateAgainWrong : ChangeSpec := { name := "stateAgain", fn := fun _ => fun
  | [d1, d2, d3] => { results := [.lit (.bool false)], args := [d1, d2, d3] }
  | _ => none }
def StateAgainWrongFalsely : Prop := stateAgainRow.holds Try.pinned (OpenSpec.ofChange stateAgainWrong)

/- THE SECOND FORM. 'bulk': how many values and letters a reading holds, each counted each time it is reached (what is shared counts as often as it is met; a slice's spare places count too). A statement '..UptoSaid' is the law's where the arguments, and the package variables that the reading takes, are together of bulk at most 1048576: NARROWER than '..Said'. Prove '..Said' where nothing that the law and all that it calls make is longer than what came in: it says more and counts as full. Else prove '..UptoSaid'. A law counts once. -/
mutual
def uptoBulk {H : Type} : DataW H → Nat
  | .lit (.string bytes) => bytes.length + 1
  | .lit _ => 1
  | .nil => 1
  | .ptr d => uptoBulk d + 1
  | .slice elems spare => uptoBulkAll elems + uptoBulkAll spare + 1
  | .agg parts => uptoBulkAll parts + 1
  | .iface _ d => uptoBulk d + 1
  | .map entries => uptoBulkEntries entries + 1
  | .held _ => 1
def uptoBulkAll {H : Type} : List (DataW H) → Nat
  | [] => 0
  | d :: r => uptoBulk d + uptoBulkAll r
def uptoBulkEntries {H : Type} : List (Lit × DataW H) → Nat
  | [] => 0
  | x :: r => uptoBulkEntry x + uptoBulkEntries r
def uptoBulkEntry {H : Type} : Lit × DataW H → Nat
  | (.string bytes, d) => bytes.length + uptoBulk d + 1
  | (_, d) => uptoBulk d + 1
 end
def uptoSmall : (H : Type) → List (DataW H) → Bool := fun _ ds => decide (uptoBulkAll ds ≤ 1048576)
def OpenSpec.upto (s : _root_.Go.ChangeSpec) : _root_.Go.OpenSpec := { _root_.Go.OpenSpec.ofChange s with cond := some uptoSmall }

/-- 'wringerlaw5.XxhAll', WHERE WHAT IT READS IS OF BULK AT MOST 1048576: true; the input reads as it did. -/
def xxhAllUptoRow : OpenClaim := { program := "ytckjigbhdndgdaa", sum := "80527c487087188a84b4e43b3d0cb508487dd82566b8b2f7d613f18e00544654", func := "wringer/wringerlaw5.XxhAll", spec := "xxhAll", unfollowed := true, recurses := true, apart := false, narrowed := true }
def XxhAllUptoSaid : Prop := xxhAllUptoRow.holds Try.pinned (OpenSpec.upto xxhAllSpec)

/-- 'wringerlaw5.XxhKnown', WHERE WHAT IT READS IS OF BULK AT MOST 1048576: true; the input reads as it did. -/
def xxhKnownUptoRow : OpenClaim := { program := "ytckjigbhdndgdaa", sum := "80527c487087188a84b4e43b3d0cb508487dd82566b8b2f7d613f18e00544654", func := "wringer/wringerlaw5.XxhKnown", spec := "xxhKnown", unfollowed := true, recurses := true, apart := false, narrowed := true }
def XxhKnownUptoSaid : Prop := xxhKnownUptoRow.holds Try.pinned (OpenSpec.upto xxhKnownSpec)

/-- 'wringerlaw5.XxhSteps', WHERE WHAT IT READS IS OF BULK AT MOST 1048576: true; the input reads as it did. -/
def xxhStepsUptoRow : OpenClaim := { program := "ytckjigbhdndgdaa", sum := "80527c487087188a84b4e43b3d0cb508487dd82566b8b2f7d613f18e00544654", func := "wringer/wringerlaw5.XxhSteps", spec := "xxhSteps", unfollowed := true, recurses := true, apart := false, narrowed := true }
def XxhStepsUptoSaid : Prop := xxhStepsUptoRow.holds Try.pinned (OpenSpec.upto xxhStepsSpec)

/-- 'wringerlaw5.XxhLast', WHERE WHAT IT READS IS OF BULK AT MOST 1048576: true; the input reads as it did. -/
def xxhLastUptoRow : OpenClaim := { program := "ytckjigbhdndgdaa", sum := "80527c487087188a84b4e43b3d0cb508487dd82566b8b2f7d613f18e00544654", func := "wringer/wringerlaw5.XxhLast", spec := "xxhLast", unfollowed := true, recurses := true, apart := false, narrowed := true }
def XxhLastUptoSaid : Prop := xxhLastUptoRow.holds Try.pinned (OpenSpec.upto xxhLastSpec)

/-- 'wringerlaw5.XxhFew', WHERE WHAT IT READS IS OF BULK AT MOST 1048576: true; the input reads as it did. -/
def xxhFewUptoRow : OpenClaim := { program := "ytckjigbhdndgdaa", sum := "80527c487087188a84b4e43b3d0cb508487dd82566b8b2f7d613f18e00544654", func := "wringer/wringerlaw5.XxhFew", spec := "xxhFew", unfollowed := true, recurses := true, apart := false, narrowed := true }
def XxhFewUptoSaid : Prop := xxhFewUptoRow.holds Try.pinned (OpenSpec.upto xxhFewSpec)

/-- 'wringerlaw6.StateAll', WHERE WHAT IT READS IS OF BULK AT MOST 1048576: true; the input reads as it did. -/
def stateAllUptoRow : OpenClaim := { program := "ytckjigbhdndgdaa", sum := "80527c487087188a84b4e43b3d0cb508487dd82566b8b2f7d613f18e00544654", func := "wringer/wringerlaw6.StateAll", spec := "stateAll", unfollowed := true, recurses := true, apart := false, narrowed := true }
def StateAllUptoSaid : Prop := stateAllUptoRow.holds Try.pinned (OpenSpec.upto stateAllSpec)

/-- 'wringerlaw6.StateCuts', WHERE WHAT IT READS IS OF BULK AT MOST 1048576: true; the input reads as it did. -/
def stateCutsUptoRow : OpenClaim := { program := "ytckjigbhdndgdaa", sum := "80527c487087188a84b4e43b3d0cb508487dd82566b8b2f7d613f18e00544654", func := "wringer/wringerlaw6.StateCuts", spec := "stateCuts", unfollowed := true, recurses := true, apart := false, narrowed := true }
def StateCutsUptoSaid : Prop := stateCutsUptoRow.holds Try.pinned (OpenSpec.upto stateCutsSpec)

/-- 'wringerlaw6.StateAgain', WHERE WHAT IT READS IS OF BULK AT MOST 1048576: true; the input reads as it did. -/
def stateAgainUptoRow : OpenClaim := { program := "ytckjigbhdndgdaa", sum := "80527c487087188a84b4e43b3d0cb508487dd82566b8b2f7d613f18e00544654", func := "wringer/wringerlaw6.StateAgain", spec := "stateAgain", unfollowed := true, recurses := true, apart := false, narrowed := true }
def StateAgainUptoSaid : Prop := stateAgainUptoRow.holds Try.pinned (OpenSpec.upto stateAgainSpec)

end Rows
end Go.Proofs.Ytckjigbhdndgdaa
