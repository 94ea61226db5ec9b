/-
  No cell of these rows narrows 'for every input' (looked for: loops, veiled, ifaces, maps, wideKeys, modest, calm, conditions, laid).
  DERIVED. THE GIVEN ROWS OF THIS SEAT. 9 by the template 'for every input the law returns true; each argument reads behind the call as it read before'; 0 by the template 'total and deterministic' (their statements: YtlcngcbiacmagaaTotals.lean).
  GIVEN WITH THE SEED: the statements are not yours to turn. If you find one false, say at which input.
  Laid BY PROGRAM, IN A SANDBOX (cutbox-rows.mjs): the forced cells as the released guide's own fill.sh prints them over the translation 808c45000f108d3b… (all of the seat's roots in one cut). By AI agents, Wed Nov 11 2026. No macro, syntax, notation, axiom, sorry.
-/
import Derived.Test.YtlcngcbiacmagaaChecked
import GoSem.Claim
import GoSem.ClaimJoined
import GoSem.ClaimMapViews
import Derived.JoinedTies
import Derived.KernelRfl
namespace Go.Proofs.Ytlcngcbiacmagaa
/- THE CELL 'sum', in the pinned program and in every row, IS THE sha256 OF THE DUMP (.gsa) THAT YtlcngcbiacmagaaProg.lean LOADS. Nothing in Lean hashes anything: it is a label: what it is worth is what the hold of that sum in a sandbox is worth. -/
noncomputable def Try.pinned : Pinned := { name := "ytlcngcbiacmagaa", sum := "808c45000f108d3bb9371ab0b89006c0fe7927961f64043bdb87cdde2037b62f", checked := Try.checked }
namespace Rows
def none {H : Type} : Left H := { results := [], args := [] }

/-- 'wringerlaw2.VintEnds': WHATEVER THE INPUT: true; the input reads as it did. -/
def vintEndsSpec : ChangeSpec := { name := "vintEnds", fn := fun _ => fun
  | [d1, d2] => { results := [.lit (.bool true)], args := [d1, d2] }
  | _ => none }
def vintEndsRow : OpenClaim := { program := "ytlcngcbiacmagaa", sum := "808c45000f108d3bb9371ab0b89006c0fe7927961f64043bdb87cdde2037b62f", func := "wringer/wringerlaw2.VintEnds", spec := "vintEnds", unfollowed := true, recurses := true, apart := false }
def VintEndsSaid : Prop := vintEndsRow.holds Try.pinned (OpenSpec.ofChange vintEndsSpec)

/-- ITS FALSE NEIGHBOUR: 'it returns false'. Refute it at one input. -/
def vintEndsWrong : ChangeSpec := { name := "vintEnds", fn := fun _ => fun
  | [d1, d2] => { results := [.lit (.bool false)], args := [d1, d2] }
  | _ => none }
def VintEndsWrongFalsely : Prop := vintEndsRow.holds Try.pinned (OpenSpec.ofChange vintEndsWrong)

/-- 'wringerlaw2.VintShort': WHATEVER THE INPUT: true; the input reads as it did. -/
def vintShortSpec : ChangeSpec := { name := "vintShort", fn := fun _ => fun
  | [d1, d2] => { results := [.lit (.bool true)], args := [d1, d2] }
  | _ => none }
def vintShortRow : OpenClaim := { program := "ytlcngcbiacmagaa", sum := "808c45000f108d3bb9371ab0b89006c0fe7927961f64043bdb87cdde2037b62f", func := "wringer/wringerlaw2.VintShort", spec := "vintShort", unfollowed := true, recurses := true, apart := false }
def VintShortSaid : Prop := vintShortRow.holds Try.pinned (OpenSpec.ofChange vintShortSpec)

/-- ITS FALSE NEIGHBOUR: 'it returns false'. Refute it at one input. -/
def vintShortWrong : ChangeSpec := { name := "vintShort", fn := fun _ => fun
  | [d1, d2] => { results := [.lit (.bool false)], args := [d1, d2] }
  | _ => none }
def VintShortWrongFalsely : Prop := vintShortRow.holds Try.pinned (OpenSpec.ofChange vintShortWrong)

/-- 'wringerlaw2.VintWords': WHATEVER THE INPUT: true; the input reads as it did. -/
def vintWordsSpec : ChangeSpec := { name := "vintWords", fn := fun _ => fun
  | [d1, d2] => { results := [.lit (.bool true)], args := [d1, d2] }
  | _ => none }
def vintWordsRow : OpenClaim := { program := "ytlcngcbiacmagaa", sum := "808c45000f108d3bb9371ab0b89006c0fe7927961f64043bdb87cdde2037b62f", func := "wringer/wringerlaw2.VintWords", spec := "vintWords", unfollowed := true, recurses := true, apart := false }
def VintWordsSaid : Prop := vintWordsRow.holds Try.pinned (OpenSpec.ofChange vintWordsSpec)

/-- ITS FALSE NEIGHBOUR: 'it returns false'. Refute it at one input. -/
def vintWordsWrong : ChangeSpec := { name := "vintWords", fn := fun _ => fun
  | [d1, d2] => { results := [.lit (.bool false)], args := [d1, d2] }
  | _ => none }
def VintWordsWrongFalsely : Prop := vintWordsRow.holds Try.pinned (OpenSpec.ofChange vintWordsWrong)

/-- 'wringerlaw2.VintAll': WHATEVER THE INPUT: true; the input reads as it did. -/
def vintAllSpec : ChangeSpec := { name := "vintAll", fn := fun _ => fun
  | [d1, d2, d3] => { results := [.lit (.bool true)], args := [d1, d2, d3] }
  | _ => none }
def vintAllRow : OpenClaim := { program := "ytlcngcbiacmagaa", sum := "808c45000f108d3bb9371ab0b89006c0fe7927961f64043bdb87cdde2037b62f", func := "wringer/wringerlaw2.VintAll", spec := "vintAll", unfollowed := true, recurses := true, apart := false }
def VintAllSaid : Prop := vintAllRow.holds Try.pinned (OpenSpec.ofChange vintAllSpec)

/-- ITS FALSE NEIGHBOUR: 'it returns false'. Refute it at one input. -/
def vintAllWrong : ChangeSpec := { name := "vintAll", fn := fun _ => fun
  | [d1, d2, d3] => { results := [.lit (.bool false)], args := [d1, d2, d3] }
  | _ => none }
def VintAllWrongFalsely : Prop := vintAllRow.holds Try.pinned (OpenSpec.ofChange vintAllWrong)

/-- 'wringerlaw2.VintBack': WHATEVER THE INPUT: true; the input reads as it did. -/
def vintBackSpec : ChangeSpec := { name := "vintBack", fn := fun _ => fun
  | [d1, d2, d3, d4] => { results := [.lit (.bool true)], args := [d1, d2, d3, d4] }
  | _ => none }
def vintBackRow : OpenClaim := { program := "ytlcngcbiacmagaa", sum := "808c45000f108d3bb9371ab0b89006c0fe7927961f64043bdb87cdde2037b62f", func := "wringer/wringerlaw2.VintBack", spec := "vintBack", unfollowed := true, recurses := true, apart := false }
def VintBackSaid : Prop := vintBackRow.holds Try.pinned (OpenSpec.ofChange vintBackSpec)

/-- ITS FALSE NEIGHBOUR: 'it returns false'. Refute it at one input. -/
def vintBackWrong : ChangeSpec := { name := "vintBack", fn := fun _ => fun
  | [d1, d2, d3, d4] => { results := [.lit (.bool false)], args := [d1, d2, d3, d4] }
  | _ => none }
def VintBackWrongFalsely : Prop := vintBackRow.holds Try.pinned (OpenSpec.ofChange vintBackWrong)

/-- 'wringerlaw2.VintRows': WHATEVER THE INPUT: true; the input reads as it did. -/
def vintRowsSpec : ChangeSpec := { name := "vintRows", fn := fun _ => fun
  | [d] => { results := [.lit (.bool true)], args := [d] }
  | _ => none }
def vintRowsRow : OpenClaim := { program := "ytlcngcbiacmagaa", sum := "808c45000f108d3bb9371ab0b89006c0fe7927961f64043bdb87cdde2037b62f", func := "wringer/wringerlaw2.VintRows", spec := "vintRows", unfollowed := true, recurses := true, apart := false }
def VintRowsSaid : Prop := vintRowsRow.holds Try.pinned (OpenSpec.ofChange vintRowsSpec)

/-- ITS FALSE NEIGHBOUR: 'it returns false'. Refute it at one input. -/
def vintRowsWrong : ChangeSpec := { name := "vintRows", fn := fun _ => fun
  | [d] => { results := [.lit (.bool false)], args := [d] }
  | _ => none }
def VintRowsWrongFalsely : Prop := vintRowsRow.holds Try.pinned (OpenSpec.ofChange vintRowsWrong)

/-- 'wringerlaw20.PlainAll': WHATEVER THE INPUT: true; the input reads as it did. -/
def plainAllSpec : ChangeSpec := { name := "plainAll", fn := fun _ => fun
  | [d1, d2] => { results := [.lit (.bool true)], args := [d1, d2] }
  | _ => none }
def plainAllRow : OpenClaim := { program := "ytlcngcbiacmagaa", sum := "808c45000f108d3bb9371ab0b89006c0fe7927961f64043bdb87cdde2037b62f", func := "wringer/wringerlaw20.PlainAll", spec := "plainAll", inPlace := ["internal/abi.NoEscape"], unfollowed := true, recurses := true, apart := false }
def PlainAllSaid : Prop := plainAllRow.holds Try.pinned (OpenSpec.ofChange plainAllSpec)

/-- ITS FALSE NEIGHBOUR: 'it returns false'. Refute it at one input. -/
def plainAllWrong : ChangeSpec := { name := "plainAll", fn := fun _ => fun
  | [d1, d2] => { results := [.lit (.bool false)], args := [d1, d2] }
  | _ => none }
def PlainAllWrongFalsely : Prop := plainAllRow.holds Try.pinned (OpenSpec.ofChange plainAllWrong)

/-- 'wringerlaw20.PlainBack': WHATEVER THE INPUT: true; the input reads as it did. -/
def plainBackSpec : ChangeSpec := { name := "plainBack", fn := fun _ => fun
  | [d1, d2, d3] => { results := [.lit (.bool true)], args := [d1, d2, d3] }
  | _ => none }
def plainBackRow : OpenClaim := { program := "ytlcngcbiacmagaa", sum := "808c45000f108d3bb9371ab0b89006c0fe7927961f64043bdb87cdde2037b62f", func := "wringer/wringerlaw20.PlainBack", spec := "plainBack", inPlace := ["internal/abi.NoEscape"], unfollowed := true, recurses := true, apart := false }
def PlainBackSaid : Prop := plainBackRow.holds Try.pinned (OpenSpec.ofChange plainBackSpec)

/-- ITS FALSE NEIGHBOUR: 'it returns false'. Refute it at one input. -/
def plainBackWrong : ChangeSpec := { name := "plainBack", fn := fun _ => fun
  | [d1, d2, d3] => { results := [.lit (.bool false)], args := [d1, d2, d3] }
  | _ => none }
def PlainBackWrongFalsely : Prop := plainBackRow.holds Try.pinned (OpenSpec.ofChange plainBackWrong)

/-- 'wringerlaw20.PlainEdges': WHATEVER THE INPUT: true; the input reads as it did. -/
def plainEdgesSpec : ChangeSpec := { name := "plainEdges", fn := fun _ => fun
  | [d1, d2] => { results := [.lit (.bool true)], args := [d1, d2] }
  | _ => none }
def plainEdgesRow : OpenClaim := { program := "ytlcngcbiacmagaa", sum := "808c45000f108d3bb9371ab0b89006c0fe7927961f64043bdb87cdde2037b62f", func := "wringer/wringerlaw20.PlainEdges", spec := "plainEdges", inPlace := ["internal/abi.NoEscape"], unfollowed := true, recurses := true, apart := false }
def PlainEdgesSaid : Prop := plainEdgesRow.holds Try.pinned (OpenSpec.ofChange plainEdgesSpec)

/-- ITS FALSE NEIGHBOUR: 'it returns false'. Refute it at one input. -/
def plainEdgesWrong : ChangeSpec := { name := "plainEdges", fn := fun _ => fun
  | [d1, d2] => { results := [.lit (.bool false)], args := [d1, d2] }
  | _ => none }
def PlainEdgesWrongFalsely : Prop := plainEdgesRow.holds Try.pinned (OpenSpec.ofChange plainEdgesWrong)

/- THE SECOND FORM. 'bulk': how many values and letters a reading holds, each counted each time it is reached (what is shared counts as often as it is met; a slice's spare places count too). A statement '..UptoSaid' is the law's where the arguments, and the package variables that the reading takes, are together of bulk at most 1048576: NARROWER than '..Said'. Prove '..Said' where nothing that the law and all that it calls make is longer than what came in: it says more and counts as full. Else prove '..UptoSaid'. A law counts once. -/
mutual
def uptoBulk {H : Type} : DataW H → Nat
  | .lit (.string bytes) => bytes.length + 1
  | .lit _ => 1
  | .nil => 1
  | .ptr d => uptoBulk d + 1
  | .slice elems spare => uptoBulkAll elems + uptoBulkAll spare + 1
  | .agg parts => uptoBulkAll parts + 1
  | .iface _ d => uptoBulk d + 1
  | .map entries => uptoBulkEntries entries + 1
  | .held _ => 1
def uptoBulkAll {H : Type} : List (DataW H) → Nat
  | [] => 0
  | d :: r => uptoBulk d + uptoBulkAll r
def uptoBulkEntries {H : Type} : List (Lit × DataW H) → Nat
  | [] => 0
  | x :: r => uptoBulkEntry x + uptoBulkEntries r
def uptoBulkEntry {H : Type} : Lit × DataW H → Nat
  | (.string bytes, d) => bytes.length + uptoBulk d + 1
  | (_, d) => uptoBulk d + 1
 end
def uptoSmall : (H : Type) → List (DataW H) → Bool := fun _ ds => decide (uptoBulkAll ds ≤ 1048576)
def OpenSpec.upto (s : _root_.Go.ChangeSpec) : _root_.Go.OpenSpec := { _root_.Go.OpenSpec.ofChange s with cond := some uptoSmall }

/-- 'wringerlaw2.VintEnds', WHERE WHAT IT READS IS OF BULK AT MOST 1048576: true; the input reads as it did. -/
def vintEndsUptoRow : OpenClaim := { program := "ytlcngcbiacmagaa", sum := "808c45000f108d3bb9371ab0b89006c0fe7927961f64043bdb87cdde2037b62f", func := "wringer/wringerlaw2.VintEnds", spec := "vintEnds", unfollowed := true, recurses := true, apart := false, narrowed := true }
def VintEndsUptoSaid : Prop := vintEndsUptoRow.holds Try.pinned (OpenSpec.upto vintEndsSpec)

/-- 'wringerlaw2.VintShort', WHERE WHAT IT READS IS OF BULK AT MOST 1048576: true; the input reads as it did. -/
def vintShortUptoRow : OpenClaim := { program := "ytlcngcbiacmagaa", sum := "808c45000f108d3bb9371ab0b89006c0fe7927961f64043bdb87cdde2037b62f", func := "wringer/wringerlaw2.VintShort", spec := "vintShort", unfollowed := true, recurses := true, apart := false, narrowed := true }
def VintShortUptoSaid : Prop := vintShortUptoRow.holds Try.pinned (OpenSpec.upto vintShortSpec)

/-- 'wringerlaw2.VintWords', WHERE WHAT IT READS IS OF BULK AT MOST 1048576: true; the input reads as it did. -/
def vintWordsUptoRow : OpenClaim := { program := "ytlcngcbiacmagaa", sum := "808c45000f108d3bb9371ab0b89006c0fe7927961f64043bdb87cdde2037b62f", func := "wringer/wringerlaw2.VintWords", spec := "vintWords", unfollowed := true, recurses := true, apart := false, narrowed := true }
def VintWordsUptoSaid : Prop := vintWordsUptoRow.holds Try.pinned (OpenSpec.upto vintWordsSpec)

/-- 'wringerlaw2.VintAll', WHERE WHAT IT READS IS OF BULK AT MOST 1048576: true; the input reads as it did. -/
def vintAllUptoRow : OpenClaim := { program := "ytlcngcbiacmagaa", sum := "808c45000f108d3bb9371ab0b89006c0fe7927961f64043bdb87cdde2037b62f", func := "wringer/wringerlaw2.VintAll", spec := "vintAll", unfollowed := true, recurses := true, apart := false, narrowed := true }
def VintAllUptoSaid : Prop := vintAllUptoRow.holds Try.pinned (OpenSpec.upto vintAllSpec)

/-- 'wringerlaw2.VintBack', WHERE WHAT IT READS IS OF BULK AT MOST 1048576: true; the input reads as it did. -/
def vintBackUptoRow : OpenClaim := { program := "ytlcngcbiacmagaa", sum := "808c45000f108d3bb9371ab0b89006c0fe7927961f64043bdb87cdde2037b62f", func := "wringer/wringerlaw2.VintBack", spec := "vintBack", unfollowed := true, recurses := true, apart := false, narrowed := true }
def VintBackUptoSaid : Prop := vintBackUptoRow.holds Try.pinned (OpenSpec.upto vintBackSpec)

/-- 'wringerlaw2.VintRows', WHERE WHAT IT READS IS OF BULK AT MOST 1048576: true; the input reads as it did. -/
def vintRowsUptoRow : OpenClaim := { program := "ytlcngcbiacmagaa", sum := "808c45000f108d3bb9371ab0b89006c0fe7927961f64043bdb87cdde2037b62f", func := "wringer/wringerlaw2.VintRows", spec := "vintRows", unfollowed := true, recurses := true, apart := false, narrowed := true }
def VintRowsUptoSaid : Prop := vintRowsUptoRow.holds Try.pinned (OpenSpec.upto vintRowsSpec)

/-- 'wringerlaw20.PlainAll', WHERE WHAT IT READS IS OF BULK AT MOST 1048576: true; the input reads as it did. -/
def plainAllUptoRow : OpenClaim := { program := "ytlcngcbiacmagaa", sum := "808c45000f108d3bb9371ab0b89006c0fe7927961f64043bdb87cdde2037b62f", func := "wringer/wringerlaw20.PlainAll", spec := "plainAll", inPlace := ["internal/abi.NoEscape"], unfollowed := true, recurses := true, apart := false, narrowed := true }
def PlainAllUptoSaid : Prop := plainAllUptoRow.holds Try.pinned (OpenSpec.upto plainAllSpec)

/-- 'wringerlaw20.PlainBack', WHERE WHAT IT READS IS OF BULK AT MOST 1048576: true; the input reads as it did. -/
def plainBackUptoRow : OpenClaim := { program := "ytlcngcbiacmagaa", sum := "808c45000f108d3bb9371ab0b89006c0fe7927961f64043bdb87cdde2037b62f", func := "wringer/wringerlaw20.PlainBack", spec := "plainBack", inPlace := ["internal/abi.NoEscape"], unfollowed := true, recurses := true, apart := false, narrowed := true }
def PlainBackUptoSaid : Prop := plainBackUptoRow.holds Try.pinned (OpenSpec.upto plainBackSpec)

/-- 'wringerlaw20.PlainEdges', WHERE WHAT IT READS IS OF BULK AT MOST 1048576: true; the input reads as it did. -/
def plainEdgesUptoRow : OpenClaim := { program := "ytlcngcbiacmagaa", sum := "808c45000f108d3bb9371ab0b89006c0fe7927961f64043bdb87cdde2037b62f", func := "wringer/wringerlaw20.PlainEdges", spec := "plainEdges", inPlace := ["internal/abi.NoEscape"], unfollowed := true, recurses := true, apart := false, narrowed := true }
def PlainEdgesUptoSaid : Prop := plainEdgesUptoRow.holds Try.pinned (OpenSpec.upto plainEdgesSpec)

end Rows
end Go.Proofs.Ytlcngcbiacmagaa
