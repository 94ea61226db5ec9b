/- The plain statement behind XxhFew: sums of few bytes that all know, by computation. Conditions: the arguments are of their Go kinds. -/
import Derived.Test.YtckjigbhdndgdaaPXxhFewx1
namespace Go.Proofs.Ytckjigbhdndgdaa.Pure
open Go.RowKit Go.Proofs.Ytckjigbhdndgdaa Go.Proofs.Ytckjigbhdndgdaa.PBits Go.Proofs.Ytckjigbhdndgdaa.PRef Go.Proofs.Ytckjigbhdndgdaa.PXawk Go.Proofs.Ytckjigbhdndgdaa.PXxhFew Go.Proofs.YtckjigbhdndgdaaW.PrintWords Go.Proofs.YtckjigbhdndgdaaW.PrintLast Go.Proofs.YtckjigbhdndgdaaW.PrintMore
set_option linter.unusedVariables false
set_option linter.unusedSimpArgs false

theorem of_byte (p : Int → Option Bool) (h : ∀ n : Fin 256, p (n.val : Int) = some true) (a : Int) (ha : (Lit.int .u8 a).wf = true) : p a = some true := by
  simp only [Lit.wf, Bool.and_eq_true, decide_eq_true_eq] at ha
  have h0 : 0 ≤ a := ha.1
  have h1 : a ≤ 255 := ha.2
  have := h ⟨a.toNat, by omega⟩
  rwa [show ((a.toNat : Nat) : Int) = a by omega] at this
set_option maxRecDepth 100000 in
theorem all : ∀ n : Fin 256, wringerlaw5_XxhFew.f 60 (n.val : Int) = some true := by decide +kernel
theorem XxhFew : wringerlaw5_XxhFew.Pure := fun a h => ⟨60, of_byte (wringerlaw5_XxhFew.f 60) all a h⟩
end Go.Proofs.Ytckjigbhdndgdaa.Pure
