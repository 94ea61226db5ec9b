/- The plain statement behind XxhKnown: four sums that all know, by computation. Conditions: the arguments are of their Go kinds. -/
import Derived.Test.YtckjigbhdndgdaaPXxhKnownx1
namespace Go.Proofs.Ytckjigbhdndgdaa.Pure
open Go.RowKit Go.Proofs.Ytckjigbhdndgdaa Go.Proofs.Ytckjigbhdndgdaa.PBits Go.Proofs.Ytckjigbhdndgdaa.PRef Go.Proofs.Ytckjigbhdndgdaa.PXawk Go.Proofs.Ytckjigbhdndgdaa.PXxhKnown Go.Proofs.YtckjigbhdndgdaaW.PrintWords Go.Proofs.YtckjigbhdndgdaaW.PrintLast Go.Proofs.YtckjigbhdndgdaaW.PrintMore
set_option linter.unusedVariables false
set_option linter.unusedSimpArgs false

theorem u8_bounds (a : Int) (h : (Lit.int .u8 a).wf = true) : 0 ≤ a ∧ a ≤ 255 := by
  simp only [Lit.wf, Bool.and_eq_true, decide_eq_true_eq] at h
  exact h
set_option maxRecDepth 100000 in
theorem k0 : wringerlaw5_XxhKnown.f 60 0 = some true := by decide +kernel
set_option maxRecDepth 100000 in
theorem k1 : wringerlaw5_XxhKnown.f 60 1 = some true := by decide +kernel
set_option maxRecDepth 100000 in
theorem k2 : wringerlaw5_XxhKnown.f 60 2 = some true := by decide +kernel
set_option maxRecDepth 100000 in
theorem k3 : wringerlaw5_XxhKnown.f 60 3 = some true := by decide +kernel
theorem same (a b : Int) (h : Int.tmod (wrap64 a) 4 = Int.tmod (wrap64 b) 4) : wringerlaw5_XxhKnown.f 60 a = wringerlaw5_XxhKnown.f 60 b := by
  unfold wringerlaw5_XxhKnown.f
  rw [h]
theorem XxhKnown : wringerlaw5_XxhKnown.Pure := by
  intro a h
  obtain ⟨h0, h1⟩ := u8_bounds a h
  have e : Int.tmod (wrap64 a) 4 = a % 4 := by
    have : wrap64 a = a := by unfold wrap64; omega
    rw [this, Int.tmod_eq_emod_of_nonneg h0]
  refine ⟨60, ?_⟩
  rcases (show a % 4 = 0 ∨ a % 4 = 1 ∨ a % 4 = 2 ∨ a % 4 = 3 by omega) with q | q | q | q
  · rw [same a 0 (by rw [e, q]; decide +kernel)]
    exact k0
  · rw [same a 1 (by rw [e, q]; decide +kernel)]
    exact k1
  · rw [same a 2 (by rw [e, q]; decide +kernel)]
    exact k2
  · rw [same a 3 (by rw [e, q]; decide +kernel)]
    exact k3
end Go.Proofs.Ytckjigbhdndgdaa.Pure
