/- Proved: the plain statement behind TreeRefuses: for every class, shift and number the law's Lean function answers true, given enough rounds. Conditions: the arguments are of their Go kinds. -/
import Derived.Test.YtgldblakdhalkaaPTreeRefusesx1
import Derived.Test.YtgldblakdhalkaaTreep
namespace Go.Proofs.Ytgldblakdhalkaa.Pure
open Go.RowKit Go.Proofs.Ytgldblakdhalkaa.PTreeRefuses Go.Proofs.YtgldblakdhalkaaW.PrintWords Go.Proofs.YtgldblakdhalkaaW.PrintLast Go.Proofs.Ytgldblakdhalkaa.PBase
theorem zero_get : (getS ⟨#[0, 0, 0, 0, 0]⟩ 0 5 == (([] : List Int), 0)) = true := by decide +kernel
theorem j3_true (x2 x7 x8 : Int) (h7 : isC x7 = false) (h8 : mayS x8 = false) (k : Nat) (hk : 31 ≤ k) : wringerlaw16_TreeRefuses.j3 (k + 1) x2 x7 x8 = some true := by
  have e1 : tree_Put.f [0, x7] 5 = some (⟨#[]⟩, 1) := by
    unfold tree_Put.f
    rw [if_pos (by show 2 ≤ 1000; decide), putS_no 5 [0, x7] 1 x7 rfl h7]
    rfl
  have e2 : tree_Put.f [] x8 = some (⟨#[]⟩, 1) := by
    unfold tree_Put.f
    rw [if_pos (by show 0 ≤ 1000; decide), putS_sh x8 [] h8]
    rfl
  have e3 : tree_Get.f ⟨#[]⟩ 0 x8 = some ([], 1) := by unfold tree_Get.f; rw [if_pos (Or.inr (Or.inr h8))]
  have e4 : tree_Get.f ⟨#[]⟩ (mn x2 (-1)) 5 = some ([], 1) := by unfold tree_Get.f; rw [if_pos (Or.inl (by unfold mn; split <;> omega))]
  have e5 : tree_Get.f ⟨#[]⟩ (mx x2 4097) 5 = some ([], 1) := by unfold tree_Get.f; rw [if_pos (Or.inr (Or.inl (by unfold mx; split <;> omega)))]
  have e6 : tree_Get.f ⟨#[0, 0, 0, 0, 0]⟩ 0 5 = some ([], 0) := by
    unfold tree_Get.f
    rw [if_neg (by decide), if_pos (by decide)]
    have h := eq_of_beq zero_get
    show some ((getS ⟨#[0, 0, 0, 0, 0]⟩ 0 5).1, ((getS ⟨#[0, 0, 0, 0, 0]⟩ 0 5).2 : Int)) = _
    rw [h]
    rfl
  obtain ⟨d, rfl⟩ := Nat.exists_eq_add_of_le (show 30 ≤ k by omega)
  have e7 := nodes_up x7 _ (nodes_no x7 h7).1 d
  have e8 := awake16_up d
  rw [wringerlaw16_TreeRefuses.j3, e1, Option.bind_some, e2, Option.bind_some, e3, Option.bind_some, e4, Option.bind_some, e5, Option.bind_some, e6, Option.bind_some, e7, Option.bind_some]
  have hE : ∀ a : Int, wringerlaw1_Err.f a = some a := fun _ => rfl
  simp only [hE, Option.bind_some, e8]
  rw [if_pos (by rw [ByteArray.toList_eq])]
  simp only [if_true]
  rw [if_pos (by decide +kernel)]
theorem TreeRefuses : wringerlaw16_TreeRefuses.Pure := by
  intro a0 a1 a2 h0 h1 h2
  simp only [Lit.wf, Bool.and_eq_true, decide_eq_true_eq] at h0 h1
  have l0 : -9223372036854775808 ≤ a0 ∧ a0 ≤ 9223372036854775807 := h0
  have l1 : -9223372036854775808 ≤ a1 ∧ a1 ≤ 9223372036854775807 := h1
  refine ⟨50, ?_⟩
  have m1 : ∀ x7 : Int, isC x7 = false → wringerlaw16_TreeRefuses.j1 49 a1 a2 x7 = some true := by
    intro x7 h7
    show wringerlaw16_TreeRefuses.j1 (48 + 1) a1 a2 x7 = some true
    rw [wringerlaw16_TreeRefuses.j1]
    by_cases c : a1 ≥ 4
    · rw [if_pos c]
      show wringerlaw16_TreeRefuses.j2 (47 + 1) a2 x7 a1 _ = some true
      rw [wringerlaw16_TreeRefuses.j2]
      by_cases c7 : a1 ≤ 7
      · rw [decide_eq_true c7, if_pos rfl]
        refine j3_true a2 x7 _ h7 ?_ 46 (by decide)
        have e : wrap64 (a1 + 4) = a1 + 4 := by unfold wrap64; omega
        rw [e]
        unfold mayS
        rw [decide_eq_false (show ¬ a1 + 4 ≤ 7 by omega), Bool.and_false]
      · rw [decide_eq_false c7, if_neg Bool.false_ne_true]
        refine j3_true a2 x7 _ h7 ?_ 46 (by decide)
        unfold mayS
        rw [decide_eq_false c7, Bool.and_false]
    · rw [if_neg c]
      show wringerlaw16_TreeRefuses.j2 (47 + 1) a2 x7 a1 _ = some true
      rw [wringerlaw16_TreeRefuses.j2]
      rw [if_neg Bool.false_ne_true]
      refine j3_true a2 x7 _ h7 ?_ 46 (by decide)
      unfold mayS
      rw [decide_eq_false (show ¬ 4 ≤ a1 by omega), Bool.false_and]
  unfold wringerlaw16_TreeRefuses.f
  by_cases c : a0 ≥ 0
  · rw [if_pos c]
    show wringerlaw16_TreeRefuses.j0 (49 + 1) a1 a2 a0 _ = some true
    rw [wringerlaw16_TreeRefuses.j0]
    by_cases c65 : a0 < 65
    · rw [decide_eq_true c65, if_pos rfl]
      refine m1 _ ?_
      have e : wrap64 ((-1) - a0) = -1 - a0 := by unfold wrap64; omega
      rw [e]
      unfold isC
      rw [decide_eq_false (show ¬ 0 ≤ -1 - a0 by omega), Bool.false_and]
    · rw [decide_eq_false c65, if_neg Bool.false_ne_true]
      refine m1 _ ?_
      unfold isC
      rw [decide_eq_false c65, Bool.and_false]
  · rw [if_neg c]
    show wringerlaw16_TreeRefuses.j0 (49 + 1) a1 a2 a0 _ = some true
    rw [wringerlaw16_TreeRefuses.j0]
    rw [if_neg Bool.false_ne_true]
    refine m1 _ ?_
    unfold isC
    rw [decide_eq_false (show ¬ 0 ≤ a0 by omega), Bool.false_and]
end Go.Proofs.Ytgldblakdhalkaa.Pure
