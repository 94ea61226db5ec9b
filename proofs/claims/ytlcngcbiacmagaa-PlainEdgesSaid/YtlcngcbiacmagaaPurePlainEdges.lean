/- The plain statement behind PlainEdges: the last numbers of both sides are told; bytes that are no eights are none. Conditions: the arguments are of their Go kinds. -/
import Derived.Test.YtlcngcbiacmagaaPPlainEdgesx1
import Derived.Test.YtlcngcbiacmagaaWnum
import Derived.Test.YtlcngcbiacmagaaPnum
namespace Go.Proofs.Ytlcngcbiacmagaa.Pure
open Go.RowKit Go.Proofs.Ytlcngcbiacmagaa Go.Proofs.Ytlcngcbiacmagaa.PBase Go.Proofs.Ytlcngcbiacmagaa.PPlainEdges Go.Proofs.YtlcngcbiacmagaaW.PrintWords Go.Proofs.YtlcngcbiacmagaaW.PrintLast Go.Proofs.YtlcngcbiacmagaaW.PrintMore
set_option linter.unusedVariables false
set_option linter.unusedSimpArgs false

theorem PlainEdges : wringerlaw20_PlainEdges.Pure := by
  intro a0 s h0 _
  have hb : 0 ≤ a0 ∧ a0 ≤ 255 := by
    simp only [Lit.wf, Bool.and_eq_true, decide_eq_true_eq] at h0
    exact h0
  refine ⟨200, ?_⟩
  have aw := awake20_at 200 (by omega)
  unfold wringerlaw20_PlainEdges.f
  by_cases c : (s.size : Int) > 200
  · rw [if_pos c, aw]
    rfl
  · rw [if_neg c]
    have ew : wrap64 a0 = a0 := by unfold wrap64; omega
    obtain ⟨l, hl⟩ : ∃ l : List Int, l = [9223372036854775807, (-9223372036854775808), 0, a0] := ⟨_, rfl⟩
    have ll : l.length = 4 := by rw [hl]; rfl
    have hw : ∀ x ∈ l, (Lit.int .i64 x).wf = true := by
      intro x hx
      rw [hl] at hx
      simp only [List.mem_cons, List.not_mem_nil, or_false] at hx
      rcases hx with rfl | rfl | rfl | rfl
      · decide
      · decide
      · decide
      · simp only [Lit.wf, Bool.and_eq_true, decide_eq_true_eq]
        constructor
        · show -9223372036854775808 ≤ x
          omega
        · show x ≤ 9223372036854775807
          omega
    rw [ew, ← hl, Option.bind_some, pput_val l (by omega), Option.bind_some]
    have hp := strNum_size l
    have hback := words_back l hw
    rw [ll] at hp hback
    generalize strOfNums (numBytes l) = P at *
    rw [pget_val P 4 200 (by omega) (by omega) (by omega), Option.bind_some, hback]
    have et : Int.tmod a0 7 = a0 % 7 := Int.tmod_eq_emod_of_nonneg hb.1
    obtain ⟨u, hu⟩ : ∃ u : Nat, wrap64 ((P.size : Int) - (mn (wrap64 (1 + (Int.tmod a0 7))) (P.size : Int))) = (u : Int) ∧ u < 32 ∧ 24 < u := by
      rw [et]
      have e1 : wrap64 (1 + a0 % 7) = 1 + a0 % 7 := by unfold wrap64; omega
      have e2 : mn (1 + a0 % 7) (P.size : Int) = 1 + a0 % 7 := by
        unfold mn
        split <;> omega
      rw [e1, e2]
      have e3 : wrap64 ((P.size : Int) - (1 + a0 % 7)) = (P.size : Int) - (1 + a0 % 7) := by unfold wrap64; omega
      rw [e3]
      exact ⟨((P.size : Int) - (1 + a0 % 7)).toNat, by omega, by omega, by omega⟩
    rw [hu.1, if_pos (by omega), if_pos (by omega), Int.toNat_natCast]
    have hx : (P.extract 0 u).size = u := by rw [ByteArray.size_extract]; omega
    rw [pget_none (P.extract 0 u) 200 (by rw [hx]; omega), Option.bind_some]
    have e0 : plain_Get.f 200 ⟨#[]⟩ = some ([], true) := pget_val ⟨#[]⟩ 0 200 rfl (by decide) (by omega)
    rw [e0, Option.bind_some, if_pos (by omega), if_pos rfl, ll, if_pos (by decide), if_pos (by decide), if_pos (by decide), if_pos rfl, if_pos (by decide), if_pos (by decide), if_pos rfl, if_pos (by decide), if_pos (by decide), if_pos rfl, if_neg Bool.false_ne_true, if_pos rfl, if_pos (by rfl), aw]
    rfl
end Go.Proofs.Ytlcngcbiacmagaa.Pure
