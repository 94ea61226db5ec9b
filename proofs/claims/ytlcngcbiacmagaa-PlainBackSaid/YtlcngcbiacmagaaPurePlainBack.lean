/- The plain statement behind PlainBack: numbers are told again by their bytes, bytes by their numbers, two lists side by side one behind the other. Conditions: the arguments are of their Go kinds. -/
import Derived.Test.YtlcngcbiacmagaaPPlainBackx1
import Derived.Test.YtlcngcbiacmagaaWnum
import Derived.Test.YtlcngcbiacmagaaPnum
namespace Go.Proofs.Ytlcngcbiacmagaa.Pure
open Go.RowKit Go.Proofs.Ytlcngcbiacmagaa Go.Proofs.Ytlcngcbiacmagaa.PBase Go.Proofs.Ytlcngcbiacmagaa.PPlainBack Go.Proofs.YtlcngcbiacmagaaW.PrintWords Go.Proofs.YtlcngcbiacmagaaW.PrintLast Go.Proofs.YtlcngcbiacmagaaW.PrintMore
set_option linter.unusedVariables false
set_option linter.unusedSimpArgs false

theorem PlainBack : wringerlaw20_PlainBack.Pure := by
  intro l0 l1 a2 _ _ hw0 _ _ hw1 hs
  refine ⟨401, ?_⟩
  unfold wringerlaw20_PlainBack.f
  have aw := awake20_at 400 (by omega)
  have out : wringerlaw20_PlainBack.j0 401 l0 l1 a2 true = some true := by
    simp only [wringerlaw20_PlainBack.j0, if_true]
    rw [aw]
    rfl
  by_cases c0 : (l0.length : Int) > 100
  · rw [if_pos c0]; exact out
  · rw [if_neg c0]
    by_cases c1 : (l1.length : Int) > 100
    · rw [if_pos c1]; exact out
    · rw [if_neg c1]
      by_cases c2 : (a2.size : Int) > 500
      · rw [decide_eq_true c2]; exact out
      · rw [decide_eq_false c2]
        have hp := strNum_size l0
        have hq := strNum_size l1
        have ew : wrap64 (8 * (l0.length : Int)) = 8 * (l0.length : Int) := by unfold wrap64; omega
        have hb := words_back l0 hw0
        have eb : numBytes (l0 ++ l1) = numBytes l0 ++ numBytes l1 := by unfold numBytes; rw [List.flatMap_append]
        have hboth : strOfNums (numBytes (l0 ++ l1)) = strOfNums (numBytes l0) ++ strOfNums (numBytes l1) := by rw [eb, nums_app]
        simp only [wringerlaw20_PlainBack.j0, if_neg Bool.false_ne_true]
        rw [pput_val l0 (by omega), Option.bind_some, pget_val _ l0.length 400 hp (by omega) (by omega), Option.bind_some, hb]
        simp only [Option.bind_some, List.length_nil, Nat.zero_add, List.nil_append, if_true]
        by_cases h : a2.size % 8 = 0
        · obtain ⟨m, hm⟩ : ∃ m, a2.size = 8 * m := ⟨a2.size / 8, by omega⟩
          rw [pget_val a2 m 400 hm (by omega) (by omega), Option.bind_some, if_pos (by omega), if_pos (by omega), sameN_val l0 400 (by omega) (by omega), Option.bind_some, if_pos rfl, if_pos (by rw [hp, ew]; omega)]
          have e8 : (true == ((a2.size : Int) % 8 == 0)) = true := by
            have : ((a2.size : Int) % 8 == 0) = true := beq_iff_eq.2 (by omega)
            rw [this]
            rfl
          simp only [e8, if_true]
          rw [pput_val (wordsOf a2 m) (by rw [words_length]; omega), Option.bind_some, bytes_back a2 m hm, if_pos rfl, pput_val (l0 ++ l1) (by rw [List.length_append]; omega), Option.bind_some, pput_val l1 (by omega), Option.bind_some, if_pos (by omega), hboth, if_pos rfl, aw]
          rfl
        · rw [pget_none a2 400 h, Option.bind_some, if_pos (by omega), if_pos (by omega), sameN_val l0 400 (by omega) (by omega), Option.bind_some, if_pos rfl, if_pos (by rw [hp, ew]; omega)]
          have e8 : (false == ((a2.size : Int) % 8 == 0)) = true := by
            have : ((a2.size : Int) % 8 == 0) = false := beq_eq_false_iff_ne.2 (by omega)
            rw [this]
            rfl
          simp only [e8, if_true, if_neg Bool.false_ne_true]
          rw [pput_val (l0 ++ l1) (by rw [List.length_append]; omega), Option.bind_some, pput_val l1 (by omega), Option.bind_some, if_pos (by omega), hboth, if_pos rfl, aw]
          rfl
end Go.Proofs.Ytlcngcbiacmagaa.Pure
