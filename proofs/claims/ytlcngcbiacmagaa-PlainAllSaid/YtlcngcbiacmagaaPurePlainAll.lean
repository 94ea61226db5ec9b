/- The plain statement behind PlainAll: the bytes of any numbers, and what any bytes say, are the reference's. Conditions: the arguments are of their Go kinds. -/
import Derived.Test.YtlcngcbiacmagaaPPlainAllx1
import Derived.Test.YtlcngcbiacmagaaWnum
import Derived.Test.YtlcngcbiacmagaaPnum
namespace Go.Proofs.Ytlcngcbiacmagaa.Pure
open Go.RowKit Go.Proofs.Ytlcngcbiacmagaa Go.Proofs.Ytlcngcbiacmagaa.PBase Go.Proofs.Ytlcngcbiacmagaa.PPlainAll Go.Proofs.YtlcngcbiacmagaaW.PrintWords Go.Proofs.YtlcngcbiacmagaaW.PrintLast Go.Proofs.YtlcngcbiacmagaaW.PrintMore
set_option linter.unusedVariables false
set_option linter.unusedSimpArgs false

theorem both_get (s : ByteArray) (k : Nat) (hb : s.size ≤ 500) (hk : 100 < k) : ∃ X ok, plain_Get.f k s = some (X, ok) ∧ wringerref20_GetPlain.f k s = some (X, ok) ∧ X.length < 100 := by
  by_cases h : s.size % 8 = 0
  · obtain ⟨m, hm⟩ : ∃ m, s.size = 8 * m := ⟨s.size / 8, by omega⟩
    exact ⟨_, _, pget_val s m k hm (by omega) (by omega), refpget_val s m k hm (by omega) (by omega), by rw [words_length]; omega⟩
  · exact ⟨_, _, pget_none s k h, refpget_none s k h, by simp⟩
theorem PlainAll : wringerlaw20_PlainAll.Pure := by
  intro l0 a1 _ _ hw hs
  refine ⟨401, ?_⟩
  unfold wringerlaw20_PlainAll.f
  have aw := awake20_at 400 (by omega)
  by_cases c0 : (l0.length : Int) > 200
  · rw [if_pos c0]
    simp only [wringerlaw20_PlainAll.j0, if_true]
    rw [aw]
    rfl
  · rw [if_neg c0]
    by_cases c1 : (a1.size : Int) > 500
    · rw [decide_eq_true c1]
      simp only [wringerlaw20_PlainAll.j0, if_true]
      rw [aw]
      rfl
    · rw [decide_eq_false c1]
      obtain ⟨X, ok, h1, h2, hX⟩ := both_get a1 400 (by omega) (by omega)
      simp only [wringerlaw20_PlainAll.j0, if_neg Bool.false_ne_true]
      rw [h1, h2, pput_val l0 (by omega), refpput_val l0 400 (by omega) (by omega)]
      simp only [Option.bind_some, if_true]
      rw [sameN_val X 400 (by omega) (by omega), aw]
      simp
end Go.Proofs.Ytlcngcbiacmagaa.Pure
