/- The plain statement behind XxhAll: the sum of any bytes, and both steps, are the reference's. Conditions: the arguments are of their Go kinds. -/
import Derived.Test.YtckjigbhdndgdaaPXxhAllx1
import Derived.Test.YtckjigbhdndgdaaXsum
namespace Go.Proofs.Ytckjigbhdndgdaa.Pure
open Go.RowKit Go.Proofs.Ytckjigbhdndgdaa Go.Proofs.Ytckjigbhdndgdaa.PBits Go.Proofs.Ytckjigbhdndgdaa.PRef Go.Proofs.Ytckjigbhdndgdaa.PXawk Go.Proofs.Ytckjigbhdndgdaa.PXxhAll Go.Proofs.YtckjigbhdndgdaaW.PrintWords Go.Proofs.YtckjigbhdndgdaaW.PrintLast Go.Proofs.YtckjigbhdndgdaaW.PrintMore
set_option linter.unusedVariables false
set_option linter.unusedSimpArgs false

theorem u64_nat (a : Int) (h : (Lit.int .u64 a).wf = true) : ∃ n : Nat, n < 18446744073709551616 ∧ a = (n : Int) := by
  simp only [Lit.wf, Bool.and_eq_true, decide_eq_true_eq] at h
  have h0 : 0 ≤ a := h.1
  have h1 : a ≤ 18446744073709551615 := h.2
  exact ⟨a.toNat, by omega, by omega⟩
set_option maxRecDepth 100000 in
theorem awake_val : wringerlaw5_awake.f 60 = some true := by decide +kernel
theorem awake_at (k : Nat) (h : 60 ≤ k) : wringerlaw5_awake.f k = some true := at_rounds wringerlaw5_awake.mono h awake_val

theorem XxhAll : wringerlaw5_XxhAll.Pure := by
  intro a0 s a2 a3 h0 _ h2 h3
  obtain ⟨n, hn, rfl⟩ := u64_nat a0 h0
  obtain ⟨a, ha, rfl⟩ := u64_nat a2 h2
  obtain ⟨b, hb, rfl⟩ := u64_nat a3 h3
  refine ⟨3000, ?_⟩
  unfold wringerlaw5_XxhAll.f
  have aw := awake_at 3000 (by omega)
  by_cases c : (s.size : Int) > 2000
  · rw [if_pos c, aw]
    rfl
  · rw [if_neg c, sum_val s n 3000 (by omega) hn (by omega), Option.bind_some, refsum_val s n 3000 (by omega) hn (by omega), Option.bind_some, if_pos rfl, round_val, Option.bind_some, refround_val, Option.bind_some, if_pos rfl,
      mix_val a ha, Option.bind_some, refmix_val a ha, Option.bind_some, if_pos rfl, aw]
    rfl
end Go.Proofs.Ytckjigbhdndgdaa.Pure
