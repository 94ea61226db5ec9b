/- What an encoder, or a decoder, that is not there tells; how long the bytes of likely bits and of direct bits are. Conditions: as stated. -/
import Derived.Test.YtgldblakdhalkaaGTwoE
namespace Go.Proofs.Ytgldblakdhalkaa
set_option linter.unusedVariables false
open Go.RowKit Go.Proofs.YtgldblakdhalkaaW.PrintWords Go.Proofs.YtgldblakdhalkaaW.PrintLast Go.Proofs.YtgldblakdhalkaaW.PrintMore Go.Proofs.Ytgldblakdhalkaa.PBase
set_option maxHeartbeats 2000000 in
set_option maxRecDepth 100000 in
theorem enc_Bit.none (p b : Int) (w : World) :
    Calls Try.prog 26 #[.pointer none, .int .i64 p, .int .i64 b] w fun r w' => r = .returned (.tuple #[]) ∧ Below w.heap.size w w' := by
  go_enter Try.func26, Try.ntmps26
  go_wp2_with fail
  refine bodyPost_ret (results_none rfl _ _ _) rfl ?_
  exact ⟨rfl, Below.refl _ _⟩
set_option maxHeartbeats 2000000 in
set_option maxRecDepth 100000 in
theorem enc_Direct.none (v n : Int) (w : World) :
    Calls Try.prog 24 #[.pointer none, .int .u64 v, .int .i64 n] w fun r w' => r = .returned (.tuple #[]) ∧ Below w.heap.size w w' := by
  go_enter Try.func24, Try.ntmps24
  go_wp2_with fail
  refine bodyPost_ret (results_none rfl _ _ _) rfl ?_
  exact ⟨rfl, Below.refl _ _⟩
set_option maxHeartbeats 2000000 in
set_option maxRecDepth 100000 in
theorem enc_Bytes.none (w : World) :
    Calls Try.prog 28 #[.pointer none] w fun r w' => r = .returned (.string ⟨#[]⟩) ∧ Below w.heap.size w w' := by
  go_enter Try.func28, Try.ntmps28
  go_wp2_with fail
  go_ret
  exact ⟨rfl, Below.refl _ _⟩
set_option maxHeartbeats 2000000 in
set_option maxRecDepth 100000 in
theorem dec_gate.none (w : World) :
    Calls Try.prog 54 #[.pointer none] w fun r w' => r = .returned (.int .i64 6) ∧ Below w.heap.size w w' := by
  go_enter Try.func54, Try.ntmps54
  go_wp2_with fail
  go_ret
  exact ⟨rfl, Below.refl _ _⟩
set_option maxHeartbeats 2000000 in
set_option maxRecDepth 100000 in
theorem dec_Bit.none (p : Int) (w : World) :
    Calls Try.prog 34 #[.pointer none, .int .i64 p] w fun r w' => r = .returned (.tuple #[.int .i64 0, .int .i64 6]) ∧ Below w.heap.size w w' := by
  go_enter Try.func34, Try.ntmps34
  go_wp2_with fail
  refine (dec_gate.none w).mono ?_
  rintro r w1 ⟨rfl, hb⟩
  go_wp2_with fail
  go_ret2
  exact ⟨rfl, hb⟩
set_option maxHeartbeats 2000000 in
set_option maxRecDepth 100000 in
theorem dec_Direct.none (n : Int) (w : World) :
    Calls Try.prog 32 #[.pointer none, .int .i64 n] w fun r w' => r = .returned (.tuple #[.int .u64 0, .int .i64 6]) ∧ Below w.heap.size w w' := by
  go_enter Try.func32, Try.ntmps32
  go_wp2_with fail
  go_ret2
  exact ⟨rfl, Below.refl _ _⟩
set_option maxHeartbeats 2000000 in
set_option maxRecDepth 100000 in
theorem dec_End.none (w : World) :
    Calls Try.prog 36 #[.pointer none] w fun r w' => r = .returned (.int .i64 6) ∧ Below w.heap.size w w' := by
  go_enter Try.func36, Try.ntmps36
  go_wp2_with fail
  refine (dec_gate.none w).mono ?_
  rintro r w1 ⟨rfl, hb⟩
  go_wp2_with fail
  go_ret
  exact ⟨rfl, hb⟩
/-! ### How long -/
/-- A likely bit again and again. -/
def likE : Nat → Enc
  | 0 => Enc.new
  | k + 1 => bitE 4095 true (likE k)
theorem likE_at : ∀ k, k ≤ 1000 → (likE k).V = 0 ∧ (likE k).L = 1 ∧ 4294967295 ≤ (likE k).R + 1052671 * k ∧ (likE k).R ≤ 4294967295
  | 0, _ => ⟨rfl, rfl, by show 4294967295 ≤ 4294967295 + 1052671 * 0; omega, by show 4294967295 ≤ 4294967295; omega⟩
  | k + 1, h => by
    obtain ⟨h1, h2, h3, h4⟩ := likE_at k (by omega)
    have hs : shareN (likE k).R 4095 = (likE k).R / 4096 * 4095 := by
      have : cutN 4095 = 4095 := by decide
      unfold shareN
      rw [this]
    have hE : likE (k + 1) = ⟨(likE k).V, (likE k).L, (likE k).R / 4096 * 4095⟩ := by
      show growE 4 (bitP 4095 true (likE k)) = _
      unfold bitP
      rw [if_pos rfl, hs]
      unfold growE
      rw [if_neg (by simp only; omega)]
    rw [hE]
    clear hE hs
    obtain ⟨R, hR⟩ : ∃ R, (likE k).R = R := ⟨_, rfl⟩
    rw [hR] at h3 h4 ⊢
    refine ⟨h1, h2, ?_, ?_⟩
    · have h5 : 4294967295 ≤ R / 4096 * 4095 + 1052671 * (k + 1) := by omega
      exact h5
    · have h5 : R / 4096 * 4095 ≤ 4294967295 := by omega
      exact h5
theorem likE_ok : ∀ k, (likE k).ok
  | 0 => Enc.new_ok
  | k + 1 => bitE_ok (likE_ok k) _ _
/-- How the range grows, and by how many bytes. -/
def gr : Nat → Nat → Nat × Nat
  | 0, R => (0, R)
  | k + 1, R => if R < 16777216 then ((gr k (R * 256)).1 + 1, (gr k (R * 256)).2) else (0, R)
theorem grow_gr : ∀ (k : Nat) (e : Enc), (growE k e).L = e.L + (gr k e.R).1 ∧ (growE k e).R = (gr k e.R).2
  | 0, e => ⟨rfl, rfl⟩
  | k + 1, e => by
    unfold growE gr
    by_cases c : e.R < 16777216
    · rw [if_pos c, if_pos c]
      obtain ⟨h1, h2⟩ := grow_gr k e.up
      rw [h1, h2]
      unfold Enc.up
      simp only
      exact ⟨by omega, trivial⟩
    · rw [if_neg c, if_neg c]
      exact ⟨rfl, rfl⟩
def dr : Nat → Nat → Nat × Nat
  | 0, R => (0, R)
  | i + 1, R => ((gr 4 (R / 2)).1 + (dr i (gr 4 (R / 2)).2).1, (dr i (gr 4 (R / 2)).2).2)
theorem half_gr (b : Bool) (e : Enc) : (halfE b e).L = e.L + (gr 4 (e.R / 2)).1 ∧ (halfE b e).R = (gr 4 (e.R / 2)).2 := by
  have h := grow_gr 4 (halfP b e)
  have h1 : (halfP b e).L = e.L := by unfold halfP; cases b <;> rfl
  have h2 : (halfP b e).R = e.R / 2 := by unfold halfP; cases b <;> rfl
  rw [h1, h2] at h
  exact h
theorem direct_dr (v : Nat) : ∀ (i : Nat) (e : Enc), (directE v i e).L = e.L + (dr i e.R).1 ∧ (directE v i e).R = (dr i e.R).2
  | 0, e => ⟨rfl, rfl⟩
  | i + 1, e => by
    obtain ⟨h1, h2⟩ := direct_dr v i (halfE (v / 2 ^ i % 2 == 1) e)
    obtain ⟨k1, k2⟩ := half_gr (v / 2 ^ i % 2 == 1) e
    unfold directE dr
    rw [h1, h2, k2, k1]
    simp only
    exact ⟨by omega, trivial⟩
theorem dr64a : dr 64 4294967295 = (8, 4294967040) := by decide +kernel
theorem dr64b : dr 64 4294967040 = (8, 4294967040) := by decide +kernel
/-- 64 direct bits again and again. -/
def dirsE (v : Nat) : Nat → Enc
  | 0 => Enc.new
  | k + 1 => directE v 64 (dirsE v k)
theorem dirsE_at (v : Nat) : ∀ k, (dirsE v k).L = 1 + 8 * k ∧ ((dirsE v k).R = 4294967295 ∨ (dirsE v k).R = 4294967040)
  | 0 => ⟨rfl, Or.inl rfl⟩
  | k + 1 => by
    obtain ⟨h1, h2⟩ := dirsE_at v k
    obtain ⟨k1, k2⟩ := direct_dr v 64 (dirsE v k)
    show (directE v 64 (dirsE v k)).L = _ ∧ ((directE v 64 (dirsE v k)).R = _ ∨ (directE v 64 (dirsE v k)).R = _)
    rcases h2 with h2 | h2
    · rw [h2, dr64a] at k1 k2
      exact ⟨by rw [k1, h1]; simp only; omega, Or.inr k2⟩
    · rw [h2, dr64b] at k1 k2
      exact ⟨by rw [k1, h1]; simp only; omega, Or.inr k2⟩
theorem dirsE_ok (v : Nat) : ∀ k, (dirsE v k).ok
  | 0 => Enc.new_ok
  | k + 1 => directE_ok v 64 _ (dirsE_ok v k)
end Go.Proofs.Ytgldblakdhalkaa
