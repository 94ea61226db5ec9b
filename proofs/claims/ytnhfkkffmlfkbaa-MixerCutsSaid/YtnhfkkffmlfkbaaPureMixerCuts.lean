/- The plain statement behind MixerCuts: weights and inputs beyond their limits are the limits, a weight turned round turns the chance, and what stands beyond the shorter list plays no part. Conditions: the arguments are of their Go kinds. -/
import Derived.Test.YtnhfkkffmlfkbaaPMixerCutsx2
namespace Go.Proofs.Ytnhfkkffmlfkbaa.Pure
open Go.RowKit Go.Proofs.Ytnhfkkffmlfkbaa Go.Proofs.Ytnhfkkffmlfkbaa.PMixerCuts Go.Proofs.YtnhfkkffmlfkbaaW.PrintWords Go.Proofs.YtnhfkkffmlfkbaaW.PrintLast Go.Proofs.YtnhfkkffmlfkbaaW.PrintMore
set_option linter.unusedVariables false
set_option linter.unusedSimpArgs false

def cw (x : Int) : Int := mx (-1048576) (mn x 1048576)
def ci (x : Int) : Int := mx (-2047) (mn x 2047)
theorem wrap_i (i : Nat) (h : i < 9223372036854775807) : wrap64 ((i : Int) + 1) = ((i + 1 : Nat) : Int) := by unfold wrap64; omega
/-- The sum from index i on, d more of them. -/
def msum (l0 l1 : List Int) : Int → Nat → Nat → Int
  | s, _, 0 => s
  | s, i, d + 1 => msum l0 l1 (wrap64 (s + wrap64 (cw (rd l0 (i : Int)) * ci (rd l1 (i : Int))))) (i + 1) d
def mixV (l0 l1 : List Int) : Int := sq (ci (msum l0 l1 0 0 (min l0.length l1.length) / 65536))
theorem mn_len (a b : Nat) : mn (a : Int) (b : Int) = ((min a b : Nat) : Int) := by
  unfold mn
  split <;> omega
theorem mix_loop (l0 l1 : List Int) (n : Nat) (h0 : n ≤ l0.length) (h1 : n ≤ l1.length) (hb : n < 9223372036854775807) : ∀ (d i k : Nat) (s : Int), i + d = n → d < k →
    mixer_Mix.l0 k l0 l1 s (n : Int) (i : Int) = some (sq (ci (msum l0 l1 s i d / 65536))) := by
  intro d
  induction d with
  | zero =>
    intro i k s hi hk
    obtain ⟨k, rfl⟩ : ∃ m, k = m + 1 := ⟨k - 1, by omega⟩
    simp only [mixer_Mix.l0]
    rw [if_neg (by omega)]
    rfl
  | succ d ih =>
    intro i k s hi hk
    obtain ⟨k, rfl⟩ : ∃ m, k = m + 1 := ⟨k - 1, by omega⟩
    simp only [mixer_Mix.l0]
    rw [if_pos (by omega), if_pos (by omega), if_pos (by omega)]
    simp only [mixer_weight.f, mixer_input.f, Option.bind_some]
    rw [if_pos (by omega), wrap_i i (by omega), ih (i + 1) k _ (by omega) (by omega)]
    rfl
theorem mix_val (l0 l1 : List Int) (k : Nat) (hk : min l0.length l1.length < k) (hb : l0.length < 9223372036854775807) : mixer_Mix.f k l0 l1 = some (mixV l0 l1) := by
  unfold mixer_Mix.f
  rw [mn_len]
  exact mix_loop l0 l1 (min l0.length l1.length) (Nat.min_le_left _ _) (Nat.min_le_right _ _) (by omega) (min l0.length l1.length) 0 k 0 (by omega) hk

/-- A weight behind the error x. -/
def trE (l0 l1 : List Int) (x : Int) (i : Nat) : Int := if i < l1.length then cw (wrap64 (cw (rd l0 (i : Int)) + wrap64 (ci (rd l1 (i : Int)) * x) / 1024)) else cw (rd l0 (i : Int))
def errV (p b : Int) : Int := if b = 0 then -(mx 0 (mn p 4096)) else -(mx 0 (mn p 4096)) + 4096
def trainV (l0 l1 : List Int) (p b : Int) : List Int := (List.range l0.length).map (trE l0 l1 (errV p b))
theorem range_snoc (l0 l1 : List Int) (x : Int) (i : Nat) : (List.range (i + 1)).map (trE l0 l1 x) = (List.range i).map (trE l0 l1 x) ++ [trE l0 l1 x i] := by
  rw [List.range_succ, List.map_append, List.map_singleton]
theorem train_loop (l0 l1 : List Int) (x : Int) (hb : l0.length < 17592186044416) : ∀ (d i k : Nat), i + d = l0.length → d < k →
    mixer_Train.l0 k l1 x ((List.range i).map (trE l0 l1 x)) l0 (l0.length : Int) (i : Int) = some ((List.range l0.length).map (trE l0 l1 x)) := by
  intro d
  induction d with
  | zero =>
    intro i k hi hk
    obtain ⟨k, rfl⟩ : ∃ m, k = m + 1 := ⟨k - 1, by omega⟩
    simp only [mixer_Train.l0]
    rw [if_neg (by omega)]
    obtain rfl : i = l0.length := by omega
    rfl
  | succ d ih =>
    intro i k hi hk
    obtain ⟨k, rfl⟩ : ∃ m, k = m + 1 := ⟨k - 1, by omega⟩
    have hl : ((List.range i).map (trE l0 l1 x)).length = i := by simp
    have hs := range_snoc l0 l1 x i
    simp only [mixer_Train.l0]
    rw [if_pos (by omega), if_pos (by omega), if_pos (by omega)]
    simp only [mixer_weight.f, mixer_input.f, Option.bind_some]
    by_cases hi1 : i < l1.length
    · rw [if_pos (by omega), if_pos (by omega), wrap_i i (by omega)]
      have e : trE l0 l1 x i = mx (-1048576) (mn (wrap64 (mx (-1048576) (mn (rd l0 (i : Int)) 1048576) + wrap64 (mx (-2047) (mn (rd l1 (i : Int)) 2047) * x) / 1024)) 1048576) := by
        unfold trE; rw [if_pos hi1]; rfl
      rw [← e, ← hs]
      exact ih (i + 1) k (by omega) (by omega)
    · rw [if_neg (by omega), if_pos (by omega), wrap_i i (by omega)]
      have e : trE l0 l1 x i = mx (-1048576) (mn (rd l0 (i : Int)) 1048576) := by
        unfold trE; rw [if_neg hi1]; rfl
      rw [← e, ← hs]
      exact ih (i + 1) k (by omega) (by omega)
theorem train_val (l0 l1 : List Int) (p b : Int) (k : Nat) (hk : l0.length + 1 < k) (hb : l0.length < 17592186044416) : mixer_Train.f k l0 l1 p b = some (trainV l0 l1 p b) := by
  obtain ⟨k, rfl⟩ : ∃ m, k = m + 1 := ⟨k - 1, by omega⟩
  have h := fun x => train_loop l0 l1 x hb l0.length 0 k (by omega) (by omega)
  unfold mixer_Train.f trainV errV
  split
  · simp only [mixer_Train.j0]
    exact h _
  · simp only [mixer_Train.j0]
    exact h _
theorem trainV_length (l0 l1 : List Int) (p b : Int) : (trainV l0 l1 p b).length = l0.length := by simp [trainV]
theorem trainV_rd (l0 l1 : List Int) (p b : Int) (i : Nat) (h : i < l0.length) : rd (trainV l0 l1 p b) (i : Int) = trE l0 l1 (errV p b) i := by
  unfold rd trainV
  rw [Int.toNat_natCast, List.getD_eq_getElem?_getD, List.getElem?_map, List.getElem?_range h]
  rfl

theorem same_loop (a : List Int) (hb : a.length < 9223372036854775807) : ∀ (d i k : Nat), i + d = a.length → d < k → wringerref7_SameInts.l0 k a a (i : Int) = some true := by
  intro d
  induction d with
  | zero =>
    intro i k hi hk
    obtain ⟨k, rfl⟩ : ∃ m, k = m + 1 := ⟨k - 1, by omega⟩
    simp only [wringerref7_SameInts.l0]
    rw [if_neg (by omega)]
  | succ d ih =>
    intro i k hi hk
    obtain ⟨k, rfl⟩ : ∃ m, k = m + 1 := ⟨k - 1, by omega⟩
    simp only [wringerref7_SameInts.l0]
    rw [if_pos (by omega), if_pos (by omega), if_pos (by omega), if_pos trivial, wrap_i i (by omega)]
    exact ih (i + 1) k (by omega) (by omega)
theorem same_val (a : List Int) (k : Nat) (hk : a.length < k) (hb : a.length < 9223372036854775807) : wringerref7_SameInts.f k a a = some true := by
  unfold wringerref7_SameInts.f
  rw [if_pos rfl]
  exact same_loop a hb a.length 0 k (by omega) hk

theorem awake_val : wringerlaw18_awake.f 10 = some true := by decide +kernel
theorem awake_at (k : Nat) (h : 10 ≤ k) : wringerlaw18_awake.f k = some true := at_rounds wringerlaw18_awake.mono h awake_val

theorem cw_big (x : Int) (h : 1048576 ≤ x) : cw x = 1048576 := by unfold cw mx mn; split <;> split <;> omega
theorem cw_low (x : Int) (h : x ≤ -1048576) : cw x = -1048576 := by unfold cw mx mn; split <;> split <;> omega
theorem ci_big (x : Int) (h : 2047 ≤ x) : ci x = 2047 := by unfold ci mx mn; split <;> split <;> omega
theorem rd_hd (x : Int) (l : List Int) : rd (x :: l) ((0 : Nat) : Int) = x := rfl
theorem mixV_hd (w x : Int) (W X : List Int) (h : min W.length X.length = 0) : mixV (w :: W) (x :: X) = sq (ci (wrap64 (0 + wrap64 (cw w * ci x)) / 65536)) := by
  unfold mixV
  have e : min (w :: W).length (x :: X).length = 1 := by rw [List.length_cons, List.length_cons]; omega
  rw [e]
  rfl
theorem sq_two : sq (ci (wrap64 (0 + wrap64 (-1048576 * ci 5)) / 65536)) = wrap64 (4096 - sq (ci (wrap64 (0 + wrap64 (1048576 * ci 5)) / 65536))) := by decide +kernel
theorem u32_wrap (a : Int) (b : Int) (h : (Lit.int .u32 a).wf = true) (h0 : 0 ≤ b) (h1 : b ≤ 2000000) : b ≤ wrap64 (b + wrap64 a) ∧ wrap64 (b + wrap64 a) ≤ 5000000000 := by
  simp only [Lit.wf, Bool.and_eq_true, decide_eq_true_eq] at h
  have h2 : 0 ≤ a := h.1
  have h3 : a ≤ 4294967295 := h.2
  have e1 : wrap64 a = a := by unfold wrap64; omega
  rw [e1]
  have e2 : wrap64 (b + a) = b + a := by unfold wrap64; omega
  rw [e2]
  omega
theorem train_two (W V : Int) (hW : cw W = 1048576) (hV : cw V = -1048576) : trainV [W, V] [0] 9 1 = [1048576, (-1048576)] := by
  have e : trainV [W, V] [0] 9 1 = [trE [W, V] [0] (errV 9 1) 0, trE [W, V] [0] (errV 9 1) 1] := rfl
  rw [e]
  have e0 : trE [W, V] [0] (errV 9 1) 0 = cw (wrap64 (cw W + wrap64 (ci 0 * errV 9 1) / 1024)) := rfl
  have e1 : trE [W, V] [0] (errV 9 1) 1 = cw V := rfl
  rw [e0, e1, hW, hV]
  have e2 : cw (wrap64 (1048576 + wrap64 (ci 0 * errV 9 1) / 1024)) = 1048576 := by decide +kernel
  rw [e2]
theorem MixerCuts : wringerlaw18_MixerCuts.Pure := by
  intro a0 a1 l2 h0 h1 hl _ _
  refine ⟨100, ?_⟩
  unfold wringerlaw18_MixerCuts.f
  by_cases c : (l2.length : Int) > 40
  · rw [if_pos c, awake_at 100 (by omega)]
    rfl
  · rw [if_neg c]
    obtain ⟨w0, w1⟩ := u32_wrap a0 1048576 h0 (by omega) (by omega)
    obtain ⟨x0, x1⟩ := u32_wrap a1 2047 h1 (by omega) (by omega)
    generalize wrap64 (1048576 + wrap64 a0) = W at *
    generalize wrap64 (2047 + wrap64 a1) = X at *
    have ev : wrap64 (-W) = -W := by unfold wrap64; omega
    have cV : cw (wrap64 (-W)) = -1048576 := cw_low _ (by omega)
    generalize wrap64 (-W) = V at *
    have cW : cw W = 1048576 := cw_big W (by omega)
    have cX : ci X = 2047 := ci_big X (by omega)
    have m : ∀ (w x : Int) (P Q : List Int), min P.length Q.length = 0 → P.length ≤ 40 → mixer_Mix.f 100 (w :: P) (x :: Q) = some (sq (ci (wrap64 (0 + wrap64 (cw w * ci x)) / 65536))) := by
      intro w x P Q hPQ hP
      rw [mix_val (w :: P) (x :: Q) 100 (by rw [List.length_cons, List.length_cons]; omega) (by rw [List.length_cons]; omega), mixV_hd w x P Q hPQ]
    rw [m W 5 [] [] rfl (by decide), m 300 X [] [] rfl (by decide), m V 5 [] [] rfl (by decide), m 1048576 5 [] [] rfl (by decide), m 300 2047 [] [] rfl (by decide), m 1000 77 [] [] rfl (by decide), train_val [W, V] [0] 9 1 100 (by simp) (by simp), train_two W V cW cV]
    simp only [Option.bind_some, List.singleton_append]
    rw [cW, cX, cV, m 1000 77 l2 [] (by simp) (by omega), m 1000 77 [] l2 (by simp) (by decide)]
    have c1 : cw 1048576 = 1048576 := by decide
    have c2 : ci 2047 = 2047 := by decide
    rw [c1, c2, sq_two, same_val _ 100 (by decide) (by decide), awake_at 100 (by omega), if_pos (by rw [List.length_singleton]; omega)]
    simp only [Option.bind_some, if_true]
    rw [if_pos (by rw [List.length_singleton]; omega)]
end Go.Proofs.Ytnhfkkffmlfkbaa.Pure
