/- The plain statement behind MixerSteps: one weight trained goes by the input times the error over 1024, downward. Conditions: the arguments are of their Go kinds. -/
import Derived.Test.YtnhfkkffmlfkbaaPMixerStepsx2
namespace Go.Proofs.Ytnhfkkffmlfkbaa.Pure
open Go.RowKit Go.Proofs.Ytnhfkkffmlfkbaa Go.Proofs.Ytnhfkkffmlfkbaa.PMixerSteps Go.Proofs.YtnhfkkffmlfkbaaW.PrintWords Go.Proofs.YtnhfkkffmlfkbaaW.PrintLast Go.Proofs.YtnhfkkffmlfkbaaW.PrintMore
set_option linter.unusedVariables false
set_option linter.unusedSimpArgs false

def cw (x : Int) : Int := mx (-1048576) (mn x 1048576)
def ci (x : Int) : Int := mx (-2047) (mn x 2047)
theorem wrap_i (i : Nat) (h : i < 9223372036854775807) : wrap64 ((i : Int) + 1) = ((i + 1 : Nat) : Int) := by unfold wrap64; omega
/-- The sum from index i on, d more of them. -/
def msum (l0 l1 : List Int) : Int → Nat → Nat → Int
  | s, _, 0 => s
  | s, i, d + 1 => msum l0 l1 (wrap64 (s + wrap64 (cw (rd l0 (i : Int)) * ci (rd l1 (i : Int))))) (i + 1) d
def mixV (l0 l1 : List Int) : Int := sq (ci (msum l0 l1 0 0 (min l0.length l1.length) / 65536))
theorem mn_len (a b : Nat) : mn (a : Int) (b : Int) = ((min a b : Nat) : Int) := by
  unfold mn
  split <;> omega
theorem mix_loop (l0 l1 : List Int) (n : Nat) (h0 : n ≤ l0.length) (h1 : n ≤ l1.length) (hb : n < 9223372036854775807) : ∀ (d i k : Nat) (s : Int), i + d = n → d < k →
    mixer_Mix.l0 k l0 l1 s (n : Int) (i : Int) = some (sq (ci (msum l0 l1 s i d / 65536))) := by
  intro d
  induction d with
  | zero =>
    intro i k s hi hk
    obtain ⟨k, rfl⟩ : ∃ m, k = m + 1 := ⟨k - 1, by omega⟩
    simp only [mixer_Mix.l0]
    rw [if_neg (by omega)]
    rfl
  | succ d ih =>
    intro i k s hi hk
    obtain ⟨k, rfl⟩ : ∃ m, k = m + 1 := ⟨k - 1, by omega⟩
    simp only [mixer_Mix.l0]
    rw [if_pos (by omega), if_pos (by omega), if_pos (by omega)]
    simp only [mixer_weight.f, mixer_input.f, Option.bind_some]
    rw [if_pos (by omega), wrap_i i (by omega), ih (i + 1) k _ (by omega) (by omega)]
    rfl
theorem mix_val (l0 l1 : List Int) (k : Nat) (hk : min l0.length l1.length < k) (hb : l0.length < 9223372036854775807) : mixer_Mix.f k l0 l1 = some (mixV l0 l1) := by
  unfold mixer_Mix.f
  rw [mn_len]
  exact mix_loop l0 l1 (min l0.length l1.length) (Nat.min_le_left _ _) (Nat.min_le_right _ _) (by omega) (min l0.length l1.length) 0 k 0 (by omega) hk

/-- A weight behind the error x. -/
def trE (l0 l1 : List Int) (x : Int) (i : Nat) : Int := if i < l1.length then cw (wrap64 (cw (rd l0 (i : Int)) + wrap64 (ci (rd l1 (i : Int)) * x) / 1024)) else cw (rd l0 (i : Int))
def errV (p b : Int) : Int := if b = 0 then -(mx 0 (mn p 4096)) else -(mx 0 (mn p 4096)) + 4096
def trainV (l0 l1 : List Int) (p b : Int) : List Int := (List.range l0.length).map (trE l0 l1 (errV p b))
theorem range_snoc (l0 l1 : List Int) (x : Int) (i : Nat) : (List.range (i + 1)).map (trE l0 l1 x) = (List.range i).map (trE l0 l1 x) ++ [trE l0 l1 x i] := by
  rw [List.range_succ, List.map_append, List.map_singleton]
theorem train_loop (l0 l1 : List Int) (x : Int) (hb : l0.length < 17592186044416) : ∀ (d i k : Nat), i + d = l0.length → d < k →
    mixer_Train.l0 k l1 x ((List.range i).map (trE l0 l1 x)) l0 (l0.length : Int) (i : Int) = some ((List.range l0.length).map (trE l0 l1 x)) := by
  intro d
  induction d with
  | zero =>
    intro i k hi hk
    obtain ⟨k, rfl⟩ : ∃ m, k = m + 1 := ⟨k - 1, by omega⟩
    simp only [mixer_Train.l0]
    rw [if_neg (by omega)]
    obtain rfl : i = l0.length := by omega
    rfl
  | succ d ih =>
    intro i k hi hk
    obtain ⟨k, rfl⟩ : ∃ m, k = m + 1 := ⟨k - 1, by omega⟩
    have hl : ((List.range i).map (trE l0 l1 x)).length = i := by simp
    have hs := range_snoc l0 l1 x i
    simp only [mixer_Train.l0]
    rw [if_pos (by omega), if_pos (by omega), if_pos (by omega)]
    simp only [mixer_weight.f, mixer_input.f, Option.bind_some]
    by_cases hi1 : i < l1.length
    · rw [if_pos (by omega), if_pos (by omega), wrap_i i (by omega)]
      have e : trE l0 l1 x i = mx (-1048576) (mn (wrap64 (mx (-1048576) (mn (rd l0 (i : Int)) 1048576) + wrap64 (mx (-2047) (mn (rd l1 (i : Int)) 2047) * x) / 1024)) 1048576) := by
        unfold trE; rw [if_pos hi1]; rfl
      rw [← e, ← hs]
      exact ih (i + 1) k (by omega) (by omega)
    · rw [if_neg (by omega), if_pos (by omega), wrap_i i (by omega)]
      have e : trE l0 l1 x i = mx (-1048576) (mn (rd l0 (i : Int)) 1048576) := by
        unfold trE; rw [if_neg hi1]; rfl
      rw [← e, ← hs]
      exact ih (i + 1) k (by omega) (by omega)
theorem train_val (l0 l1 : List Int) (p b : Int) (k : Nat) (hk : l0.length + 1 < k) (hb : l0.length < 17592186044416) : mixer_Train.f k l0 l1 p b = some (trainV l0 l1 p b) := by
  obtain ⟨k, rfl⟩ : ∃ m, k = m + 1 := ⟨k - 1, by omega⟩
  have h := fun x => train_loop l0 l1 x hb l0.length 0 k (by omega) (by omega)
  unfold mixer_Train.f trainV errV
  split
  · simp only [mixer_Train.j0]
    exact h _
  · simp only [mixer_Train.j0]
    exact h _
theorem trainV_length (l0 l1 : List Int) (p b : Int) : (trainV l0 l1 p b).length = l0.length := by simp [trainV]
theorem trainV_rd (l0 l1 : List Int) (p b : Int) (i : Nat) (h : i < l0.length) : rd (trainV l0 l1 p b) (i : Int) = trE l0 l1 (errV p b) i := by
  unfold rd trainV
  rw [Int.toNat_natCast, List.getD_eq_getElem?_getD, List.getElem?_map, List.getElem?_range h]
  rfl

theorem same_loop (a : List Int) (hb : a.length < 9223372036854775807) : ∀ (d i k : Nat), i + d = a.length → d < k → wringerref7_SameInts.l0 k a a (i : Int) = some true := by
  intro d
  induction d with
  | zero =>
    intro i k hi hk
    obtain ⟨k, rfl⟩ : ∃ m, k = m + 1 := ⟨k - 1, by omega⟩
    simp only [wringerref7_SameInts.l0]
    rw [if_neg (by omega)]
  | succ d ih =>
    intro i k hi hk
    obtain ⟨k, rfl⟩ : ∃ m, k = m + 1 := ⟨k - 1, by omega⟩
    simp only [wringerref7_SameInts.l0]
    rw [if_pos (by omega), if_pos (by omega), if_pos (by omega), if_pos trivial, wrap_i i (by omega)]
    exact ih (i + 1) k (by omega) (by omega)
theorem same_val (a : List Int) (k : Nat) (hk : a.length < k) (hb : a.length < 9223372036854775807) : wringerref7_SameInts.f k a a = some true := by
  unfold wringerref7_SameInts.f
  rw [if_pos rfl]
  exact same_loop a hb a.length 0 k (by omega) hk

theorem awake_val : wringerlaw18_awake.f 10 = some true := by decide +kernel
theorem awake_at (k : Nat) (h : 10 ≤ k) : wringerlaw18_awake.f k = some true := at_rounds wringerlaw18_awake.mono h awake_val

theorem floor_steps (n : Int) : wrap64 (Int.tdiv n 1024) - (if n < 0 ∧ Int.tmod n 1024 ≠ 0 then 1 else 0) = n / 1024 ∨ n < -8589934592 ∨ 8589934592 < n := by
  by_cases h : n < -8589934592 ∨ 8589934592 < n
  · exact Or.inr h
  · refine Or.inl ?_
    rcases (show n < 0 ∨ 0 ≤ n by omega) with hn | hn
    · obtain ⟨m, rfl⟩ : ∃ m : Int, n = -m := ⟨-n, by omega⟩
      rw [Int.neg_tdiv, Int.neg_tmod, Int.tdiv_eq_ediv_of_nonneg (by omega), Int.tmod_eq_emod_of_nonneg (by omega)]
      have hw : wrap64 (-(m / 1024)) = -(m / 1024) := by unfold wrap64; omega
      rw [hw]
      split <;> omega
    · rw [Int.tdiv_eq_ediv_of_nonneg hn]
      have hw : wrap64 (n / 1024) = n / 1024 := by unfold wrap64; omega
      rw [hw, if_neg (by omega)]
      omega
theorem cw_small (x : Int) (h0 : -1048576 ≤ x) (h1 : x ≤ 1048576) : cw x = x := by unfold cw mx mn; split <;> split <;> omega
theorem ci_small (x : Int) (h0 : -2047 ≤ x) (h1 : x ≤ 2047) : ci x = x := by unfold ci mx mn; split <;> split <;> omega
theorem mul_bound (a b A B : Int) (h0 : -A ≤ a) (h1 : a ≤ A) (h2 : -B ≤ b) (h3 : b ≤ B) (hA : 0 ≤ A) (hB : 0 ≤ B) : -(A * B) ≤ a * b ∧ a * b ≤ A * B := by
  have h4 : (A - a) * (B + b) ≥ 0 := Int.mul_nonneg (by omega) (by omega)
  have h5 : (A + a) * (B - b) ≥ 0 := Int.mul_nonneg (by omega) (by omega)
  have h6 : (A - a) * (B - b) ≥ 0 := Int.mul_nonneg (by omega) (by omega)
  have h7 : (A + a) * (B + b) ≥ 0 := Int.mul_nonneg (by omega) (by omega)
  rw [Int.sub_mul, Int.mul_add, Int.mul_add] at h4
  rw [Int.add_mul, Int.mul_sub, Int.mul_sub] at h5
  rw [Int.sub_mul, Int.mul_sub, Int.mul_sub] at h6
  rw [Int.add_mul, Int.mul_add, Int.mul_add] at h7
  omega
/-- One weight behind an error, without a wrap or a limit. -/
theorem tr_plain (w x e : Int) (hw0 : -262144 ≤ w) (hw1 : w ≤ 262144) (hx0 : -2047 ≤ x) (hx1 : x ≤ 2047) (he0 : -4096 ≤ e) (he1 : e ≤ 4096) : cw (wrap64 (cw w + wrap64 (ci x * e) / 1024)) = w + x * e / 1024 := by
  rw [cw_small w (by omega) (by omega), ci_small x hx0 hx1]
  have hm := mul_bound x e 2047 4096 hx0 hx1 he0 he1 (by omega) (by omega)
  generalize x * e = n at *
  have e1 : wrap64 n = n := by unfold wrap64; omega
  rw [e1]
  have e2 : wrap64 (w + n / 1024) = w + n / 1024 := by unfold wrap64; omega
  rw [e2, cw_small _ (by omega) (by omega)]
theorem i16_bounds (a : Int) (h : (Lit.int .i16 a).wf = true) : -32768 ≤ a ∧ a ≤ 32767 := by
  simp only [Lit.wf, Bool.and_eq_true, decide_eq_true_eq] at h
  exact h
theorem u16_bounds (a : Int) (h : (Lit.int .u16 a).wf = true) : 0 ≤ a ∧ a ≤ 65535 := by
  simp only [Lit.wf, Bool.and_eq_true, decide_eq_true_eq] at h
  exact h
theorem tmod_small (a m : Int) (hm : 0 < m) : -(m - 1) ≤ Int.tmod a m ∧ Int.tmod a m ≤ m - 1 := by
  rcases (show a < 0 ∨ 0 ≤ a by omega) with h | h
  · obtain ⟨b, rfl⟩ : ∃ b : Int, a = -b := ⟨-a, by omega⟩
    rw [Int.neg_tmod, Int.tmod_eq_emod_of_nonneg (by omega)]
    have := Int.emod_nonneg b (show m ≠ 0 by omega)
    have := Int.emod_lt_of_pos b hm
    omega
  · rw [Int.tmod_eq_emod_of_nonneg h]
    have := Int.emod_nonneg a (show m ≠ 0 by omega)
    have := Int.emod_lt_of_pos a hm
    omega
theorem train_one (w x p b : Int) : trainV [w] [x] p b = [cw (wrap64 (cw w + wrap64 (ci x * errV p b) / 1024))] := by
  unfold trainV
  rfl

theorem same_one (a b : Int) (h : a = b) (k : Nat) (hk : 1 < k) : wringerref7_SameInts.f k [a] [b] = some true := by
  subst h
  exact same_val [a] k hk (by simp)
theorem MixerSteps : wringerlaw18_MixerSteps.Pure := by
  intro a0 a1 a2 a3 h0 h1 h2
  obtain ⟨b0, b1⟩ := i16_bounds a0 h0
  obtain ⟨c0, c1⟩ := u16_bounds a2 h2
  have hx := tmod_small (wrap64 a1) 2048 (by omega)
  have hq : 0 ≤ Int.tmod (wrap64 a2) 4097 ∧ Int.tmod (wrap64 a2) 4097 ≤ 4096 := by
    have e : wrap64 a2 = a2 := by unfold wrap64; omega
    rw [e, Int.tmod_eq_emod_of_nonneg c0]
    omega
  have e0 : wrap64 a0 = a0 := by unfold wrap64; omega
  refine ⟨100, ?_⟩
  unfold wringerlaw18_MixerSteps.f
  generalize Int.tmod (wrap64 a1) 2048 = x at *
  generalize Int.tmod (wrap64 a2) 4097 = q at *
  have key : ∀ b e : Int, errV q b = e → -4096 ≤ e → e ≤ 4096 → wringerlaw18_MixerSteps.j0 100 a0 x q b e = some true := by
    intro b e hb he0 he1
    have hm := mul_bound x e 2047 4096 (by omega) (by omega) he0 he1 (by omega) (by omega)
    have ht : trainV [a0] [x] q b = [a0 + x * e / 1024] := by
      rw [train_one, hb, tr_plain a0 x e (by omega) (by omega) (by omega) (by omega) he0 he1]
    have hf := (floor_steps (x * e)).resolve_right (by omega)
    simp only [wringerlaw18_MixerSteps.j0]
    generalize x * e = n at *
    have e1 : wrap64 n = n := by unfold wrap64; omega
    rw [e1]
    have fin : ∀ d : Int, d = n / 1024 → ((mixer_Train.f 98 [wrap64 a0] [x] q b).bind fun t => (wringerref7_SameInts.f 98 t [wrap64 (wrap64 a0 + d)]).bind fun s => if s = true then (wringerlaw18_awake.f 98).bind fun r => some r else some false) = some true := by
      intro d hd
      rw [e0, train_val [a0] [x] q b 98 (by simp) (by simp)]
      simp only [Option.bind_some]
      rw [ht, same_one (a0 + n / 1024) (wrap64 (a0 + d)) (by rw [hd]; unfold wrap64; omega) 98 (by omega)]
      simp only [Option.bind_some, if_true]
      rw [awake_at 98 (by omega)]
      rfl
    by_cases hn : n < 0
    · rw [if_pos hn]
      by_cases hr : Int.tmod n 1024 = 0
      · have eb : (Int.tmod n 1024 != 0) = false := by rw [hr]; rfl
        rw [eb]
        simp only [wringerlaw18_MixerSteps.j1, if_neg Bool.false_ne_true]
        refine fin _ ?_
        rw [if_neg (by omega)] at hf
        omega
      · have eb : (Int.tmod n 1024 != 0) = true := bne_iff_ne.2 hr
        rw [eb]
        simp only [wringerlaw18_MixerSteps.j1, if_true]
        rw [if_pos ⟨hn, hr⟩] at hf
        refine fin _ ?_
        have : wrap64 (wrap64 (Int.tdiv n 1024) - 1) = wrap64 (Int.tdiv n 1024) - 1 := by rw [hf]; unfold wrap64; omega
        rw [this]
        exact hf
    · rw [if_neg hn]
      simp only [wringerlaw18_MixerSteps.j1, if_neg Bool.false_ne_true]
      refine fin _ ?_
      rw [if_neg (by omega)] at hf
      omega
  have hmx : mx 0 (mn q 4096) = q := by unfold mx mn; split <;> split <;> omega
  cases a3
  · rw [if_neg Bool.false_ne_true]
    have e : wrap64 (-q) = -q := by unfold wrap64; omega
    rw [e]
    exact key 0 (-q) (by unfold errV; rw [if_pos rfl, hmx]) (by omega) (by omega)
  · rw [if_pos rfl]
    have e : wrap64 (4096 - q) = 4096 - q := by unfold wrap64; omega
    rw [e]
    exact key 7 (4096 - q) (by unfold errV; rw [if_neg (by omega), hmx]; omega) (by omega) (by omega)
end Go.Proofs.Ytnhfkkffmlfkbaa.Pure
