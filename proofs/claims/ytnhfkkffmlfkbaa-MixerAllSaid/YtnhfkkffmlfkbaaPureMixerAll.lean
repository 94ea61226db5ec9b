/- The plain statement behind MixerAll: any weights and inputs mixed and trained are the reference's, and both lists stay. Conditions: the arguments are of their Go kinds. -/
import Derived.Test.YtnhfkkffmlfkbaaPMixerAllx3
namespace Go.Proofs.Ytnhfkkffmlfkbaa.Pure
open Go.RowKit Go.Proofs.Ytnhfkkffmlfkbaa Go.Proofs.Ytnhfkkffmlfkbaa.PMixerAll Go.Proofs.YtnhfkkffmlfkbaaW.PrintWords Go.Proofs.YtnhfkkffmlfkbaaW.PrintLast Go.Proofs.YtnhfkkffmlfkbaaW.PrintMore
set_option linter.unusedVariables false
set_option linter.unusedSimpArgs false

def cw (x : Int) : Int := mx (-1048576) (mn x 1048576)
def ci (x : Int) : Int := mx (-2047) (mn x 2047)
theorem wrap_i (i : Nat) (h : i < 9223372036854775807) : wrap64 ((i : Int) + 1) = ((i + 1 : Nat) : Int) := by unfold wrap64; omega
/-- The sum from index i on, d more of them. -/
def msum (l0 l1 : List Int) : Int → Nat → Nat → Int
  | s, _, 0 => s
  | s, i, d + 1 => msum l0 l1 (wrap64 (s + wrap64 (cw (rd l0 (i : Int)) * ci (rd l1 (i : Int))))) (i + 1) d
def mixV (l0 l1 : List Int) : Int := sq (ci (msum l0 l1 0 0 (min l0.length l1.length) / 65536))
theorem mn_len (a b : Nat) : mn (a : Int) (b : Int) = ((min a b : Nat) : Int) := by
  unfold mn
  split <;> omega
theorem mix_loop (l0 l1 : List Int) (n : Nat) (h0 : n ≤ l0.length) (h1 : n ≤ l1.length) (hb : n < 9223372036854775807) : ∀ (d i k : Nat) (s : Int), i + d = n → d < k →
    mixer_Mix.l0 k l0 l1 s (n : Int) (i : Int) = some (sq (ci (msum l0 l1 s i d / 65536))) := by
  intro d
  induction d with
  | zero =>
    intro i k s hi hk
    obtain ⟨k, rfl⟩ : ∃ m, k = m + 1 := ⟨k - 1, by omega⟩
    simp only [mixer_Mix.l0]
    rw [if_neg (by omega)]
    rfl
  | succ d ih =>
    intro i k s hi hk
    obtain ⟨k, rfl⟩ : ∃ m, k = m + 1 := ⟨k - 1, by omega⟩
    simp only [mixer_Mix.l0]
    rw [if_pos (by omega), if_pos (by omega), if_pos (by omega)]
    simp only [mixer_weight.f, mixer_input.f, Option.bind_some]
    rw [if_pos (by omega), wrap_i i (by omega), ih (i + 1) k _ (by omega) (by omega)]
    rfl
theorem mix_val (l0 l1 : List Int) (k : Nat) (hk : min l0.length l1.length < k) (hb : l0.length < 9223372036854775807) : mixer_Mix.f k l0 l1 = some (mixV l0 l1) := by
  unfold mixer_Mix.f
  rw [mn_len]
  exact mix_loop l0 l1 (min l0.length l1.length) (Nat.min_le_left _ _) (Nat.min_le_right _ _) (by omega) (min l0.length l1.length) 0 k 0 (by omega) hk

/-- A weight behind the error x. -/
def trE (l0 l1 : List Int) (x : Int) (i : Nat) : Int := if i < l1.length then cw (wrap64 (cw (rd l0 (i : Int)) + wrap64 (ci (rd l1 (i : Int)) * x) / 1024)) else cw (rd l0 (i : Int))
def errV (p b : Int) : Int := if b = 0 then -(mx 0 (mn p 4096)) else -(mx 0 (mn p 4096)) + 4096
def trainV (l0 l1 : List Int) (p b : Int) : List Int := (List.range l0.length).map (trE l0 l1 (errV p b))
theorem range_snoc (l0 l1 : List Int) (x : Int) (i : Nat) : (List.range (i + 1)).map (trE l0 l1 x) = (List.range i).map (trE l0 l1 x) ++ [trE l0 l1 x i] := by
  rw [List.range_succ, List.map_append, List.map_singleton]
theorem train_loop (l0 l1 : List Int) (x : Int) (hb : l0.length < 17592186044416) : ∀ (d i k : Nat), i + d = l0.length → d < k →
    mixer_Train.l0 k l1 x ((List.range i).map (trE l0 l1 x)) l0 (l0.length : Int) (i : Int) = some ((List.range l0.length).map (trE l0 l1 x)) := by
  intro d
  induction d with
  | zero =>
    intro i k hi hk
    obtain ⟨k, rfl⟩ : ∃ m, k = m + 1 := ⟨k - 1, by omega⟩
    simp only [mixer_Train.l0]
    rw [if_neg (by omega)]
    obtain rfl : i = l0.length := by omega
    rfl
  | succ d ih =>
    intro i k hi hk
    obtain ⟨k, rfl⟩ : ∃ m, k = m + 1 := ⟨k - 1, by omega⟩
    have hl : ((List.range i).map (trE l0 l1 x)).length = i := by simp
    have hs := range_snoc l0 l1 x i
    simp only [mixer_Train.l0]
    rw [if_pos (by omega), if_pos (by omega), if_pos (by omega)]
    simp only [mixer_weight.f, mixer_input.f, Option.bind_some]
    by_cases hi1 : i < l1.length
    · rw [if_pos (by omega), if_pos (by omega), wrap_i i (by omega)]
      have e : trE l0 l1 x i = mx (-1048576) (mn (wrap64 (mx (-1048576) (mn (rd l0 (i : Int)) 1048576) + wrap64 (mx (-2047) (mn (rd l1 (i : Int)) 2047) * x) / 1024)) 1048576) := by
        unfold trE; rw [if_pos hi1]; rfl
      rw [← e, ← hs]
      exact ih (i + 1) k (by omega) (by omega)
    · rw [if_neg (by omega), if_pos (by omega), wrap_i i (by omega)]
      have e : trE l0 l1 x i = mx (-1048576) (mn (rd l0 (i : Int)) 1048576) := by
        unfold trE; rw [if_neg hi1]; rfl
      rw [← e, ← hs]
      exact ih (i + 1) k (by omega) (by omega)
theorem train_val (l0 l1 : List Int) (p b : Int) (k : Nat) (hk : l0.length + 1 < k) (hb : l0.length < 17592186044416) : mixer_Train.f k l0 l1 p b = some (trainV l0 l1 p b) := by
  obtain ⟨k, rfl⟩ : ∃ m, k = m + 1 := ⟨k - 1, by omega⟩
  have h := fun x => train_loop l0 l1 x hb l0.length 0 k (by omega) (by omega)
  unfold mixer_Train.f trainV errV
  split
  · simp only [mixer_Train.j0]
    exact h _
  · simp only [mixer_Train.j0]
    exact h _
theorem trainV_length (l0 l1 : List Int) (p b : Int) : (trainV l0 l1 p b).length = l0.length := by simp [trainV]
theorem trainV_rd (l0 l1 : List Int) (p b : Int) (i : Nat) (h : i < l0.length) : rd (trainV l0 l1 p b) (i : Int) = trE l0 l1 (errV p b) i := by
  unfold rd trainV
  rw [Int.toNat_natCast, List.getD_eq_getElem?_getD, List.getElem?_map, List.getElem?_range h]
  rfl

theorem same_loop (a : List Int) (hb : a.length < 9223372036854775807) : ∀ (d i k : Nat), i + d = a.length → d < k → wringerref7_SameInts.l0 k a a (i : Int) = some true := by
  intro d
  induction d with
  | zero =>
    intro i k hi hk
    obtain ⟨k, rfl⟩ : ∃ m, k = m + 1 := ⟨k - 1, by omega⟩
    simp only [wringerref7_SameInts.l0]
    rw [if_neg (by omega)]
  | succ d ih =>
    intro i k hi hk
    obtain ⟨k, rfl⟩ : ∃ m, k = m + 1 := ⟨k - 1, by omega⟩
    simp only [wringerref7_SameInts.l0]
    rw [if_pos (by omega), if_pos (by omega), if_pos (by omega), if_pos trivial, wrap_i i (by omega)]
    exact ih (i + 1) k (by omega) (by omega)
theorem same_val (a : List Int) (k : Nat) (hk : a.length < k) (hb : a.length < 9223372036854775807) : wringerref7_SameInts.f k a a = some true := by
  unfold wringerref7_SameInts.f
  rw [if_pos rfl]
  exact same_loop a hb a.length 0 k (by omega) hk

theorem awake_val : wringerlaw18_awake.f 10 = some true := by decide +kernel
theorem awake_at (k : Nat) (h : 10 ≤ k) : wringerlaw18_awake.f k = some true := at_rounds wringerlaw18_awake.mono h awake_val

theorem cut_w (x : Int) : wringerref15_cut.f x 1048576 = some (cw x) := by
  have e : wrap64 (-1048576) = -1048576 := by unfold wrap64; omega
  unfold wringerref15_cut.f cw
  rw [e]
theorem cut_i (x : Int) : wringerref15_cut.f x 2047 = some (ci x) := by
  have e : wrap64 (-2047) = -2047 := by unfold wrap64; omega
  unfold wringerref15_cut.f ci
  rw [e]
theorem refmix_loop (l0 l1 : List Int) (hb : l0.length < 9223372036854775807) : ∀ (d i k : Nat) (s : Int), i + d = min l0.length l1.length → 2 * d + 1 < k →
    wringerref15_Mix.l0 k l0 l1 s (i : Int) = some (sq (ci (msum l0 l1 s i d / 65536))) := by
  intro d
  induction d with
  | zero =>
    intro i k s hi hk
    obtain ⟨k, rfl⟩ : ∃ m, k = m + 2 := ⟨k - 2, by omega⟩
    simp only [wringerref15_Mix.l0]
    by_cases h : i < l0.length
    · rw [if_pos (by omega)]
      have e : decide ((i : Int) < (l1.length : Int)) = false := decide_eq_false (by omega)
      rw [e]
      simp only [wringerref15_Mix.j1, if_neg Bool.false_ne_true, cut_w, cut_i, Option.bind_some, wringerref15_Squash.f]
      rfl
    · rw [if_neg (by omega)]
      simp only [wringerref15_Mix.j1, if_neg Bool.false_ne_true, cut_w, cut_i, Option.bind_some, wringerref15_Squash.f]
      rfl
  | succ d ih =>
    intro i k s hi hk
    obtain ⟨k, rfl⟩ : ∃ m, k = m + 2 := ⟨k - 2, by omega⟩
    simp only [wringerref15_Mix.l0]
    rw [if_pos (by omega)]
    have e : decide ((i : Int) < (l1.length : Int)) = true := decide_eq_true (by omega)
    rw [e]
    simp only [wringerref15_Mix.j1, if_true, cut_w, cut_i, Option.bind_some, wringerref15_Squash.f]
    rw [if_pos (by omega), if_pos (by omega), if_pos (by omega)]
    rw [wrap_i i (by omega), ih (i + 1) k _ (by omega) (by omega)]
    rfl
theorem refmix_val (l0 l1 : List Int) (k : Nat) (hk : 2 * min l0.length l1.length + 1 < k) (hb : l0.length < 9223372036854775807) : wringerref15_Mix.f k l0 l1 = some (mixV l0 l1) :=
  refmix_loop l0 l1 hb (min l0.length l1.length) 0 k 0 (by omega) hk
theorem reftrain_loop (l0 l1 : List Int) (x : Int) (hb : l0.length < 17592186044416) : ∀ (d i k : Nat), i + d = l0.length → d < k →
    wringerref15_Train.l0 k l0 l1 x ((List.range i).map (trE l0 l1 x)) (i : Int) = some ((List.range l0.length).map (trE l0 l1 x)) := by
  intro d
  induction d with
  | zero =>
    intro i k hi hk
    obtain ⟨k, rfl⟩ : ∃ m, k = m + 1 := ⟨k - 1, by omega⟩
    simp only [wringerref15_Train.l0]
    rw [if_neg (by omega)]
    obtain rfl : i = l0.length := by omega
    rfl
  | succ d ih =>
    intro i k hi hk
    obtain ⟨k, rfl⟩ : ∃ m, k = m + 1 := ⟨k - 1, by omega⟩
    have hl : ((List.range i).map (trE l0 l1 x)).length = i := by simp
    have hs := range_snoc l0 l1 x i
    simp only [wringerref15_Train.l0]
    rw [if_pos (by omega), if_pos (by omega)]
    simp only [cut_w, cut_i, Option.bind_some, wringerref15_Squash.f]
    by_cases hi1 : i < l1.length
    · rw [if_pos (by omega), if_pos (by omega), wrap_i i (by omega)]
      have e : trE l0 l1 x i = cw (wrap64 (cw (rd l0 (i : Int)) + wrap64 (ci (rd l1 (i : Int)) * x) / 1024)) := by
        unfold trE; rw [if_pos hi1]
      rw [← e, ← hs]
      exact ih (i + 1) k (by omega) (by omega)
    · rw [if_neg (by omega), if_pos (by omega), wrap_i i (by omega)]
      have e : trE l0 l1 x i = cw (rd l0 (i : Int)) := by
        unfold trE; rw [if_neg hi1]
      rw [← e, ← hs]
      exact ih (i + 1) k (by omega) (by omega)
theorem reftrain_val (l0 l1 : List Int) (p b : Int) (k : Nat) (hk : l0.length + 1 < k) (hb : l0.length < 17592186044416) : wringerref15_Train.f k l0 l1 p b = some (trainV l0 l1 p b) := by
  obtain ⟨k, rfl⟩ : ∃ m, k = m + 1 := ⟨k - 1, by omega⟩
  have h := fun x => reftrain_loop l0 l1 x hb l0.length 0 k (by omega) (by omega)
  unfold wringerref15_Train.f trainV errV
  split
  · simp only [wringerref15_Train.j0]
    exact h _
  · simp only [wringerref15_Train.j0]
    exact h _
theorem MixerAll : wringerlaw18_MixerAll.Pure := by
  intro l0 l1 a2 a3 h0 _ _ h1 _ _ _ _
  refine ⟨300, ?_⟩
  unfold wringerlaw18_MixerAll.f
  by_cases c0 : (l0.length : Int) > 100
  · rw [if_pos c0]
    simp only [wringerlaw18_MixerAll.j0, if_true, awake_at 299 (by omega), Option.bind_some]
  · rw [if_neg c0]
    by_cases c1 : (l1.length : Int) > 100
    · rw [decide_eq_true c1]
      simp only [wringerlaw18_MixerAll.j0, if_true, awake_at 299 (by omega), Option.bind_some]
    · rw [decide_eq_false c1]
      simp only [wringerlaw18_MixerAll.j0, if_neg Bool.false_ne_true, Option.bind_some, List.length_nil, Nat.zero_add, List.nil_append]
      rw [if_pos (by omega), if_pos (by omega), mix_val l0 l1 299 (by omega) (by omega), refmix_val l0 l1 299 (by omega) (by omega)]
      simp only [Option.bind_some, if_true]
      rw [train_val l0 l1 a2 a3 299 (by omega) (by omega), reftrain_val l0 l1 a2 a3 299 (by omega) (by omega)]
      simp only [Option.bind_some]
      rw [same_val _ 299 (by rw [trainV_length]; omega) (by rw [trainV_length]; omega)]
      simp only [Option.bind_some, if_true]
      rw [same_val l0 299 (by omega) (by omega)]
      simp only [Option.bind_some, if_true]
      rw [same_val l1 299 (by omega) (by omega)]
      simp only [Option.bind_some, if_true]
      rw [awake_at 299 (by omega)]
      rfl
end Go.Proofs.Ytnhfkkffmlfkbaa.Pure
