/- The plain statement behind MixerLearns: what leads to the bit that came is trusted no less, what leads away no more, and the chance lies from 1 to 4095. Conditions: the arguments are of their Go kinds. -/
import Derived.Test.YtnhfkkffmlfkbaaPMixerLearnsx2
namespace Go.Proofs.Ytnhfkkffmlfkbaa.Pure
open Go.RowKit Go.Proofs.Ytnhfkkffmlfkbaa Go.Proofs.Ytnhfkkffmlfkbaa.PMixerLearns Go.Proofs.YtnhfkkffmlfkbaaW.PrintWords Go.Proofs.YtnhfkkffmlfkbaaW.PrintLast Go.Proofs.YtnhfkkffmlfkbaaW.PrintMore
set_option linter.unusedVariables false
set_option linter.unusedSimpArgs false

def cw (x : Int) : Int := mx (-1048576) (mn x 1048576)
def ci (x : Int) : Int := mx (-2047) (mn x 2047)
theorem wrap_i (i : Nat) (h : i < 9223372036854775807) : wrap64 ((i : Int) + 1) = ((i + 1 : Nat) : Int) := by unfold wrap64; omega
/-- The sum from index i on, d more of them. -/
def msum (l0 l1 : List Int) : Int → Nat → Nat → Int
  | s, _, 0 => s
  | s, i, d + 1 => msum l0 l1 (wrap64 (s + wrap64 (cw (rd l0 (i : Int)) * ci (rd l1 (i : Int))))) (i + 1) d
def mixV (l0 l1 : List Int) : Int := sq (ci (msum l0 l1 0 0 (min l0.length l1.length) / 65536))
theorem mn_len (a b : Nat) : mn (a : Int) (b : Int) = ((min a b : Nat) : Int) := by
  unfold mn
  split <;> omega
theorem mix_loop (l0 l1 : List Int) (n : Nat) (h0 : n ≤ l0.length) (h1 : n ≤ l1.length) (hb : n < 9223372036854775807) : ∀ (d i k : Nat) (s : Int), i + d = n → d < k →
    mixer_Mix.l0 k l0 l1 s (n : Int) (i : Int) = some (sq (ci (msum l0 l1 s i d / 65536))) := by
  intro d
  induction d with
  | zero =>
    intro i k s hi hk
    obtain ⟨k, rfl⟩ : ∃ m, k = m + 1 := ⟨k - 1, by omega⟩
    simp only [mixer_Mix.l0]
    rw [if_neg (by omega)]
    rfl
  | succ d ih =>
    intro i k s hi hk
    obtain ⟨k, rfl⟩ : ∃ m, k = m + 1 := ⟨k - 1, by omega⟩
    simp only [mixer_Mix.l0]
    rw [if_pos (by omega), if_pos (by omega), if_pos (by omega)]
    simp only [mixer_weight.f, mixer_input.f, Option.bind_some]
    rw [if_pos (by omega), wrap_i i (by omega), ih (i + 1) k _ (by omega) (by omega)]
    rfl
theorem mix_val (l0 l1 : List Int) (k : Nat) (hk : min l0.length l1.length < k) (hb : l0.length < 9223372036854775807) : mixer_Mix.f k l0 l1 = some (mixV l0 l1) := by
  unfold mixer_Mix.f
  rw [mn_len]
  exact mix_loop l0 l1 (min l0.length l1.length) (Nat.min_le_left _ _) (Nat.min_le_right _ _) (by omega) (min l0.length l1.length) 0 k 0 (by omega) hk

/-- A weight behind the error x. -/
def trE (l0 l1 : List Int) (x : Int) (i : Nat) : Int := if i < l1.length then cw (wrap64 (cw (rd l0 (i : Int)) + wrap64 (ci (rd l1 (i : Int)) * x) / 1024)) else cw (rd l0 (i : Int))
def errV (p b : Int) : Int := if b = 0 then -(mx 0 (mn p 4096)) else -(mx 0 (mn p 4096)) + 4096
def trainV (l0 l1 : List Int) (p b : Int) : List Int := (List.range l0.length).map (trE l0 l1 (errV p b))
theorem range_snoc (l0 l1 : List Int) (x : Int) (i : Nat) : (List.range (i + 1)).map (trE l0 l1 x) = (List.range i).map (trE l0 l1 x) ++ [trE l0 l1 x i] := by
  rw [List.range_succ, List.map_append, List.map_singleton]
theorem train_loop (l0 l1 : List Int) (x : Int) (hb : l0.length < 17592186044416) : ∀ (d i k : Nat), i + d = l0.length → d < k →
    mixer_Train.l0 k l1 x ((List.range i).map (trE l0 l1 x)) l0 (l0.length : Int) (i : Int) = some ((List.range l0.length).map (trE l0 l1 x)) := by
  intro d
  induction d with
  | zero =>
    intro i k hi hk
    obtain ⟨k, rfl⟩ : ∃ m, k = m + 1 := ⟨k - 1, by omega⟩
    simp only [mixer_Train.l0]
    rw [if_neg (by omega)]
    obtain rfl : i = l0.length := by omega
    rfl
  | succ d ih =>
    intro i k hi hk
    obtain ⟨k, rfl⟩ : ∃ m, k = m + 1 := ⟨k - 1, by omega⟩
    have hl : ((List.range i).map (trE l0 l1 x)).length = i := by simp
    have hs := range_snoc l0 l1 x i
    simp only [mixer_Train.l0]
    rw [if_pos (by omega), if_pos (by omega), if_pos (by omega)]
    simp only [mixer_weight.f, mixer_input.f, Option.bind_some]
    by_cases hi1 : i < l1.length
    · rw [if_pos (by omega), if_pos (by omega), wrap_i i (by omega)]
      have e : trE l0 l1 x i = mx (-1048576) (mn (wrap64 (mx (-1048576) (mn (rd l0 (i : Int)) 1048576) + wrap64 (mx (-2047) (mn (rd l1 (i : Int)) 2047) * x) / 1024)) 1048576) := by
        unfold trE; rw [if_pos hi1]; rfl
      rw [← e, ← hs]
      exact ih (i + 1) k (by omega) (by omega)
    · rw [if_neg (by omega), if_pos (by omega), wrap_i i (by omega)]
      have e : trE l0 l1 x i = mx (-1048576) (mn (rd l0 (i : Int)) 1048576) := by
        unfold trE; rw [if_neg hi1]; rfl
      rw [← e, ← hs]
      exact ih (i + 1) k (by omega) (by omega)
theorem train_val (l0 l1 : List Int) (p b : Int) (k : Nat) (hk : l0.length + 1 < k) (hb : l0.length < 17592186044416) : mixer_Train.f k l0 l1 p b = some (trainV l0 l1 p b) := by
  obtain ⟨k, rfl⟩ : ∃ m, k = m + 1 := ⟨k - 1, by omega⟩
  have h := fun x => train_loop l0 l1 x hb l0.length 0 k (by omega) (by omega)
  unfold mixer_Train.f trainV errV
  split
  · simp only [mixer_Train.j0]
    exact h _
  · simp only [mixer_Train.j0]
    exact h _
theorem trainV_length (l0 l1 : List Int) (p b : Int) : (trainV l0 l1 p b).length = l0.length := by simp [trainV]
theorem trainV_rd (l0 l1 : List Int) (p b : Int) (i : Nat) (h : i < l0.length) : rd (trainV l0 l1 p b) (i : Int) = trE l0 l1 (errV p b) i := by
  unfold rd trainV
  rw [Int.toNat_natCast, List.getD_eq_getElem?_getD, List.getElem?_map, List.getElem?_range h]
  rfl

theorem awake_val : wringerlaw18_awake.f 10 = some true := by decide +kernel
theorem awake_at (k : Nat) (h : 10 ≤ k) : wringerlaw18_awake.f k = some true := at_rounds wringerlaw18_awake.mono h awake_val

theorem floor_steps (n : Int) : wrap64 (Int.tdiv n 1024) - (if n < 0 ∧ Int.tmod n 1024 ≠ 0 then 1 else 0) = n / 1024 ∨ n < -8589934592 ∨ 8589934592 < n := by
  by_cases h : n < -8589934592 ∨ 8589934592 < n
  · exact Or.inr h
  · refine Or.inl ?_
    rcases (show n < 0 ∨ 0 ≤ n by omega) with hn | hn
    · obtain ⟨m, rfl⟩ : ∃ m : Int, n = -m := ⟨-n, by omega⟩
      rw [Int.neg_tdiv, Int.neg_tmod, Int.tdiv_eq_ediv_of_nonneg (by omega), Int.tmod_eq_emod_of_nonneg (by omega)]
      have hw : wrap64 (-(m / 1024)) = -(m / 1024) := by unfold wrap64; omega
      rw [hw]
      split <;> omega
    · rw [Int.tdiv_eq_ediv_of_nonneg hn]
      have hw : wrap64 (n / 1024) = n / 1024 := by unfold wrap64; omega
      rw [hw, if_neg (by omega)]
      omega
theorem cw_small (x : Int) (h0 : -1048576 ≤ x) (h1 : x ≤ 1048576) : cw x = x := by unfold cw mx mn; split <;> split <;> omega
theorem ci_small (x : Int) (h0 : -2047 ≤ x) (h1 : x ≤ 2047) : ci x = x := by unfold ci mx mn; split <;> split <;> omega
theorem mul_bound (a b A B : Int) (h0 : -A ≤ a) (h1 : a ≤ A) (h2 : -B ≤ b) (h3 : b ≤ B) (hA : 0 ≤ A) (hB : 0 ≤ B) : -(A * B) ≤ a * b ∧ a * b ≤ A * B := by
  have h4 : (A - a) * (B + b) ≥ 0 := Int.mul_nonneg (by omega) (by omega)
  have h5 : (A + a) * (B - b) ≥ 0 := Int.mul_nonneg (by omega) (by omega)
  have h6 : (A - a) * (B - b) ≥ 0 := Int.mul_nonneg (by omega) (by omega)
  have h7 : (A + a) * (B + b) ≥ 0 := Int.mul_nonneg (by omega) (by omega)
  rw [Int.sub_mul, Int.mul_add, Int.mul_add] at h4
  rw [Int.add_mul, Int.mul_sub, Int.mul_sub] at h5
  rw [Int.sub_mul, Int.mul_sub, Int.mul_sub] at h6
  rw [Int.add_mul, Int.mul_add, Int.mul_add] at h7
  omega
/-- One weight behind an error, without a wrap or a limit. -/
theorem tr_plain (w x e : Int) (hw0 : -262144 ≤ w) (hw1 : w ≤ 262144) (hx0 : -2047 ≤ x) (hx1 : x ≤ 2047) (he0 : -4096 ≤ e) (he1 : e ≤ 4096) : cw (wrap64 (cw w + wrap64 (ci x * e) / 1024)) = w + x * e / 1024 := by
  rw [cw_small w (by omega) (by omega), ci_small x hx0 hx1]
  have hm := mul_bound x e 2047 4096 hx0 hx1 he0 he1 (by omega) (by omega)
  generalize x * e = n at *
  have e1 : wrap64 n = n := by unfold wrap64; omega
  rw [e1]
  have e2 : wrap64 (w + n / 1024) = w + n / 1024 := by unfold wrap64; omega
  rw [e2, cw_small _ (by omega) (by omega)]
theorem i16_bounds (a : Int) (h : (Lit.int .i16 a).wf = true) : -32768 ≤ a ∧ a ≤ 32767 := by
  simp only [Lit.wf, Bool.and_eq_true, decide_eq_true_eq] at h
  exact h
theorem u16_bounds (a : Int) (h : (Lit.int .u16 a).wf = true) : 0 ≤ a ∧ a ≤ 65535 := by
  simp only [Lit.wf, Bool.and_eq_true, decide_eq_true_eq] at h
  exact h
theorem tmod_small (a m : Int) (hm : 0 < m) : -(m - 1) ≤ Int.tmod a m ∧ Int.tmod a m ≤ m - 1 := by
  rcases (show a < 0 ∨ 0 ≤ a by omega) with h | h
  · obtain ⟨b, rfl⟩ : ∃ b : Int, a = -b := ⟨-a, by omega⟩
    rw [Int.neg_tmod, Int.tmod_eq_emod_of_nonneg (by omega)]
    have := Int.emod_nonneg b (show m ≠ 0 by omega)
    have := Int.emod_lt_of_pos b hm
    omega
  · rw [Int.tmod_eq_emod_of_nonneg h]
    have := Int.emod_nonneg a (show m ≠ 0 by omega)
    have := Int.emod_lt_of_pos a hm
    omega
theorem train_one (w x p b : Int) : trainV [w] [x] p b = [cw (wrap64 (cw w + wrap64 (ci x * errV p b) / 1024))] := by
  unfold trainV
  rfl

theorem sq_range (x : Int) : 1 ≤ sq x ∧ sq x ≤ 4095 := by
  have hr := sqCut_range x
  unfold sq
  split
  · have := sqPos_range (-(sqCut x)) (by omega) (by omega)
    omega
  · have := sqPos_range (sqCut x) (by omega) (by omega)
    omega
theorem mixV_range (l0 l1 : List Int) : 1 ≤ mixV l0 l1 ∧ mixV l0 l1 ≤ 4095 := sq_range _
def wOf (l : List Int) (i : Nat) : Int := wrap64 (wrap64 (rd l (i : Int)) * 8)
def xOf (l : List Int) (i : Nat) : Int := Int.tmod (wrap64 (rd l (i : Int))) 2048
theorem rd_i16 (l : List Int) (h : ∀ x ∈ l, (Lit.int .i16 x).wf = true) (i : Nat) : -32768 ≤ rd l (i : Int) ∧ rd l (i : Int) ≤ 32767 := by
  unfold rd
  rw [Int.toNat_natCast, List.getD_eq_getElem?_getD]
  by_cases hi : i < l.length
  · rw [List.getElem?_eq_getElem hi]
    exact i16_bounds _ (h _ (List.getElem_mem hi))
  · rw [List.getElem?_eq_none (by omega)]
    decide
theorem wOf_range (l : List Int) (h : ∀ x ∈ l, (Lit.int .i16 x).wf = true) (i : Nat) : -262144 ≤ wOf l i ∧ wOf l i ≤ 262144 := by
  have := rd_i16 l h i
  unfold wOf
  generalize rd l (i : Int) = r at *
  unfold wrap64
  omega
theorem xOf_range (l : List Int) (i : Nat) : -2047 ≤ xOf l i ∧ xOf l i ≤ 2047 := by
  have := tmod_small (wrap64 (rd l (i : Int))) 2048 (by omega)
  unfold xOf
  omega
theorem map_snoc (f : Nat → Int) (i : Nat) : (List.range (i + 1)).map f = (List.range i).map f ++ [f i] := by
  rw [List.range_succ, List.map_append, List.map_singleton]
theorem rd_map (f : Nat → Int) (n i : Nat) (h : i < n) : rd ((List.range n).map f) (i : Int) = f i := by
  unfold rd
  rw [Int.toNat_natCast, List.getD_eq_getElem?_getD, List.getElem?_map, List.getElem?_range h]
  rfl
theorem learn_loop (l0 l1 : List Int) (b : Bool) (n : Nat) (h0 : n ≤ l0.length) (h1 : n ≤ l1.length) (h2 : n ≤ 20) (r : Option Bool) : ∀ (d i k : Nat), i + d = n →
    (∀ k', k = k' + d + 1 → (if b = true then wringerlaw18_MixerLearns.j1 k' b n ((List.range n).map (wOf l0)) ((List.range n).map (xOf l1)) 1 else wringerlaw18_MixerLearns.j1 k' b n ((List.range n).map (wOf l0)) ((List.range n).map (xOf l1)) 0) = r) → d < k →
    wringerlaw18_MixerLearns.l0 k l0 l1 b n ((List.range i).map (wOf l0)) ((List.range i).map (xOf l1)) (i : Int) = r := by
  intro d
  induction d with
  | zero =>
    intro i k hi hr hk
    obtain ⟨k, rfl⟩ : ∃ m, k = m + 1 := ⟨k - 1, by omega⟩
    simp only [wringerlaw18_MixerLearns.l0]
    rw [if_neg (by omega)]
    obtain rfl : i = n := by omega
    exact hr k (by omega)
  | succ d ih =>
    intro i k hi hr hk
    obtain ⟨k, rfl⟩ : ∃ m, k = m + 1 := ⟨k - 1, by omega⟩
    have e0 : ((List.range i).map (wOf l0)).length = i := by simp
    have e1 : ((List.range i).map (xOf l1)).length = i := by simp
    have g0 := map_snoc (wOf l0) i
    have g1 := map_snoc (xOf l1) i
    simp only [wringerlaw18_MixerLearns.l0]
    rw [if_pos (by omega), if_pos (by omega), if_pos (by omega), if_pos (by omega), if_pos (by omega), if_pos (by omega), wrap_i i (by omega)]
    have q0 : wrap64 (wrap64 (rd l0 (i : Int)) * 8) = wOf l0 i := rfl
    have q1 : Int.tmod (wrap64 (rd l1 (i : Int))) 2048 = xOf l1 i := rfl
    rw [q0, q1, ← g0, ← g1]
    exact ih (i + 1) k (by omega) (fun k' hk' => hr k' (by omega)) (by omega)
theorem check_loop (b : Bool) (n : Nat) (hn : n ≤ 20) (W X t : List Int) (hW : W.length = n) (hX : X.length = n) (ht : t.length = n)
    (hup : ∀ i : Nat, i < n → (rd X (i : Int) = 0 → rd t (i : Int) = rd W (i : Int)) ∧ (rd X (i : Int) ≠ 0 → decide (rd X (i : Int) > 0) = b → rd W (i : Int) ≤ rd t (i : Int)) ∧ (rd X (i : Int) ≠ 0 → decide (rd X (i : Int) > 0) ≠ b → rd t (i : Int) ≤ rd W (i : Int))) : ∀ (d i k : Nat), i + d = n → d + 12 < k →
    wringerlaw18_MixerLearns.l1 k b n W X t (i : Int) = some true := by
  intro d
  induction d with
  | zero =>
    intro i k hi hk
    obtain ⟨k, rfl⟩ : ∃ m, k = m + 1 := ⟨k - 1, by omega⟩
    simp only [wringerlaw18_MixerLearns.l1]
    rw [if_neg (by omega), awake_at k (by omega)]
    rfl
  | succ d ih =>
    intro i k hi hk
    obtain ⟨k, rfl⟩ : ∃ m, k = m + 1 := ⟨k - 1, by omega⟩
    obtain ⟨u0, u1, u2⟩ := hup i (by omega)
    have go := ih (i + 1) k (by omega) (by omega)
    simp only [wringerlaw18_MixerLearns.l1]
    rw [if_pos (by omega), if_pos (by omega), if_pos (by omega), wrap_i i (by omega)]
    by_cases hx : rd X (i : Int) = 0
    · rw [if_pos hx, if_pos (by omega), if_pos (by omega), if_pos (u0 hx)]
      exact go
    · rw [if_neg hx]
      by_cases hb : decide (rd X (i : Int) > 0) = b
      · have hb' : (decide (rd X (i : Int) > 0) == b) = true := beq_iff_eq.2 hb
        have := u1 hx hb
        rw [if_pos hb', if_pos (by omega), if_pos (by omega), if_neg (by omega), if_pos hb']
        exact go
      · have hb' : ¬ (decide (rd X (i : Int) > 0) == b) = true := fun h => hb (beq_iff_eq.1 h)
        have := u2 hx hb
        rw [if_neg hb', if_neg hb', if_pos (by omega), if_pos (by omega), if_neg (by omega)]
        exact go
theorem MixerLearns : wringerlaw18_MixerLearns.Pure := by
  intro l0 l1 b _ _ hw0 _ _ hw1
  obtain ⟨n, hn⟩ : ∃ n : Nat, min (min l0.length l1.length) 20 = n := ⟨_, rfl⟩
  have emn : mn (mn (l0.length : Int) (l1.length : Int)) 20 = (n : Int) := by
    rw [mn_len, ← hn]
    exact mn_len _ 20
  refine ⟨100, ?_⟩
  unfold wringerlaw18_MixerLearns.f
  rw [emn]
  refine learn_loop l0 l1 b n (by omega) (by omega) (by omega) (some true) n 0 100 (by omega) ?_ (by omega)
  intro k' hk'
  have key : ∀ v : Int, v = (if b = true then 1 else 0) → wringerlaw18_MixerLearns.j1 k' b n ((List.range n).map (wOf l0)) ((List.range n).map (xOf l1)) v = some true := by
    intro v hv
    obtain ⟨k, rfl⟩ : ∃ m, k' = m + 2 := ⟨k' - 2, by omega⟩
    have lW : ((List.range n).map (wOf l0)).length = n := by simp
    have lX : ((List.range n).map (xOf l1)).length = n := by simp
    have rW := fun i (h : i < n) => rd_map (wOf l0) n i h
    have rX := fun i (h : i < n) => rd_map (xOf l1) n i h
    generalize (List.range n).map (wOf l0) = W at *
    generalize (List.range n).map (xOf l1) = X at *
    have hp := mixV_range W X
    have hlt : (trainV W X (mixV W X) v).length = n := by rw [trainV_length, lW]
    have hrd := fun i (h : i < n) => trainV_rd W X (mixV W X) v i (by omega)
    have hE : errV (mixV W X) v = if b = true then 4096 - mixV W X else -(mixV W X) := by
      have hm : mx 0 (mn (mixV W X) 4096) = mixV W X := by unfold mx mn; split <;> split <;> omega
      unfold errV
      rw [hm, hv]
      cases b
      · rw [if_neg Bool.false_ne_true, if_neg Bool.false_ne_true, if_pos rfl]
      · rw [if_pos rfl, if_pos rfl, if_neg (by omega)]
        omega
    simp only [wringerlaw18_MixerLearns.j1]
    rw [mix_val W X (k + 1) (by omega) (by omega)]
    simp only [Option.bind_some]
    rw [train_val W X _ v (k + 1) (by omega) (by omega)]
    simp only [Option.bind_some]
    rw [if_pos (by omega), if_neg (by omega), decide_eq_false (by omega : ¬ mixV W X > 4095)]
    simp only [wringerlaw18_MixerLearns.j2, if_neg Bool.false_ne_true]
    generalize mixV W X = p at *
    generalize trainV W X p v = t at *
    generalize errV p v = e at *
    refine check_loop b n (by omega) W X t lW lX hlt ?_ n 0 k (by omega) (by omega)
    intro i hi
    have hwi := wOf_range l0 hw0 i
    have hxi := xOf_range l1 i
    rw [hrd i hi, rX i hi, rW i hi]
    have het : trE W X e i = wOf l0 i + xOf l1 i * e / 1024 := by
      unfold trE
      rw [if_pos (by omega), rX i hi, rW i hi]
      refine tr_plain _ _ e hwi.1 hwi.2 hxi.1 hxi.2 ?_ ?_
      · rw [hE]; split <;> omega
      · rw [hE]; split <;> omega
    rw [het]
    generalize xOf l1 i = x at *
    generalize wOf l0 i = w at *
    refine ⟨?_, ?_, ?_⟩
    · intro hx
      rw [hx, Int.zero_mul]
      omega
    · intro hx hb
      have : 0 ≤ x * e := by
        cases b
        · have h1 : ¬ x > 0 := of_decide_eq_false hb
          rw [if_neg Bool.false_ne_true] at hE
          rw [hE]
          have := Int.mul_nonneg (show 0 ≤ -x by omega) (show 0 ≤ p by omega)
          rw [Int.neg_mul] at this
          rw [Int.mul_neg]
          exact this
        · have h1 : x > 0 := of_decide_eq_true hb
          rw [if_pos rfl] at hE
          rw [hE]
          exact Int.mul_nonneg (by omega) (by omega)
      generalize x * e = m at *
      omega
    · intro hx hb
      have : x * e ≤ 0 := by
        cases b
        · have h1 : x > 0 := Decidable.byContradiction fun h => hb (decide_eq_false h)
          rw [if_neg Bool.false_ne_true] at hE
          rw [hE]
          have := Int.mul_nonneg (show 0 ≤ x by omega) (show 0 ≤ p by omega)
          rw [Int.mul_neg]
          omega
        · have h1 : ¬ x > 0 := fun h => hb (decide_eq_true h)
          rw [if_pos rfl] at hE
          rw [hE]
          have := Int.mul_nonneg (show 0 ≤ -x by omega) (show 0 ≤ 4096 - p by omega)
          rw [Int.neg_mul] at this
          omega
      generalize x * e = m at *
      omega
  cases b
  · rw [if_neg Bool.false_ne_true]
    exact key 0 rfl
  · rw [if_pos rfl]
    exact key 1 rfl
end Go.Proofs.Ytnhfkkffmlfkbaa.Pure
