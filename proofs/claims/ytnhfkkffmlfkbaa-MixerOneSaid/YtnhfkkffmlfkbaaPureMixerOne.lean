/- The plain statement behind MixerOne: one input of weight one is told as it is, none as half, and the order of inputs with their weights makes no difference. Conditions: the arguments are of their Go kinds. -/
import Derived.Test.YtnhfkkffmlfkbaaPMixerOnex2
namespace Go.Proofs.Ytnhfkkffmlfkbaa.Pure
open Go.RowKit Go.Proofs.Ytnhfkkffmlfkbaa Go.Proofs.Ytnhfkkffmlfkbaa.PMixerOne Go.Proofs.YtnhfkkffmlfkbaaW.PrintWords Go.Proofs.YtnhfkkffmlfkbaaW.PrintLast Go.Proofs.YtnhfkkffmlfkbaaW.PrintMore
set_option linter.unusedVariables false
set_option linter.unusedSimpArgs false

def cw (x : Int) : Int := mx (-1048576) (mn x 1048576)
def ci (x : Int) : Int := mx (-2047) (mn x 2047)
theorem wrap_i (i : Nat) (h : i < 9223372036854775807) : wrap64 ((i : Int) + 1) = ((i + 1 : Nat) : Int) := by unfold wrap64; omega
/-- The sum from index i on, d more of them. -/
def msum (l0 l1 : List Int) : Int → Nat → Nat → Int
  | s, _, 0 => s
  | s, i, d + 1 => msum l0 l1 (wrap64 (s + wrap64 (cw (rd l0 (i : Int)) * ci (rd l1 (i : Int))))) (i + 1) d
def mixV (l0 l1 : List Int) : Int := sq (ci (msum l0 l1 0 0 (min l0.length l1.length) / 65536))
theorem mn_len (a b : Nat) : mn (a : Int) (b : Int) = ((min a b : Nat) : Int) := by
  unfold mn
  split <;> omega
theorem mix_loop (l0 l1 : List Int) (n : Nat) (h0 : n ≤ l0.length) (h1 : n ≤ l1.length) (hb : n < 9223372036854775807) : ∀ (d i k : Nat) (s : Int), i + d = n → d < k →
    mixer_Mix.l0 k l0 l1 s (n : Int) (i : Int) = some (sq (ci (msum l0 l1 s i d / 65536))) := by
  intro d
  induction d with
  | zero =>
    intro i k s hi hk
    obtain ⟨k, rfl⟩ : ∃ m, k = m + 1 := ⟨k - 1, by omega⟩
    simp only [mixer_Mix.l0]
    rw [if_neg (by omega)]
    rfl
  | succ d ih =>
    intro i k s hi hk
    obtain ⟨k, rfl⟩ : ∃ m, k = m + 1 := ⟨k - 1, by omega⟩
    simp only [mixer_Mix.l0]
    rw [if_pos (by omega), if_pos (by omega), if_pos (by omega)]
    simp only [mixer_weight.f, mixer_input.f, Option.bind_some]
    rw [if_pos (by omega), wrap_i i (by omega), ih (i + 1) k _ (by omega) (by omega)]
    rfl
theorem mix_val (l0 l1 : List Int) (k : Nat) (hk : min l0.length l1.length < k) (hb : l0.length < 9223372036854775807) : mixer_Mix.f k l0 l1 = some (mixV l0 l1) := by
  unfold mixer_Mix.f
  rw [mn_len]
  exact mix_loop l0 l1 (min l0.length l1.length) (Nat.min_le_left _ _) (Nat.min_le_right _ _) (by omega) (min l0.length l1.length) 0 k 0 (by omega) hk

theorem awake_val : wringerlaw18_awake.f 10 = some true := by decide +kernel
theorem awake_at (k : Nat) (h : 10 ≤ k) : wringerlaw18_awake.f k = some true := at_rounds wringerlaw18_awake.mono h awake_val

theorem wrap_two (i t : Nat) (h : i + t < 1000) : wrap64 ((i : Int) + wrap64 (t : Int)) = ((i + t : Nat) : Int) := by
  have e1 : wrap64 (t : Int) = (t : Int) := by unfold wrap64; omega
  rw [e1]
  have e2 : ((i + t : Nat) : Int) = (i : Int) + (t : Int) := by omega
  rw [e2]
  generalize (i : Int) + (t : Int) = s at *
  unfold wrap64
  omega
def w3 (l : List Int) (i : Nat) : Int := wrap64 (wrap64 (rd l (i : Int)) * 30)
def x3 (l : List Int) (i : Nat) : Int := Int.tmod (wrap64 (rd l (i : Int))) 2048
theorem map_snoc (f : Nat → Int) (i : Nat) : (List.range (i + 1)).map f = (List.range i).map f ++ [f i] := by
  rw [List.range_succ, List.map_append, List.map_singleton]
theorem rd_map (f : Nat → Int) (n i : Nat) (h : i < n) : rd ((List.range n).map f) (i : Int) = f i := by
  unfold rd
  rw [Int.toNat_natCast, List.getD_eq_getElem?_getD, List.getElem?_map, List.getElem?_range h]
  rfl
/-- The sum without wraps. -/
def lsum : List Int → Int
  | [] => 0
  | x :: l => x + lsum l
theorem lsum_append (a b : List Int) : lsum (a ++ b) = lsum a + lsum b := by
  induction a with
  | nil => simp [lsum]
  | cons x a ih => simp only [List.cons_append, lsum, ih]; omega
theorem wrap_add (s x : Int) : wrap64 (wrap64 s + wrap64 x) = wrap64 (s + x) := by unfold wrap64; omega
theorem msum_eq (l0 l1 : List Int) : ∀ (d i : Nat) (s : Int), msum l0 l1 (wrap64 s) i d = wrap64 (s + lsum ((List.range' i d).map fun j : Nat => cw (rd l0 (j : Int)) * ci (rd l1 (j : Int)))) := by
  intro d
  induction d with
  | zero => intro i s; simp [msum, lsum]
  | succ d ih =>
    intro i s
    simp only [msum, List.range'_succ, List.map_cons, lsum]
    rw [wrap_add, ih]
    congr 1
    omega
/-- A list turned has the sum that it had. -/
theorem lsum_turn (f : Nat → Int) (n t : Nat) (hn : 0 < n) : lsum ((List.range n).map fun i => f ((i + t) % n)) = lsum ((List.range n).map f) := by
  have hm : t % n < n := Nat.mod_lt _ hn
  have e : (List.range n).map (fun i => f ((i + t) % n)) = ((List.range n).map f).drop (t % n) ++ ((List.range n).map f).take (t % n) := by
    apply List.ext_getElem
    · simp
      omega
    · intro i h1 h2
      simp only [List.length_map, List.length_range] at h1
      rw [List.getElem_map, List.getElem_range]
      by_cases hi : i < n - t % n
      · rw [List.getElem_append_left (by simp; omega), List.getElem_drop, List.getElem_map, List.getElem_range]
        congr 1
        rw [Nat.add_mod, Nat.mod_eq_of_lt h1, Nat.add_comm]
        exact Nat.mod_eq_of_lt (by omega)
      · rw [List.getElem_append_right (by simp; omega), List.getElem_take, List.getElem_map, List.getElem_range]
        congr 1
        simp only [List.length_drop, List.length_map, List.length_range]
        rw [Nat.add_mod, Nat.mod_eq_of_lt h1, Nat.mod_eq_sub_mod (by omega), Nat.mod_eq_of_lt (by omega)]
        omega
  rw [e, lsum_append, Int.add_comm, ← lsum_append, List.take_append_drop]
theorem range'_zero (n : Nat) : List.range' 0 n = List.range n := (List.range_eq_range').symm
theorem mixV_range (W X V O : List Int) (n t : Nat) (hn : 0 < n) (lW : W.length = n) (lX : X.length = n) (lV : V.length = n) (lO : O.length = n)
    (hV : ∀ i, i < n → rd V (i : Int) = rd W (((i + t) % n : Nat) : Int)) (hO : ∀ i, i < n → rd O (i : Int) = rd X (((i + t) % n : Nat) : Int)) : mixV W X = mixV V O := by
  unfold mixV
  rw [lW, lX, lV, lO, Nat.min_self]
  have e0 : (0 : Int) = wrap64 0 := by unfold wrap64; omega
  rw [e0, msum_eq, msum_eq, range'_zero]
  have e1 : (List.range n).map (fun j : Nat => cw (rd V (j : Int)) * ci (rd O (j : Int))) = (List.range n).map fun i => (fun j : Nat => cw (rd W (j : Int)) * ci (rd X (j : Int))) ((i + t) % n) :=
    List.map_congr_left fun i hi => by
      have := List.mem_range.1 hi
      rw [hV i this, hO i this]
  rw [e1, lsum_turn (fun j : Nat => cw (rd W (j : Int)) * ci (rd X (j : Int))) n t hn]
theorem first_loop (a : Int) (l1 l2 : List Int) (a3 c : Int) (n : Nat) (h0 : n ≤ l1.length) (h1 : n ≤ l2.length) (h2 : n ≤ 20) (r : Option Bool) : ∀ (d i k : Nat), i + d = n →
    (∀ k', k = k' + d + 1 → wringerlaw18_MixerOne.l1 k' a a3 c ((List.range n).map (w3 l1)) ((List.range n).map (x3 l2)) [] [] n 0 = r) → d < k →
    wringerlaw18_MixerOne.l0 k a l1 l2 a3 c ((List.range i).map (w3 l1)) ((List.range i).map (x3 l2)) n (i : Int) = r := by
  intro d
  induction d with
  | zero =>
    intro i k hi hr hk
    obtain ⟨k, rfl⟩ : ∃ m, k = m + 1 := ⟨k - 1, by omega⟩
    simp only [wringerlaw18_MixerOne.l0]
    rw [if_neg (by omega)]
    obtain rfl : i = n := by omega
    exact hr k (by omega)
  | succ d ih =>
    intro i k hi hr hk
    obtain ⟨k, rfl⟩ : ∃ m, k = m + 1 := ⟨k - 1, by omega⟩
    have e0 : ((List.range i).map (w3 l1)).length = i := by simp
    have e1 : ((List.range i).map (x3 l2)).length = i := by simp
    have g0 := map_snoc (w3 l1) i
    have g1 := map_snoc (x3 l2) i
    simp only [wringerlaw18_MixerOne.l0]
    rw [if_pos (by omega), if_pos (by omega), if_pos (by omega), if_pos (by omega), if_pos (by omega), if_pos (by omega), wrap_i i (by omega)]
    have q0 : wrap64 (wrap64 (rd l1 (i : Int)) * 30) = w3 l1 i := rfl
    have q1 : Int.tmod (wrap64 (rd l2 (i : Int))) 2048 = x3 l2 i := rfl
    rw [q0, q1, ← g0, ← g1]
    exact ih (i + 1) k (by omega) (fun k' hk' => hr k' (by omega)) (by omega)
def turned (W : List Int) (n t i : Nat) : Int := rd W (((i + t) % n : Nat) : Int)
theorem second_loop (a c : Int) (W X : List Int) (n t : Nat) (ht : t ≤ 255) (lW : W.length = n) (lX : X.length = n) (h2 : n ≤ 20) (r : Option Bool) : ∀ (d i k : Nat), i + d = n →
    (∀ k', k = k' + d + 1 → ((mixer_Mix.f k' [65536] [wrap64 a]).bind fun t158 => ((wringerref15_Squash.f c).bind fun t159 => (if t158 = t159 then ((mixer_Mix.f k' [65536, 5] [c]).bind fun t166 => ((wringerref15_Squash.f c).bind fun t167 => (if t166 = t167 then ((mixer_Mix.f k' W X).bind fun t168 => ((mixer_Mix.f k' ((List.range n).map (turned W n t)) ((List.range n).map (turned X n t))).bind fun t169 => (if t168 = t169 then ((wringerlaw18_awake.f k').bind fun t170 => (some t170)) else (some false)))) else (some false)))) else (some false)))) = r) → d < k →
    wringerlaw18_MixerOne.l1 k a (t : Int) c W X ((List.range i).map (turned W n t)) ((List.range i).map (turned X n t)) n (i : Int) = r := by
  intro d
  induction d with
  | zero =>
    intro i k hi hr hk
    obtain ⟨k, rfl⟩ : ∃ m, k = m + 1 := ⟨k - 1, by omega⟩
    simp only [wringerlaw18_MixerOne.l1]
    rw [if_neg (by omega)]
    obtain rfl : i = n := by omega
    exact hr k (by omega)
  | succ d ih =>
    intro i k hi hr hk
    obtain ⟨k, rfl⟩ : ∃ m, k = m + 1 := ⟨k - 1, by omega⟩
    have e0 : ((List.range i).map (turned W n t)).length = i := by simp
    have e1 : ((List.range i).map (turned X n t)).length = i := by simp
    have g0 := map_snoc (turned W n t) i
    have g1 := map_snoc (turned X n t) i
    have hj : Int.tmod (wrap64 ((i : Int) + wrap64 (t : Int))) (n : Int) = (((i + t) % n : Nat) : Int) := by
      rw [wrap_two i t (by omega), Int.tmod_eq_emod_of_nonneg (by omega)]
      exact (Int.natCast_emod (i + t) n).symm
    have hlt : (i + t) % n < n := Nat.mod_lt _ (by omega)
    have q0 : rd W (((i + t) % n : Nat) : Int) = turned W n t i := rfl
    have q1 : rd X (((i + t) % n : Nat) : Int) = turned X n t i := rfl
    have go := ih (i + 1) k (by omega) (fun k' hk' => hr k' (by omega)) (by omega)
    have c1 : (i : Int) < (n : Int) := by omega
    have c2 : ¬ (n : Int) = 0 := by omega
    clear ih hr
    simp only [wringerlaw18_MixerOne.l1]
    rw [hj]
    clear hj
    generalize (i + t) % n = j at *
    rw [if_pos c1, if_neg c2, if_pos (by omega), if_pos (by omega), if_pos (by omega), if_pos (by omega), if_pos (by omega), wrap_i i (by omega), q0, q1, ← g0, ← g1]
    exact go
theorem ci_in (x : Int) (h0 : -2047 ≤ x) (h1 : x ≤ 2047) : ci x = x := by unfold ci mx mn; split <;> split <;> omega
theorem ci_range (x : Int) : -2047 ≤ ci x ∧ ci x ≤ 2047 := by unfold ci mx mn; split <;> split <;> omega
theorem ci_ci (x : Int) : ci (ci x) = ci x := ci_in _ (ci_range x).1 (ci_range x).2
theorem sq_ci (x : Int) : sq (ci x) = sq x := by
  have e : sqCut (ci x) = sqCut x := ci_ci x
  unfold sq
  rw [e]
theorem mix_one (W : List Int) (x : Int) : mixV (65536 :: W) [x] = sq (ci x) := by
  have hr : -2047 ≤ ci x ∧ ci x ≤ 2047 := by unfold ci mx mn; split <;> split <;> omega
  unfold mixV
  have e : min (65536 :: W).length [x].length = 1 := by simp
  rw [e]
  simp only [msum]
  have e1 : cw (rd (65536 :: W) ((0 : Nat) : Int)) = 65536 := rfl
  have e2 : rd [x] ((0 : Nat) : Int) = x := rfl
  rw [e1, e2]
  have e3 : wrap64 (0 + wrap64 (65536 * ci x)) / 65536 = ci x := by
    generalize ci x = y at *
    unfold wrap64
    omega
  rw [e3, ci_ci]
theorem MixerOne : wringerlaw18_MixerOne.Pure := by
  intro a0 l1 l2 a3 h0 _ _ _ _ _ _ h3
  obtain ⟨n, hn⟩ : ∃ n : Nat, min (min l1.length l2.length) 20 = n := ⟨_, rfl⟩
  have emn : mn (mn (l1.length : Int) (l2.length : Int)) 20 = (n : Int) := by
    rw [mn_len, ← hn]
    exact mn_len _ 20
  obtain ⟨t0, t1⟩ : 0 ≤ a3 ∧ a3 ≤ 255 := by
    simp only [Lit.wf, Bool.and_eq_true, decide_eq_true_eq] at h3
    exact h3
  obtain ⟨t, rfl⟩ := Int.eq_ofNat_of_zero_le t0
  obtain ⟨b0, b1⟩ : -32768 ≤ a0 ∧ a0 ≤ 32767 := by
    simp only [Lit.wf, Bool.and_eq_true, decide_eq_true_eq] at h0
    exact h0
  have ea : wrap64 a0 = a0 := by unfold wrap64; omega
  have ec : mx (-2047) (mn (wrap64 a0) 2047) = ci a0 := by rw [ea]; rfl
  refine ⟨100, ?_⟩
  unfold wringerlaw18_MixerOne.f
  rw [emn, ec]
  refine first_loop a0 l1 l2 (t : Int) (ci a0) n (by omega) (by omega) (by omega) (some true) n 0 100 (by omega) ?_ (by omega)
  intro k1 hk1
  have lW : ((List.range n).map (w3 l1)).length = n := by simp
  have lX : ((List.range n).map (x3 l2)).length = n := by simp
  generalize (List.range n).map (w3 l1) = W at *
  generalize (List.range n).map (x3 l2) = X at *
  refine second_loop a0 (ci a0) W X n t (by omega) lW lX (by omega) (some true) n 0 k1 (by omega) ?_ (by omega)
  intro k hk
  have lV : ((List.range n).map (turned W n t)).length = n := by simp
  have lO : ((List.range n).map (turned X n t)).length = n := by simp
  rw [mix_val [65536] [wrap64 a0] k (by simp; omega) (by simp), mix_val [65536, 5] [ci a0] k (by simp; omega) (by simp), mix_val W X k (by omega) (by omega), mix_val ((List.range n).map (turned W n t)) _ k (by omega) (by omega)]
  simp only [wringerref15_Squash.f, Option.bind_some]
  rw [mix_one, mix_one, ea, ci_ci, if_pos rfl, if_pos rfl]
  have eq : mixV W X = mixV ((List.range n).map (turned W n t)) ((List.range n).map (turned X n t)) := by
    rcases Nat.eq_zero_or_pos n with hz | hz
    · subst hz
      have w0 : W = [] := List.eq_nil_of_length_eq_zero lW
      have x0 : X = [] := List.eq_nil_of_length_eq_zero lX
      rw [w0, x0]
      rfl
    · exact mixV_range W X _ _ n t hz lW lX lV lO (fun i hi => rd_map _ n i hi) (fun i hi => rd_map _ n i hi)
  rw [if_pos eq, awake_at k (by omega)]
  rfl
end Go.Proofs.Ytnhfkkffmlfkbaa.Pure
