/- One class again and again takes few bytes: the range alone, reckoned. No program in it. -/
import Derived.Test.YtgldblakdhalkaaTback
namespace Go.Proofs.Ytgldblakdhalkaa
set_option linter.unusedVariables false
open Go.RowKit Go.Proofs.YtgldblakdhalkaaW.PrintWords Go.Proofs.YtgldblakdhalkaaW.PrintLast Go.Proofs.YtgldblakdhalkaaW.PrintMore Go.Proofs.Ytgldblakdhalkaa.PBase
/-- A chance behind a bit, by shift four. -/
def mv4 (b : Bool) (p : Nat) : Nat := if b then p + (4096 - p) / 16 else p - p / 16
def cutM (p : Nat) : Nat := if p < 1 then 1 else if 4095 < p then 4095 else p
def growRL : Nat → Nat → Nat → Nat × Nat
  | 0, R, L => (R, L)
  | k + 1, R, L => if R < 16777216 then growRL k (R * 256) (L + 1) else (R, L)
def bitRL (b : Bool) (p R L : Nat) : Nat × Nat := growRL 4 (if b then R / 4096 * cutM p else R - R / 4096 * cutM p) L
def foldRL (u d : Nat) : List Bool → Nat → Nat → Nat × Nat
  | [], R, L => (R, L)
  | b :: bs, R, L => foldRL u d bs (bitRL b (if b then u else d) R L).1 (bitRL b (if b then u else d) R L).2
def runOk (bs : List Bool) : Nat → Nat → Nat → Nat → Nat → Nat → Bool
  | 0, n, u, d, R, L => Nat.ble (L + 4) (16 + n / 8)
  | k + 1, n, u, d, R, L => Nat.ble (L + 4) (16 + n / 8) && runOk bs k (n + 1) (mv4 true u) (mv4 false d) (foldRL u d bs R L).1 (foldRL u d bs R L).2
def bitsB (c : Nat) : List Bool := [nbit c 0, nbit c 1, nbit c 2, nbit c 3, nbit c 4, nbit c 5, nbit c 6]
theorem mv4_le (b : Bool) (p : Nat) (h : p ≤ 4096) : mv4 b p ≤ 4096 := by unfold mv4; split <;> omega
theorem mv4_val (b : Bool) (p : Nat) (h : p ≤ 4096) : mvI (p : Int) (bI b) 4 = (mv4 b p : Int) := by
  have e1 : mx 0 (mn (p : Int) 4096) = (p : Int) := by unfold mx mn; split <;> split <;> omega
  have e2 : (mx 1 (mn 4 12)).toNat = 4 := by decide
  unfold mvI mv4
  rw [e1, e2]
  cases b
  · rw [if_pos (show bI false = 0 from rfl), if_neg Bool.false_ne_true]
    unfold wrap64
    omega
  · rw [if_neg (show ¬ bI true = 0 by decide), if_pos rfl]
    unfold wrap64
    omega
theorem cutM_val (p : Nat) : cutN (p : Int) = cutM p := by
  unfold cutN cutM
  split <;> split <;> (try split) <;> (try split) <;> omega
theorem growRL_val : ∀ (k : Nat) (e : Enc), growRL k e.R e.L = ((growE k e).R, (growE k e).L)
  | 0, e => rfl
  | k + 1, e => by
    unfold growRL growE
    by_cases c : e.R < 16777216
    · rw [if_pos c, if_pos c]
      exact growRL_val k e.up
    · rw [if_neg c, if_neg c]
theorem bitRL_val (b : Bool) (p : Nat) (e : Enc) : bitRL b p e.R e.L = ((bitE (p : Int) b e).R, (bitE (p : Int) b e).L) := by
  unfold bitRL bitE
  rw [← cutM_val]
  have h := growRL_val 4 (bitP (p : Int) b e)
  rw [← h]
  unfold bitP shareN
  cases b <;> rfl
theorem node_range (c i : Nat) (hc : c < 65) (hi : i < 7) : 2 ^ i ≤ nodeN c i ∧ nodeN c i < 2 ^ (i + 1) := by
  unfold nodeN
  rcases (by omega : i = 0 ∨ i = 1 ∨ i = 2 ∨ i = 3 ∨ i = 4 ∨ i = 5 ∨ i = 6) with h | h | h | h | h | h | h <;> subst h <;> simp <;> omega
theorem node_ne (c i j : Nat) (hc : c < 65) (hi : i < 7) (hj : j < 7) (h : i ≠ j) : nodeN c i ≠ nodeN c j := by
  obtain ⟨a1, a2⟩ := node_range c i hc hi
  obtain ⟨b1, b2⟩ := node_range c j hc hj
  rcases Nat.lt_or_gt_of_ne h with h | h
  · have : 2 ^ (i + 1) ≤ 2 ^ j := Nat.pow_le_pow_right (by decide) h
    omega
  · have : 2 ^ (j + 1) ≤ 2 ^ i := Nat.pow_le_pow_right (by decide) h
    omega
/-- All nodes of a class stand at one of two chances, by their bit. -/
structure Sim (c : Nat) (t : TS) (u d : Nat) : Prop where
  len : t.p.length = 128
  at_ : ∀ j, j < 7 → t.at_ (nodeN c j) = ((if nbit c j then u else d : Nat) : Int)
  hu : u ≤ 4096
  hd : d ≤ 4096
theorem set_at (t : TS) (n m : Nat) (x : Int) (e : Enc) (hn : n < t.p.length) : (TS.mk (t.p.set n x) e).at_ m = if n = m then x else t.at_ m := by
  unfold TS.at_
  simp only
  rw [List.getD_eq_getElem?_getD, List.getD_eq_getElem?_getD]
  by_cases h : n = m
  · subst h
    rw [if_pos rfl, List.getElem?_set_self hn]
    rfl
  · rw [if_neg h, List.getElem?_set_ne h]
/-- i bits of the class. -/
theorem sim_part (c : Nat) (hc : c < 65) {t : TS} {u d : Nat} (h : Sim c t u d) : ∀ i, i ≤ 7 → (putN 4 c i t).p.length = 128 ∧ (∀ j, j < 7 → (putN 4 c i t).at_ (nodeN c j) = ((if j < i then mv4 (nbit c j) (if nbit c j then u else d) else (if nbit c j then u else d) : Nat) : Int)) ∧
    ((putN 4 c i t).e.R, (putN 4 c i t).e.L) = foldRL u d ((bitsB c).take i) t.e.R t.e.L
  | 0, _ => ⟨h.len, fun j hj => by rw [if_neg (by omega)]; exact h.at_ j hj, rfl⟩
  | i + 1, hi => by
    obtain ⟨h1, h2, h3⟩ := sim_part c hc h i (by omega)
    have hn := nodeN_lt c i hc (by omega)
    have hchance := h2 i (by omega)
    rw [if_neg (by omega)] at hchance
    have hle : (if nbit c i then u else d) ≤ 4096 := by split; exact h.hu; exact h.hd
    have e0 : putN 4 c (i + 1) t = ⟨(putN 4 c i t).p.set (nodeN c i) (mvI ((putN 4 c i t).at_ (nodeN c i)) (bI (nbit c i)) 4), bitE ((putN 4 c i t).at_ (nodeN c i)) (nbit c i) (putN 4 c i t).e⟩ := rfl
    rw [hchance, mv4_val _ _ hle] at e0
    refine ⟨by rw [e0]; simp only [List.length_set]; exact h1, ?_, ?_⟩
    · intro j hj
      rw [e0, set_at _ _ _ _ _ (by omega)]
      by_cases hij : i = j
      · subst hij
        rw [if_pos rfl, if_pos (show i < i + 1 by omega)]
      · rw [if_neg (node_ne c i j hc (by omega) hj hij), h2 j hj]
        by_cases hji : j < i
        · rw [if_pos hji, if_pos (show j < i + 1 by omega)]
        · rw [if_neg hji, if_neg (show ¬ j < i + 1 by omega)]
    · rw [e0]
      simp only
      rw [← bitRL_val]
      have e1 : (bitsB c).take (i + 1) = (bitsB c).take i ++ [nbit c i] := by
        rw [List.take_add_one]
        congr 1
        rcases (by omega : i = 0 ∨ i = 1 ∨ i = 2 ∨ i = 3 ∨ i = 4 ∨ i = 5 ∨ i = 6) with h | h | h | h | h | h | h <;> subst h <;> rfl
      have e2 : ∀ (l : List Bool) (b : Bool) (R L : Nat), foldRL u d (l ++ [b]) R L = bitRL b (if b then u else d) (foldRL u d l R L).1 (foldRL u d l R L).2 := by
        intro l b
        induction l with
        | nil => intro R L; rfl
        | cons x l ih => intro R L; exact ih _ _
      rw [e1, e2, ← h3]
theorem sim_round (c : Nat) (hc : c < 65) {t : TS} {u d : Nat} (h : Sim c t u d) : Sim c (putN 4 c 7 t) (mv4 true u) (mv4 false d) ∧ ((putN 4 c 7 t).e.R, (putN 4 c 7 t).e.L) = foldRL u d (bitsB c) t.e.R t.e.L := by
  obtain ⟨h1, h2, h3⟩ := sim_part c hc h 7 (Nat.le_refl _)
  refine ⟨⟨h1, ?_, mv4_le _ _ h.hu, mv4_le _ _ h.hd⟩, h3⟩
  intro j hj
  rw [h2 j hj, if_pos hj]
  cases nbit c j <;> rfl
theorem run_spec (c : Nat) (hc : c < 65) : ∀ (k n : Nat) {t : TS} {u d : Nat}, Sim c t u d → runOk (bitsB c) k n u d t.e.R t.e.L = true → ∀ m, m ≤ k → (putL 4 (List.replicate m (c : Int)) t).e.L + 4 ≤ 16 + (n + m) / 8
  | 0, n, t, u, d, h, hr, m, hm => by
    obtain rfl : m = 0 := by omega
    exact Nat.le_of_ble_eq_true hr
  | k + 1, n, t, u, d, h, hr, 0, hm => by
    unfold runOk at hr
    rw [Bool.and_eq_true] at hr
    exact Nat.le_of_ble_eq_true hr.1
  | k + 1, n, t, u, d, h, hr, m + 1, hm => by
    unfold runOk at hr
    rw [Bool.and_eq_true] at hr
    obtain ⟨h1, h2⟩ := sim_round c hc h
    have h3 := hr.2
    rw [← h2] at h3
    have h4 := run_spec c hc k (n + 1) h1 h3 m (by omega)
    rw [List.replicate_succ]
    show (putL 4 (List.replicate m (c : Int)) (putN 4 ((c : Int).toNat) 7 t)).e.L + 4 ≤ _
    rw [Int.toNat_natCast, show n + (m + 1) = n + 1 + m by omega]
    exact h4
theorem sim_new (c : Nat) (hc : c < 65) : Sim c TS.new 2048 2048 := by
  refine ⟨List.length_replicate, fun j hj => ?_, by decide, by decide⟩
  have hn := nodeN_lt c j hc hj
  unfold TS.at_ TS.new
  simp only
  rw [List.getD_eq_getElem?_getD, List.getElem?_replicate, if_pos hn]
  cases nbit c j <;> rfl
theorem sizes_all : (List.range 65).all (fun c => runOk (bitsB c) 255 0 2048 2048 4294967295 1) = true := by decide +kernel
theorem one_class (c n : Nat) (hc : c < 65) (hn : n ≤ 255) : (bytesE (putL 4 (List.replicate n (c : Int)) TS.new).e).size ≤ 16 + n / 8 := by
  have h := (List.all_eq_true.1 sizes_all) c (List.mem_range.2 hc)
  have h2 := run_spec c hc 255 0 (sim_new c hc) h n hn
  rw [bytesE_size]
  rw [Nat.zero_add] at h2
  exact h2
end Go.Proofs.Ytgldblakdhalkaa
