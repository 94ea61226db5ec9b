/- Classes that were put are told again, by whatever bytes say them. No program in it. -/
import Derived.Test.YtgldblakdhalkaaTreep
namespace Go.Proofs.Ytgldblakdhalkaa
set_option linter.unusedVariables false
theorem stepT_sub {t : TS} (h : t.ok) (sh : Int) (n : Nat) (b : Bool) : t.e.sub (stepT sh n b t).e := bitE_sub h.2 _ _
theorem putN_sub (sh : Int) (c : Nat) {t : TS} (h : t.ok) (i : Nat) : ∀ d, (putN sh c i t).e.sub (putN sh c (i + d) t).e
  | 0 => Enc.sub_refl _
  | d + 1 => Enc.sub_trans (putN_sub sh c h i d) (stepT_sub (putN_ok sh c (i + d) h) sh _ _)
theorem putL_sub (sh : Int) : ∀ (l : List Int) {t : TS}, t.ok → t.e.sub (putL sh l t).e
  | [], t, _ => Enc.sub_refl _
  | c :: l, t, h => Enc.sub_trans (putN_sub sh c.toNat h 0 7) (putL_sub sh l (putN_ok sh c.toNat 7 h))
theorem putL_app (sh : Int) : ∀ (l k : List Int) (t : TS), putL sh (l ++ k) t = putL sh k (putL sh l t)
  | [], _, _ => rfl
  | c :: l, k, t => putL_app sh l k (putN sh c.toNat 7 t)
theorem node_next (c i : Nat) (h : i < 7) : nodeN c (i + 1) = 2 * nodeN c i + (nbit c i).toNat := by
  unfold nodeN nbit
  have e : 7 - i = (6 - i) + 1 := by omega
  rw [show 7 - (i + 1) = 6 - i by omega, e, Nat.pow_succ, ← Nat.div_div_eq_div_mul]
  generalize (128 + c) / 2 ^ (6 - i) = x
  rcases Nat.mod_two_eq_zero_or_one x with h | h <;> rw [h]
  · show x = 2 * (x / 2) + 0; omega
  · show x = 2 * (x / 2) + 1; omega
/-- A class's bits are told. -/
theorem getB_told (s : ByteArray) (sh : Int) (c : Nat) (hc : c < 128) {t : TS} (ht : t.ok) (hs : Says s (putN sh c 7 t).e) : ∀ (k i : Nat), i + k = 7 → getB s sh k (nodeN c i) (putN sh c i t) = (0, 128 + c, putN sh c 7 t)
  | 0, i, h => by
    obtain rfl : i = 7 := by omega
    rw [getB_zero]
    have : nodeN c 7 = 128 + c := by unfold nodeN; rw [Nat.sub_self, Nat.pow_zero, Nat.div_one]
    rw [this]
  | k + 1, i, h => by
    have hok := putN_ok sh c i ht
    have hs1 : Says s (stepT sh (nodeN c i) (nbit c i) (putN sh c i t)).e := by
      have h1 := putN_sub sh c ht (i + 1) k
      rw [show i + 1 + k = 7 by omega] at h1
      exact hs.ahead h1
    obtain ⟨h1, h2⟩ := says_bit hok.2 (show Says s (bitE ((putN sh c i t).at_ (nodeN c i)) (nbit c i) (putN sh c i t).e) from hs1)
    rw [getB_ok s sh k (nodeN c i) (putN sh c i t) h1 (nbit c i) h2, ← node_next c i (by omega)]
    exact getB_told s sh c hc ht hs k (i + 1) (by omega)
theorem getB_class (s : ByteArray) (sh : Int) (c : Nat) (hc : c < 128) {t : TS} (ht : t.ok) (hs : Says s (putN sh c 7 t).e) : getB s sh 7 1 t = (0, 128 + c, putN sh c 7 t) := by
  have h := getB_told s sh c hc ht hs 7 0 (by omega)
  have e : nodeN c 0 = 1 := by unfold nodeN; rw [Nat.sub_zero]; omega
  rw [e] at h
  exact h
/-- The first classes are told. -/
theorem getC_told (s : ByteArray) (sh : Int) (l : List Int) (hc : ∀ (j : Nat) (c : Int), l[j]? = some c → isC c = true) (hs : Says s (putL sh l TS.new).e) : ∀ (k i : Nat), i + k ≤ l.length → getC s sh k (l.take i) (putL sh (l.take i) TS.new) = (0, l.take (i + k), putL sh (l.take (i + k)) TS.new)
  | 0, i, _ => by rw [getC_zero]; rfl
  | k + 1, i, h => by
    have hli : l[i]? = some (l[i]'(by omega)) := List.getElem?_eq_getElem _
    obtain ⟨n, hn, hn65⟩ := isC_nat (hc i _ hli)
    rw [hn] at hli
    have hnx := putL_next sh l i (n : Int) TS.new hli
    rw [Int.toNat_natCast] at hnx
    have hs1 : Says s (putN sh n 7 (putL sh (l.take i) TS.new)).e := by
      rw [← hnx]
      have h1 := putL_sub sh (l.drop (i + 1)) (putL_ok sh (l.take (i + 1)) TS.new_ok)
      rw [← putL_app, List.take_append_drop] at h1
      exact hs.ahead h1
    rw [getC_ok s sh k (l.take i) _ (128 + n) _ (getB_class s sh n (by omega) (putL_ok sh (l.take i) TS.new_ok) hs1) (by omega), ← hnx]
    have e : l.take i ++ [((128 + n : Nat) : Int) - 128] = l.take (i + 1) := by
      rw [List.take_add_one, hli]
      show _ = l.take i ++ [(n : Int)]
      congr 2
      omega
    rw [e, getC_told s sh l hc hs k (i + 1) (by omega), show i + 1 + k = i + (k + 1) by omega]
theorem getC_first (s : ByteArray) (sh : Int) (l : List Int) (hc : ∀ (j : Nat) (c : Int), l[j]? = some c → isC c = true) (hs : Says s (putL sh l TS.new).e) (k : Nat) (hk : k ≤ l.length) : getC s sh k [] TS.new = (0, l.take k, putL sh (l.take k) TS.new) := by
  have h := getC_told s sh l hc hs k 0 (by omega)
  rw [Nat.zero_add] at h
  exact h
/-- All classes are told, and then it is the end. -/
theorem getS_back (sh : Int) (l : List Int) (hc : ∀ (j : Nat) (c : Int), l[j]? = some c → isC c = true) : getS (bytesE (putL sh l TS.new).e) l.length sh = (l, 0) := by
  have hok := putL_ok sh l TS.new_ok
  have h := getC_first (bytesE (putL sh l TS.new).e) sh l hc (bytesE_says hok.2) l.length (Nat.le_refl _)
  rw [List.take_length] at h
  unfold getS
  rw [h, if_pos rfl, if_pos (bytesE_end hok.2)]
/-- Fewer classes: an error, or the first ones. -/
theorem getS_less (sh : Int) (l : List Int) (hc : ∀ (j : Nat) (c : Int), l[j]? = some c → isC c = true) (k : Nat) (hk : k ≤ l.length) : getS (bytesE (putL sh l TS.new).e) k sh = (l.take k, 0) ∨ getS (bytesE (putL sh l TS.new).e) k sh = ([], 3) := by
  have hok := putL_ok sh l TS.new_ok
  have h := getC_first (bytesE (putL sh l TS.new).e) sh l hc (bytesE_says hok.2) k hk
  unfold getS
  rw [h, if_pos rfl]
  by_cases he : endE (bytesE (putL sh l TS.new).e) (putL sh (l.take k) TS.new).e = 0
  · rw [if_pos he]; exact Or.inl rfl
  · rw [if_neg he]; exact Or.inr rfl
end Go.Proofs.Ytgldblakdhalkaa
