/- Numbers of the range coder: a number's bytes, the highest first; sums with a carry; the coder's steps as numbers. Conditions: as stated. -/
import Derived.Test.YtgldblakdhalkaaGMin
namespace Go.Proofs.Ytgldblakdhalkaa
set_option linter.unusedVariables false
/-- The byte of weight 256 ^ j. -/
def dg (V j : Nat) : Nat := V / 256 ^ j % 256
/-- n bytes of a number, the highest first. -/
def beI (n V : Nat) : List Int := (List.range n).map fun i => ((dg V (n - 1 - i) : Nat) : Int)
/-- Of n bytes the lowest m are those of W already. -/
def parI (n V W m : Nat) : List Int := (List.range n).map fun i => ((dg (if n - 1 - i < m then W else V) (n - 1 - i) : Nat) : Int)
theorem dg_lt (V j : Nat) : dg V j < 256 := Nat.mod_lt _ (by decide)
theorem beI_length (n V : Nat) : (beI n V).length = n := by simp [beI]
theorem parI_length (n V W m : Nat) : (parI n V W m).length = n := by simp [parI]
theorem beI_get (n V i : Nat) (h : i < n) : (beI n V)[i]? = some ((dg V (n - 1 - i) : Nat) : Int) := by
  unfold beI
  rw [List.getElem?_map, List.getElem?_range h]
  rfl
theorem parI_get (n V W m i : Nat) (h : i < n) : (parI n V W m)[i]? = some ((dg (if n - 1 - i < m then W else V) (n - 1 - i) : Nat) : Int) := by
  unfold parI
  rw [List.getElem?_map, List.getElem?_range h]
  rfl
theorem list_ext {l k : List Int} (h : l.length = k.length) (hi : ∀ i, i < l.length → l[i]? = k[i]?) : l = k := by
  apply List.ext_getElem?
  intro i
  by_cases c : i < l.length
  · exact hi i c
  · rw [List.getElem?_eq_none (by omega), List.getElem?_eq_none (by omega)]
theorem parI_zero (n V W : Nat) : parI n V W 0 = beI n V := by
  refine list_ext (by rw [parI_length, beI_length]) fun i hi => ?_
  rw [parI_length] at hi
  rw [parI_get _ _ _ _ _ hi, beI_get _ _ _ hi, if_neg (by omega)]
theorem parI_stop (n V W m : Nat) (h : ∀ j, m ≤ j → j < n → dg W j = dg V j) : parI n V W m = beI n W := by
  refine list_ext (by rw [parI_length, beI_length]) fun i hi => ?_
  rw [parI_length] at hi
  rw [parI_get _ _ _ _ _ hi, beI_get _ _ _ hi]
  by_cases c : n - 1 - i < m
  · rw [if_pos c]
  · rw [if_neg c, h _ (by omega) (by omega)]
theorem parI_set (n V W m : Nat) (h : m < n) : (parI n V W m).set (n - 1 - m) ((dg W m : Nat) : Int) = parI n V W (m + 1) := by
  refine list_ext (by rw [List.length_set, parI_length, parI_length]) fun i hi => ?_
  rw [List.length_set, parI_length] at hi
  rw [parI_get _ _ _ _ _ hi]
  by_cases c : n - 1 - m = i
  · subst c
    rw [List.getElem?_set_self (by rw [parI_length]; omega), show n - 1 - (n - 1 - m) = m by omega, if_pos (by omega)]
  · rw [List.getElem?_set_ne c, parI_get _ _ _ _ _ hi]
    by_cases c2 : n - 1 - i < m
    · rw [if_pos c2, if_pos (by omega)]
    · rw [if_neg c2, if_neg (by omega)]
theorem dg_div (V a j : Nat) : dg (V / 256 ^ a) j = dg V (a + j) := by
  unfold dg
  rw [Nat.div_div_eq_div_mul, Nat.pow_add]
theorem dg_congr {V W a j : Nat} (h : V / 256 ^ a = W / 256 ^ a) (hj : a ≤ j) : dg V j = dg W j := by
  obtain ⟨d, rfl⟩ := Nat.exists_eq_add_of_le hj
  rw [← dg_div, ← dg_div, h]
theorem beI_app (a b V : Nat) : beI (a + b) V = beI a (V / 256 ^ b) ++ beI b V := by
  refine list_ext (by rw [List.length_append, beI_length, beI_length, beI_length]) fun i hi => ?_
  rw [beI_length] at hi
  rw [beI_get _ _ _ hi]
  by_cases c : i < a
  · rw [List.getElem?_append_left (by rw [beI_length]; exact c), beI_get _ _ _ c, dg_div, show a + b - 1 - i = b + (a - 1 - i) by omega]
  · rw [List.getElem?_append_right (by rw [beI_length]; omega), beI_length, beI_get _ _ _ (by omega), show a + b - 1 - i = b - 1 - (i - a) by omega]
theorem beI_one (c : Nat) (h : c < 256) : beI 1 c = [(c : Int)] := by
  have : dg c 0 = c := by unfold dg; rw [Nat.pow_zero, Nat.div_one]; exact Nat.mod_eq_of_lt h
  unfold beI
  simp [List.range_succ, this]
theorem beI_mod (n V : Nat) : beI n (V % 256 ^ n) = beI n V := by
  refine list_ext (by rw [beI_length, beI_length]) fun i hi => ?_
  rw [beI_length] at hi
  rw [beI_get _ _ _ hi, beI_get _ _ _ hi]
  congr 2
  unfold dg
  have e : 256 ^ n = 256 ^ (n - 1 - i) * 256 ^ (i + 1) := by rw [← Nat.pow_add]; congr 1; omega
  rw [e, Nat.mod_mul_right_div_self, Nat.pow_succ, Nat.mul_comm (256 ^ i) 256, Nat.mod_mul_right_mod]
theorem beI_snoc (n D c : Nat) (h : c < 256) : beI (n + 1) (D * 256 + c) = beI n D ++ [(c : Int)] := by
  rw [beI_app n 1, ← beI_one c h]
  have e1 : (D * 256 + c) / 256 ^ 1 = D := by rw [Nat.pow_one]; omega
  have e2 : beI 1 (D * 256 + c) = beI 1 c := by
    rw [← beI_mod 1 (D * 256 + c), ← beI_mod 1 c]
    congr 1
    rw [Nat.pow_one]
    omega
  rw [e1, e2]
/-! ### A sum with its carry -/
/-- What is carried behind m bytes. -/
def cy (V n m : Nat) : Nat := (V % 256 ^ m + n) / 256 ^ m
theorem cy_zero (V n : Nat) : cy V n 0 = n := by unfold cy; rw [Nat.pow_zero, Nat.mod_one, Nat.div_one, Nat.zero_add]
theorem cy_div (V n m : Nat) : (V + n) / 256 ^ m = cy V n m + V / 256 ^ m := by
  unfold cy
  have hp : 0 < 256 ^ m := Nat.pow_pos (by decide)
  conv => lhs; rw [← Nat.mod_add_div V (256 ^ m)]
  rw [show V % 256 ^ m + 256 ^ m * (V / 256 ^ m) + n = V % 256 ^ m + n + 256 ^ m * (V / 256 ^ m) by omega, Nat.add_mul_div_left _ _ hp]
theorem cy_succ (V n m : Nat) : cy V n (m + 1) = (cy V n m + dg V m) / 256 := by
  have hp : 0 < 256 ^ m := Nat.pow_pos (by decide)
  unfold cy dg
  rw [Nat.pow_succ, ← Nat.div_div_eq_div_mul, Nat.mod_mul]
  congr 1
  rw [show V % 256 ^ m + 256 ^ m * (V / 256 ^ m % 256) + n = V % 256 ^ m + n + 256 ^ m * (V / 256 ^ m % 256) by omega, Nat.add_mul_div_left _ _ hp]
theorem dg_sum (V n m : Nat) : dg (V + n) m = (cy V n m + dg V m) % 256 := by
  unfold dg
  rw [cy_div]
  omega
theorem cy_none (V n m j : Nat) (h : cy V n m = 0) (hj : m ≤ j) : dg (V + n) j = dg V j := dg_congr (by rw [cy_div, h, Nat.zero_add]) hj
theorem cy_lt (V n m : Nat) (h : n < 4294967296) : cy V n m < 4294967296 := by
  induction m with
  | zero => rw [cy_zero]; exact h
  | succ m ih => rw [cy_succ]; have := dg_lt V m; omega
theorem cy_top (V n L : Nat) (h : V + n < 256 ^ L) : cy V n L = 0 := by
  unfold cy
  rw [Nat.mod_eq_of_lt (by omega)]
  exact Nat.div_eq_of_lt h
end Go.Proofs.Ytgldblakdhalkaa
