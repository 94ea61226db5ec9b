/- The reference reader's subtraction, byte by byte, the lowest first: what is left and what is owed. No program in it. -/
import Derived.Test.YtgldblakdhalkaaBackN
namespace Go.Proofs.Ytgldblakdhalkaa
set_option linter.unusedVariables false
/-- What is owed behind i bytes. -/
def owB (X V i : Nat) : Nat := if X % 256 ^ i < V % 256 ^ i then 1 else 0
/-- What is left of i bytes. -/
def dfB (X V i : Nat) : Nat := X % 256 ^ i + owB X V i * 256 ^ i - V % 256 ^ i
theorem owB_zero (X V : Nat) : owB X V 0 = 0 := by unfold owB; rw [Nat.pow_zero, Nat.mod_one, Nat.mod_one]; rfl
theorem dfB_zero (X V : Nat) : dfB X V 0 = 0 := by unfold dfB; rw [owB_zero, Nat.pow_zero, Nat.mod_one, Nat.mod_one]
theorem owB_le (X V i : Nat) : owB X V i ≤ 1 := by unfold owB; split <;> omega
theorem dfB_lt (X V i : Nat) : dfB X V i < 256 ^ i := by
  have hp : 0 < 256 ^ i := Nat.pow_pos (by decide)
  have h1 := Nat.mod_lt X hp
  have h2 := Nat.mod_lt V hp
  unfold dfB owB
  split <;> omega
theorem mod_up (X i : Nat) : X % 256 ^ (i + 1) = X % 256 ^ i + 256 ^ i * dg X i := by rw [Nat.pow_succ, Nat.mod_mul]; rfl
theorem sub_up (X V i : Nat) : owB X V (i + 1) = (if dg X i < dg V i + owB X V i then 1 else 0) ∧ dfB X V (i + 1) = dfB X V i + 256 ^ i * (dg X i + 256 * owB X V (i + 1) - (dg V i + owB X V i)) := by
  have hp : 0 < 256 ^ i := Nat.pow_pos (by decide)
  have hx := Nat.mod_lt X hp
  have hv := Nat.mod_lt V hp
  have hxb := dg_lt X i
  have hvb := dg_lt V i
  unfold dfB
  have e1 : owB X V (i + 1) = if X % 256 ^ i + 256 ^ i * dg X i < V % 256 ^ i + 256 ^ i * dg V i then 1 else 0 := by unfold owB; rw [mod_up, mod_up]
  have e0 : owB X V i = if X % 256 ^ i < V % 256 ^ i then 1 else 0 := rfl
  rw [mod_up, mod_up, Nat.pow_succ]
  generalize X % 256 ^ i = x at *
  generalize V % 256 ^ i = v at *
  generalize dg X i = a at *
  generalize dg V i = b at *
  generalize owB X V (i + 1) = o2 at *
  generalize owB X V i = o at *
  generalize 256 ^ i = p at *
  have lt_case : a < b → p * a + p ≤ p * b := fun h => by rw [← Nat.mul_succ]; exact Nat.mul_le_mul_left _ h
  have gt_case : b < a → p * b + p ≤ p * a := fun h => by rw [← Nat.mul_succ]; exact Nat.mul_le_mul_left _ h
  have key : ∀ t c : Nat, b + c ≤ t → p * (t - (b + c)) + p * b + p * c = p * t := fun t c h => by
    rw [Nat.add_assoc, ← Nat.mul_add, ← Nat.mul_add]
    congr 1
    omega
  have k1 := key (a + 256 * o2) o
  rw [Nat.mul_add] at k1
  have h256 : p * (256 * 0) = 0 ∧ p * (256 * 1) = p * 256 ∧ p * 0 = 0 ∧ p * 1 = p := by omega
  generalize hT : p * (a + 256 * o2 - (b + o)) = T at *
  generalize hA : p * a = A at *
  generalize hB : p * b = B at *
  have eqc : a = b → A = B := fun h => by rw [← hA, ← hB, h]
  by_cases hxv : x < v
  · rw [if_pos hxv] at e0
    subst e0
    rcases Nat.lt_trichotomy a b with h | h | h
    · have := lt_case h
      rw [if_pos (by omega)] at e1
      subst e1
      rw [if_pos (by omega)]
      have := k1 (by omega)
      exact ⟨rfl, by omega⟩
    · have := eqc h
      rw [if_pos (by omega)] at e1
      subst e1
      rw [if_pos (by omega)]
      have := k1 (by omega)
      exact ⟨rfl, by omega⟩
    · have := gt_case h
      rw [if_neg (by omega)] at e1
      subst e1
      rw [if_neg (by omega)]
      have := k1 (by omega)
      exact ⟨rfl, by omega⟩
  · rw [if_neg hxv] at e0
    subst e0
    rcases Nat.lt_trichotomy a b with h | h | h
    · have := lt_case h
      rw [if_pos (by omega)] at e1
      subst e1
      rw [if_pos (by omega)]
      have := k1 (by omega)
      exact ⟨rfl, by omega⟩
    · have := eqc h
      rw [if_neg (by omega)] at e1
      subst e1
      rw [if_neg (by omega)]
      have := k1 (by omega)
      exact ⟨rfl, by omega⟩
    · have := gt_case h
      rw [if_neg (by omega)] at e1
      subst e1
      rw [if_neg (by omega)]
      have := k1 (by omega)
      exact ⟨rfl, by omega⟩
/-! ### The lowest seven bytes, and whether there is more -/
def p7 : Nat := 256 ^ 7
theorem low_small (X V i : Nat) (h : i ≤ 7) : dfB X V i % p7 = dfB X V i ∧ dfB X V i < p7 := by
  have h1 := dfB_lt X V i
  have h2 : 256 ^ i ≤ 256 ^ 7 := Nat.pow_le_pow_right (by decide) h
  have h3 : dfB X V i < p7 := by unfold p7; omega
  exact ⟨Nat.mod_eq_of_lt h3, h3⟩
theorem low_up (X V i t : Nat) (h : 7 ≤ i) (hd : dfB X V (i + 1) = dfB X V i + 256 ^ i * t) : dfB X V (i + 1) % p7 = dfB X V i % p7 ∧ (p7 ≤ dfB X V (i + 1) ↔ p7 ≤ dfB X V i ∨ 0 < t) := by
  have e : 256 ^ i = p7 * 256 ^ (i - 7) := by unfold p7; rw [← Nat.pow_add]; congr 1; omega
  have hp : 0 < 256 ^ (i - 7) := Nat.pow_pos (by decide)
  rw [hd, e, Nat.mul_assoc]
  refine ⟨Nat.add_mul_mod_self_left _ _ _, ?_⟩
  constructor
  · intro h
    rcases Nat.eq_zero_or_pos t with h0 | h0
    · subst h0
      rw [Nat.mul_zero, Nat.mul_zero] at h
      exact Or.inl h
    · exact Or.inr h0
  · rintro (h | h)
    · omega
    · have : p7 * 1 ≤ p7 * (256 ^ (i - 7) * t) := Nat.mul_le_mul_left _ (Nat.mul_pos hp h)
      omega
theorem sub_end (X V n : Nat) (hX : X < 256 ^ n) (hV : V ≤ X) : owB X V n = 0 ∧ dfB X V n = X - V := by
  have h1 : owB X V n = 0 := by unfold owB; rw [Nat.mod_eq_of_lt hX, Nat.mod_eq_of_lt (by omega), if_neg (by omega)]
  refine ⟨h1, ?_⟩
  unfold dfB
  rw [h1, Nat.mod_eq_of_lt hX, Nat.mod_eq_of_lt (by omega)]
  omega
end Go.Proofs.Ytgldblakdhalkaa
