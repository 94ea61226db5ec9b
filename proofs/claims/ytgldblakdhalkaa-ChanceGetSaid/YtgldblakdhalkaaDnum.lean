/- What a decoder knows: the number of the bytes that were taken, less low. Conditions: as stated. -/
import Derived.Test.YtgldblakdhalkaaBytes
import Derived.Test.YtgldblakdhalkaaCmod
namespace Go.Proofs.Ytgldblakdhalkaa
set_option linter.unusedVariables false
open Go.RowKit Go.Proofs.YtgldblakdhalkaaW.PrintWords Go.Proofs.YtgldblakdhalkaaW.PrintLast Go.Proofs.YtgldblakdhalkaaW.PrintMore
/-- The number of the first n bytes, the highest first. -/
def numB (s : ByteArray) : Nat → Nat
  | 0 => 0
  | n + 1 => numB s n * 256 + bn s n
/-- What keeps bits from being told: 2, 3, or nothing. -/
def errE (s : ByteArray) (e : Enc) : Nat := if s.size < e.L + 4 then 2 else if e.V + e.R ≤ numB s (e.L + 4) then 3 else 0
/-- The number that stands. -/
def dE (s : ByteArray) (e : Enc) : Nat := numB s (e.L + 4) - e.V
structure DecIn (s : ByteArray) (e : Enc) (a v : Nat) : Prop where
  need : a ≤ e.L + 4
  has : a ≤ s.size
  near : e.L + 4 ≤ a + 5
  dvd : e.V / 256 ^ (e.L + 4 - a) * 256 ^ (e.L + 4 - a) = e.V
  num : numB s a = v + e.V / 256 ^ (e.L + 4 - a)
  lt : v * 256 ^ (e.L + 4 - a) ≤ e.R
theorem DecIn.start (s : ByteArray) : DecIn s Enc.new 0 0 := ⟨by decide, Nat.zero_le _, by decide, by decide, by rfl, by decide⟩
theorem numB_lt (s : ByteArray) : ∀ n, numB s n < 256 ^ n
  | 0 => by show 0 < 1; decide
  | n + 1 => by
    have := numB_lt s n
    have := bn_lt s n
    unfold numB
    rw [Nat.pow_succ]
    omega
/-- The bytes between two places. -/
theorem numB_split (s : ByteArray) (a : Nat) : ∀ d, numB s a * 256 ^ d ≤ numB s (a + d) ∧ numB s (a + d) < (numB s a + 1) * 256 ^ d
  | 0 => by simp
  | d + 1 => by
    obtain ⟨h1, h2⟩ := numB_split s a d
    have hb := bn_lt s (a + d)
    have e : numB s (a + (d + 1)) = numB s (a + d) * 256 + bn s (a + d) := rfl
    rw [e, Nat.pow_succ, ← Nat.mul_assoc, ← Nat.mul_assoc]
    omega
/-- With one byte more the range is passed by one. -/
theorem DecIn.up {s : ByteArray} {e : Enc} {a v : Nat} (h : DecIn s e a v) (hn : e.L + 4 ≤ a + 4) : DecIn s e.up a v := by
  have e1 : e.up.L + 4 - a = (e.L + 4 - a) + 1 := by have := h.need; unfold Enc.up; simp only; omega
  have hp : 0 < 256 ^ (e.L + 4 - a) := Nat.pow_pos (by decide)
  have e2 : e.up.V / 256 ^ (e.L + 4 - a + 1) = e.V / 256 ^ (e.L + 4 - a) := by
    unfold Enc.up
    simp only
    rw [Nat.pow_succ, Nat.mul_div_mul_right _ _ (by decide)]
  refine ⟨by have := h.need; unfold Enc.up; simp only; omega, h.has, by unfold Enc.up; simp only; omega, ?_, ?_, ?_⟩
  · rw [e1, e2, Nat.pow_succ, ← Nat.mul_assoc, h.dvd]
    rfl
  · rw [e1, e2]
    exact h.num
  · rw [e1, Nat.pow_succ, ← Nat.mul_assoc]
    have := h.lt
    unfold Enc.up
    simp only
    omega
theorem DecIn.grow {s : ByteArray} {a v : Nat} : ∀ (k : Nat) (e : Enc), DecIn s e a v → e.L + k ≤ a → DecIn s (growE k e) a v
  | 0, e, h, _ => h
  | k + 1, e, h, hk => by
    unfold growE
    by_cases c : e.R < 16777216
    · rw [if_pos c]
      exact DecIn.grow k e.up (h.up (by omega)) (by unfold Enc.up; simp only; omega)
    · rw [if_neg c]
      exact h
/-- What stands behind the gate. -/
theorem DecIn.open_ {s : ByteArray} {e : Enc} {a v : Nat} (h : DecIn s e a v) (hs : e.L + 4 ≤ s.size) : e.V ≤ numB s (e.L + 4) := by
  obtain ⟨h1, _⟩ := numB_split s a (e.L + 4 - a)
  rw [show a + (e.L + 4 - a) = e.L + 4 by have := h.need; omega, h.num, Nat.add_mul, h.dvd] at h1
  omega
/-- All is read. -/
theorem DecIn.all {s : ByteArray} {e : Enc} {d : Nat} (hs : e.L + 4 ≤ s.size) (hn : numB s (e.L + 4) = d + e.V) (hd : d ≤ e.R) : DecIn s e (e.L + 4) d := by
  refine ⟨Nat.le_refl _, hs, by omega, ?_, ?_, ?_⟩
  · rw [Nat.sub_self, Nat.pow_zero]; omega
  · rw [Nat.sub_self, Nat.pow_zero, Nat.div_one]; exact hn
  · rw [Nat.sub_self, Nat.pow_zero]; omega
end Go.Proofs.Ytgldblakdhalkaa
