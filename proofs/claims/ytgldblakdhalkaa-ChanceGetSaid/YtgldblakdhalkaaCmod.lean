/- The coder's steps as numbers: what has come of low (V), of how many bytes (L), and the range (R). Conditions: as stated. -/
import Derived.Test.YtgldblakdhalkaaCnum
namespace Go.Proofs.Ytgldblakdhalkaa
set_option linter.unusedVariables false
structure Enc where
  V : Nat
  L : Nat
  R : Nat
/-- What holds between two steps. -/
def Enc.ok (e : Enc) : Prop := 1 ≤ e.L ∧ 16777216 ≤ e.R ∧ e.R < 4294967296 ∧ e.V + e.R ≤ 256 ^ (e.L + 3)
/-- What holds ahead of growing. -/
def Enc.pre (e : Enc) : Prop := 1 ≤ e.L ∧ 1 ≤ e.R ∧ e.R < 4294967296 ∧ e.V + e.R ≤ 256 ^ (e.L + 3)
def Enc.new : Enc := ⟨0, 1, 4294967295⟩
def Enc.up (e : Enc) : Enc := ⟨e.V * 256, e.L + 1, e.R * 256⟩
def growE : Nat → Enc → Enc
  | 0, e => e
  | k + 1, e => if e.R < 16777216 then growE k e.up else e
def cutN (p : Int) : Nat := (if p < 1 then 1 else if 4095 < p then 4095 else p).toNat
def shareN (R : Nat) (p : Int) : Nat := R / 4096 * cutN p
def bitP (p : Int) (b : Bool) (e : Enc) : Enc := if b then ⟨e.V, e.L, shareN e.R p⟩ else ⟨e.V + shareN e.R p, e.L, e.R - shareN e.R p⟩
def halfP (b : Bool) (e : Enc) : Enc := if b then ⟨e.V + e.R / 2, e.L, e.R / 2⟩ else ⟨e.V, e.L, e.R / 2⟩
def bitE (p : Int) (b : Bool) (e : Enc) : Enc := growE 4 (bitP p b e)
def halfE (b : Bool) (e : Enc) : Enc := growE 4 (halfP b e)
/-- i bits of v, from the highest on. -/
def directE (v : Nat) : Nat → Enc → Enc
  | 0, e => e
  | i + 1, e => directE v i (halfE (v / 2 ^ i % 2 == 1) e)
theorem Enc.new_ok : Enc.new.ok := ⟨by decide, by decide, by decide, by decide⟩
theorem Enc.ok.pre {e : Enc} (h : e.ok) : e.pre := ⟨h.1, by have := h.2.1; omega, h.2.2.1, h.2.2.2⟩
theorem up_pre {e : Enc} (h : e.pre) (hR : e.R < 16777216) : e.up.pre := by
  obtain ⟨h1, h2, h3, h4⟩ := h
  refine ⟨by unfold Enc.up; simp, by unfold Enc.up; simp; omega, by unfold Enc.up; simp; omega, ?_⟩
  unfold Enc.up
  simp only
  rw [show e.L + 1 + 3 = (e.L + 3) + 1 by omega, Nat.pow_succ]
  omega
theorem grow_ok : ∀ (k : Nat) (e : Enc), e.pre → 16777216 ≤ e.R * 256 ^ k → (growE k e).ok
  | 0, e, h, hk => ⟨h.1, by rw [Nat.pow_zero, Nat.mul_one] at hk; exact hk, h.2.2.1, h.2.2.2⟩
  | k + 1, e, h, hk => by
    unfold growE
    by_cases c : e.R < 16777216
    · rw [if_pos c]
      refine grow_ok k e.up (up_pre h c) ?_
      have : e.up.R * 256 ^ k = e.R * 256 ^ (k + 1) := by unfold Enc.up; simp only; rw [Nat.pow_succ, Nat.mul_assoc, Nat.mul_comm 256]
      rw [this]
      exact hk
    · rw [if_neg c]
      exact ⟨h.1, by omega, h.2.2.1, h.2.2.2⟩
theorem grow4_ok {e : Enc} (h : e.pre) : (growE 4 e).ok := grow_ok 4 e h (by have := h.2.1; rw [show (256 : Nat) ^ 4 = 4294967296 from by decide]; omega)
theorem cutN_range (p : Int) : 1 ≤ cutN p ∧ cutN p ≤ 4095 := by
  unfold cutN
  split
  · decide
  · split
    · decide
    · omega
theorem shareN_range (R : Nat) (p : Int) (h : 4096 ≤ R) : 1 ≤ shareN R p ∧ shareN R p < R := by
  have hc := cutN_range p
  unfold shareN
  have h1 : 1 ≤ R / 4096 := by omega
  have h2 : R / 4096 * 4096 ≤ R := Nat.div_mul_le_self _ _
  have h3 : R / 4096 * cutN p ≤ R / 4096 * 4095 := Nat.mul_le_mul_left _ hc.2
  have h4 : R / 4096 * 1 ≤ R / 4096 * cutN p := Nat.mul_le_mul_left _ hc.1
  omega
theorem bitP_pre {e : Enc} (h : e.ok) (p : Int) (b : Bool) : (bitP p b e).pre := by
  obtain ⟨h1, h2, h3, h4⟩ := h
  have hs := shareN_range e.R p (by omega)
  unfold bitP
  cases b
  · exact ⟨h1, by simp; omega, by simp; omega, by simp; omega⟩
  · exact ⟨h1, by simp; omega, by simp; omega, by simp; omega⟩
theorem halfP_pre {e : Enc} (h : e.ok) (b : Bool) : (halfP b e).pre := by
  obtain ⟨h1, h2, h3, h4⟩ := h
  unfold halfP
  cases b
  · exact ⟨h1, by simp; omega, by simp; omega, by simp; omega⟩
  · exact ⟨h1, by simp; omega, by simp; omega, by simp; omega⟩
theorem bitE_ok {e : Enc} (h : e.ok) (p : Int) (b : Bool) : (bitE p b e).ok := grow4_ok (bitP_pre h p b)
theorem halfE_ok {e : Enc} (h : e.ok) (b : Bool) : (halfE b e).ok := grow4_ok (halfP_pre h b)
theorem directE_ok (v : Nat) : ∀ (i : Nat) (e : Enc), e.ok → (directE v i e).ok
  | 0, _, h => h
  | i + 1, e, h => directE_ok v i _ (halfE_ok h _)
/-! ### A state lies within the one ahead of it -/
def Enc.sub (e f : Enc) : Prop := e.L ≤ f.L ∧ e.V * 256 ^ (f.L - e.L) ≤ f.V ∧ f.V + f.R ≤ (e.V + e.R) * 256 ^ (f.L - e.L)
theorem Enc.sub_refl (e : Enc) : e.sub e := ⟨Nat.le_refl _, by simp, by simp⟩
theorem Enc.sub_trans {e f g : Enc} (h : e.sub f) (k : f.sub g) : e.sub g := by
  obtain ⟨h1, h2, h3⟩ := h
  obtain ⟨k1, k2, k3⟩ := k
  have ep : 256 ^ (g.L - e.L) = 256 ^ (f.L - e.L) * 256 ^ (g.L - f.L) := by rw [← Nat.pow_add]; congr 1; omega
  refine ⟨by omega, ?_, ?_⟩
  · rw [ep, ← Nat.mul_assoc]
    exact Nat.le_trans (Nat.mul_le_mul_right _ h2) k2
  · rw [ep, ← Nat.mul_assoc]
    exact Nat.le_trans k3 (Nat.mul_le_mul_right _ h3)
theorem up_sub (e : Enc) : e.sub e.up := by
  refine ⟨by unfold Enc.up; simp, ?_, ?_⟩
  · unfold Enc.up; simp
  · unfold Enc.up; simp; omega
theorem grow_sub : ∀ (k : Nat) (e : Enc), e.sub (growE k e)
  | 0, e => e.sub_refl
  | k + 1, e => by
    unfold growE
    by_cases c : e.R < 16777216
    · rw [if_pos c]; exact Enc.sub_trans (up_sub e) (grow_sub k _)
    · rw [if_neg c]; exact e.sub_refl
theorem bitP_sub {e : Enc} (h : e.ok) (p : Int) (b : Bool) : e.sub (bitP p b e) := by
  obtain ⟨h1, h2, h3, h4⟩ := h
  have hs := shareN_range e.R p (by omega)
  unfold bitP
  cases b
  · exact ⟨by simp, by simp, by simp; omega⟩
  · exact ⟨by simp, by simp, by simp; omega⟩
theorem halfP_sub (e : Enc) (b : Bool) : e.sub (halfP b e) := by
  unfold halfP
  cases b
  · exact ⟨by simp, by simp, by simp; omega⟩
  · exact ⟨by simp, by simp, by simp; omega⟩
theorem bitE_sub {e : Enc} (h : e.ok) (p : Int) (b : Bool) : e.sub (bitE p b e) := Enc.sub_trans (bitP_sub h p b) (grow_sub 4 _)
theorem halfE_sub (e : Enc) (b : Bool) : e.sub (halfE b e) := Enc.sub_trans (halfP_sub e b) (grow_sub 4 _)
theorem directE_sub (v : Nat) : ∀ (i : Nat) (e : Enc), e.sub (directE v i e)
  | 0, e => e.sub_refl
  | i + 1, e => Enc.sub_trans (halfE_sub e _) (directE_sub v i _)
end Go.Proofs.Ytgldblakdhalkaa
