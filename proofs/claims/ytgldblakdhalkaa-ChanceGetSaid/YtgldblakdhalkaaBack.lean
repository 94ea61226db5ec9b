/- What was put is told: the states on the way, their bytes, and the end. No program in it. Conditions: as each lemma states. -/
import Derived.Test.YtgldblakdhalkaaGDdir
namespace Go.Proofs.Ytgldblakdhalkaa
set_option linter.unusedVariables false
open Go.RowKit Go.Proofs.YtgldblakdhalkaaW.PrintWords Go.Proofs.YtgldblakdhalkaaW.PrintLast Go.Proofs.YtgldblakdhalkaaW.PrintMore
/-! ### What was put is told -/
/-- One ask: direct bits where n is not 0. -/
structure Ask where
  p : Int
  b : Bool
  n : Nat
  v : Nat
def stepE (a : Ask) (e : Enc) : Enc := if a.n = 0 then bitE a.p a.b e else directE a.v a.n e
def runE : List Ask → Enc → Enc
  | [], e => e
  | a :: l, e => runE l (stepE a e)
theorem stepE_ok (a : Ask) {e : Enc} (h : e.ok) : (stepE a e).ok := by
  unfold stepE
  split
  · exact bitE_ok h _ _
  · exact directE_ok _ _ _ h
theorem stepE_sub (a : Ask) {e : Enc} (h : e.ok) : e.sub (stepE a e) := by
  unfold stepE
  split
  · exact bitE_sub h _ _
  · exact directE_sub _ _ _
theorem runE_ok : ∀ (l : List Ask) {e : Enc}, e.ok → (runE l e).ok
  | [], _, h => h
  | a :: l, _, h => runE_ok l (stepE_ok a h)
theorem runE_sub : ∀ (l : List Ask) {e : Enc}, e.ok → e.sub (runE l e)
  | [], e, _ => e.sub_refl
  | a :: l, _, h => Enc.sub_trans (stepE_sub a h) (runE_sub l (stepE_ok a h))
/-- The first m bytes of n. -/
theorem numB_take (s : ByteArray) (m d : Nat) : numB s m = numB s (m + d) / 256 ^ d := by
  obtain ⟨h1, h2⟩ := numB_split s m d
  have hp : 0 < 256 ^ d := Nat.pow_pos (by decide)
  have h3 : numB s (m + d) / 256 ^ d < numB s m + 1 := (Nat.div_lt_iff_lt_mul hp).2 h2
  have h4 : numB s m ≤ numB s (m + d) / 256 ^ d := (Nat.le_div_iff_mul_le hp).2 h1
  omega
/-- The string says e's end state's number: each state on the way is met. -/
structure Says (s : ByteArray) (f : Enc) : Prop where
  size : f.L + 4 ≤ s.size
  lo : f.V ≤ numB s (f.L + 4)
  hi : numB s (f.L + 4) < f.V + f.R
theorem Says.ahead {s : ByteArray} {e f : Enc} (h : Says s f) (hs : e.sub f) : Says s e := by
  obtain ⟨h1, h2, h3⟩ := hs
  have hp : 0 < 256 ^ (f.L - e.L) := Nat.pow_pos (by decide)
  have he := numB_take s (e.L + 4) (f.L - e.L)
  rw [show e.L + 4 + (f.L - e.L) = f.L + 4 by omega] at he
  refine ⟨by have := h.size; omega, ?_, ?_⟩
  · rw [he]
    exact (Nat.le_div_iff_mul_le hp).2 (Nat.le_trans h2 h.lo)
  · rw [he]
    exact (Nat.div_lt_iff_lt_mul hp).2 (Nat.lt_of_lt_of_le h.hi h3)
theorem Says.err {s : ByteArray} {e : Enc} (h : Says s e) : errE s e = 0 := by
  unfold errE
  rw [if_neg (by have := h.size; omega), if_neg (by have := h.hi; omega)]
/-- A bit is told. -/
theorem Says.bit {s : ByteArray} {e : Enc} (h : e.ok) (p : Int) (b : Bool) (hs : Says s (bitP p b e)) : decide (dE s e < shareN e.R p) = b := by
  have h1 := hs.lo
  have h2 := hs.hi
  unfold dE
  cases b
  · unfold bitP at h1 h2
    rw [if_neg Bool.false_ne_true] at h1 h2
    simp only at h1 h2
    exact decide_eq_false (by omega)
  · unfold bitP at h1 h2
    rw [if_pos rfl] at h1 h2
    simp only at h1 h2
    exact decide_eq_true (by omega)
theorem Says.half {s : ByteArray} {e : Enc} (b : Bool) (hs : Says s (halfP b e)) : decide (e.R / 2 ≤ dE s e) = b := by
  have h1 := hs.lo
  have h2 := hs.hi
  unfold dE
  cases b
  · unfold halfP at h1 h2
    rw [if_neg Bool.false_ne_true] at h1 h2
    simp only at h1 h2
    exact decide_eq_false (by omega)
  · unfold halfP at h1 h2
    rw [if_pos rfl] at h1 h2
    simp only at h1 h2
    exact decide_eq_true (by omega)
/-- Direct bits are told. -/
theorem Says.direct {s : ByteArray} (v : Nat) : ∀ (i : Nat) (e : Enc) (acc : Nat), e.ok → Says s (directE v i e) → dirS s i e acc = (acc * 2 ^ i + v % 2 ^ i, 0, directE v i e)
  | 0, e, acc, _, _ => by simp [dirS_zero, directE, Nat.mod_one]
  | i + 1, e, acc, h, hs => by
    have hb : Says s (halfE (v / 2 ^ i % 2 == 1) e) := hs.ahead (directE_sub v i _)
    have h0 : Says s e := hb.ahead (halfE_sub e _)
    have hd := Says.half (v / 2 ^ i % 2 == 1) (hb.ahead (grow_sub 4 _))
    rw [dirS_ok s i e acc h0.err _ hd, Says.direct v i _ _ (halfE_ok h _) hs]
    have e1 : v % 2 ^ (i + 1) = v % 2 ^ i + 2 ^ i * (v / 2 ^ i % 2) := by rw [Nat.pow_succ, Nat.mod_mul]
    have e2 : (v / 2 ^ i % 2 == 1).toNat = v / 2 ^ i % 2 := by
      rcases Nat.mod_two_eq_zero_or_one (v / 2 ^ i) with h | h <;> rw [h] <;> rfl
    rw [e2, e1, Nat.pow_succ]
    congr 1
    rw [Nat.add_mul, Nat.mul_assoc, Nat.mul_comm 2 (2 ^ i), Nat.mul_comm (v / 2 ^ i % 2)]
    omega
/-! ### The bytes of a state -/
theorem be_size (n V : Nat) : (strOfNums (beI n V)).size = n := by rw [strOfNums_size, beI_length]
theorem bn_be (n V j : Nat) (h : j < n) : bn (strOfNums (beI n V)) j = dg V (n - 1 - j) := by
  unfold bn
  rw [lst_nums]
  unfold nat8
  rw [List.getD_eq_getElem?_getD, List.getElem?_map, beI_get _ _ _ h]
  have := dg_lt V (n - 1 - j)
  simp only [Option.map_some, Option.getD_some, Int.toNat_natCast]
  exact Nat.mod_eq_of_lt this
theorem numB_be (n V : Nat) (hV : V < 256 ^ n) : ∀ m, m ≤ n → numB (strOfNums (beI n V)) m = V / 256 ^ (n - m)
  | 0, _ => by rw [Nat.sub_zero]; exact (Nat.div_eq_of_lt hV).symm
  | m + 1, h => by
    show numB _ m * 256 + bn _ m = _
    rw [numB_be n V hV m (by omega), bn_be n V m (by omega), show n - m = n - 1 - m + 1 by omega, show n - (m + 1) = n - 1 - m by omega, Nat.pow_succ, ← Nat.div_div_eq_div_mul]
    unfold dg
    omega
theorem ok_fits {e : Enc} (h : e.ok) : e.V < 256 ^ (e.L + 4) := by
  obtain ⟨h1, h2, h3, h4⟩ := h
  have : 256 ^ (e.L + 3) ≤ 256 ^ (e.L + 4) := Nat.pow_le_pow_right (by decide) (by omega)
  omega
/-- The bytes of a state. -/
def bytesE (e : Enc) : ByteArray := strOfNums (beI (e.L + 4) e.V)
theorem bytesE_size (e : Enc) : (bytesE e).size = e.L + 4 := be_size _ _
theorem bytesE_num {e : Enc} (h : e.ok) : numB (bytesE e) (e.L + 4) = e.V := by
  unfold bytesE
  rw [numB_be _ _ (ok_fits h) _ (Nat.le_refl _), Nat.sub_self, Nat.pow_zero, Nat.div_one]
theorem bytesE_says {e : Enc} (h : e.ok) : Says (bytesE e) e := ⟨by rw [bytesE_size]; exact Nat.le_refl _, by rw [bytesE_num h]; exact Nat.le_refl _, by rw [bytesE_num h]; have := h.2.1; omega⟩
theorem bytesE_end {e : Enc} (h : e.ok) : endE (bytesE e) e = 0 := by
  unfold endE
  rw [if_pos (bytesE_says h).err, if_pos]
  refine ⟨?_, by rw [bytesE_size]⟩
  unfold dE
  rw [bytesE_num h, Nat.sub_self]
/-- A string of that length and number is these bytes. -/
theorem numB_inj {s t : ByteArray} (n : Nat) (hs : s.size = n) (ht : t.size = n) (h : numB s n = numB t n) : s = t := by
  have hb : ∀ j, j < n → bn s j = bn t j := fun j hj => by
    have h1 := numB_take s (j + 1) (n - (j + 1))
    have h2 := numB_take t (j + 1) (n - (j + 1))
    rw [show j + 1 + (n - (j + 1)) = n by omega] at h1 h2
    have h3 := numB_take s j (n - j)
    have h4 := numB_take t j (n - j)
    rw [show j + (n - j) = n by omega] at h3 h4
    have e1 : numB s (j + 1) = numB s j * 256 + bn s j := rfl
    have e2 : numB t (j + 1) = numB t j * 256 + bn t j := rfl
    rw [h] at h1 h3
    omega
  apply lst_inj
  apply List.ext_getElem?
  intro j
  by_cases hj : j < n
  · have h1 := hb j hj
    unfold bn at h1
    rw [List.getD_eq_getElem?_getD, List.getD_eq_getElem?_getD, List.getElem?_eq_getElem (by rw [lst_length]; omega), List.getElem?_eq_getElem (by rw [lst_length]; omega)] at h1
    rw [List.getElem?_eq_getElem (by rw [lst_length]; omega), List.getElem?_eq_getElem (by rw [lst_length]; omega)]
    exact congrArg some h1
  · rw [List.getElem?_eq_none (by rw [lst_length]; omega), List.getElem?_eq_none (by rw [lst_length]; omega)]
/-- The end is told of these bytes alone. -/
theorem end_only {s : ByteArray} {e : Enc} (h : e.ok) (hlo : e.L + 4 ≤ s.size → e.V ≤ numB s (e.L + 4)) (he : endE s e = 0) : s = bytesE e := by
  unfold endE at he
  by_cases h0 : errE s e = 0
  · rw [if_pos h0] at he
    by_cases h1 : dE s e = 0 ∧ e.L + 4 = s.size
    · refine numB_inj (e.L + 4) h1.2.symm (bytesE_size e) ?_
      rw [bytesE_num h]
      have h2 := hlo (by omega)
      have h3 := h1.1
      unfold dE at h3
      omega
    · rw [if_neg h1] at he
      exact absurd he (by decide)
  · rw [if_neg h0] at he
    exact absurd he h0
/-- Direct bits that were told lead on by themselves. -/
theorem directE_mod (v w : Nat) : ∀ (i : Nat) (e : Enc), v % 2 ^ i = w % 2 ^ i → directE v i e = directE w i e
  | 0, _, _ => rfl
  | i + 1, e, h => by
    have hp : 0 < 2 ^ i := Nat.pow_pos (by decide)
    have e1 : v % 2 ^ (i + 1) = v % 2 ^ i + 2 ^ i * (v / 2 ^ i % 2) := by rw [Nat.pow_succ, Nat.mod_mul]
    have e2 : w % 2 ^ (i + 1) = w % 2 ^ i + 2 ^ i * (w / 2 ^ i % 2) := by rw [Nat.pow_succ, Nat.mod_mul]
    have h1 : v % 2 ^ i = w % 2 ^ i := by
      have a1 : v % 2 ^ (i + 1) % 2 ^ i = v % 2 ^ i := by rw [Nat.pow_succ]; exact Nat.mod_mul_right_mod _ _ _
      have a2 : w % 2 ^ (i + 1) % 2 ^ i = w % 2 ^ i := by rw [Nat.pow_succ]; exact Nat.mod_mul_right_mod _ _ _
      rw [← a1, ← a2, h]
    have h2 : v / 2 ^ i % 2 = w / 2 ^ i % 2 := by
      have h3 : 2 ^ i * (v / 2 ^ i % 2) = 2 ^ i * (w / 2 ^ i % 2) := by omega
      exact Nat.eq_of_mul_eq_mul_left hp h3
    unfold directE
    rw [h2, directE_mod v w i _ h1]
theorem dirS_told (s : ByteArray) : ∀ (i : Nat) (e : Enc) (acc r : Nat) (f : Enc), dirS s i e acc = (r, 0, f) → ∃ w, w < 2 ^ i ∧ r = acc * 2 ^ i + w ∧ f = directE w i e
  | 0, e, acc, r, f, h => by
    rw [dirS_zero] at h
    injection h with h1 h2
    injection h2 with _ h3
    exact ⟨0, by decide, by rw [Nat.pow_zero, Nat.mul_one, Nat.add_zero]; exact h1.symm, h3.symm⟩
  | i + 1, e, acc, r, f, h => by
    by_cases he : errE s e = 0
    · rw [dirS_ok s i e acc he _ rfl] at h
      obtain ⟨w, hw, hr, hf⟩ := dirS_told s i _ _ r f h
      generalize decide (e.R / 2 ≤ dE s e) = b at *
      have hp : 0 < 2 ^ i := Nat.pow_pos (by decide)
      have hbl : b.toNat < 2 := by cases b <;> decide
      have hdv : (b.toNat * 2 ^ i + w) / 2 ^ i = b.toNat := by
        rw [Nat.add_comm, Nat.add_mul_div_right _ _ hp, Nat.div_eq_of_lt hw, Nat.zero_add]
      refine ⟨b.toNat * 2 ^ i + w, ?_, ?_, ?_⟩
      · have : b.toNat * 2 ^ i ≤ 1 * 2 ^ i := Nat.mul_le_mul_right _ (by omega)
        rw [Nat.pow_succ]
        omega
      · rw [hr, Nat.add_mul, Nat.pow_succ, Nat.mul_assoc, Nat.mul_comm 2 (2 ^ i)]
        omega
      · show f = directE (b.toNat * 2 ^ i + w) i (halfE ((b.toNat * 2 ^ i + w) / 2 ^ i % 2 == 1) e)
        rw [hdv, show (b.toNat % 2 == 1) = b by cases b <;> rfl, hf]
        refine directE_mod _ _ _ _ ?_
        rw [Nat.add_comm, Nat.add_mul_mod_self_right]
    · rw [dirS_err s i e acc he] at h
      injection h with h1 h2
      injection h2 with h2 _
      exact absurd h2 he

end Go.Proofs.Ytgldblakdhalkaa
