/- What was put is told: each step's answer, and the end. No program in it. -/
import Derived.Test.YtgldblakdhalkaaGRows
import Derived.Lib.ConvBytes
namespace Go.Proofs.Ytgldblakdhalkaa
set_option linter.unusedVariables false
open Go.RowKit Go.Proofs.YtgldblakdhalkaaW.PrintWords Go.Proofs.YtgldblakdhalkaaW.PrintLast Go.Proofs.YtgldblakdhalkaaW.PrintMore
def askOf (r : Raw) : Ask := ⟨r.p, r.bit != 0, lenN r.n, r.v⟩
def clamp (r : Raw) : Raw := r.with (lenN r.n : Int)
def runR (l : List Raw) : Enc := runE (l.map askOf) Enc.new
theorem runE_snoc : ∀ (l : List Ask) (a : Ask) (e : Enc), runE (l ++ [a]) e = stepE a (runE l e)
  | [], a, e => rfl
  | b :: l, a, e => runE_snoc l a (stepE b e)
theorem runR_next (l : List Raw) (i : Nat) (r : Raw) (h : l[i]? = some r) : runR (l.take (i + 1)) = stepE (askOf r) (runR (l.take i)) := by
  unfold runR
  rw [List.take_add_one, h, List.map_append]
  exact runE_snoc _ _ _
theorem runR_ok (l : List Raw) : (runR l).ok := runE_ok _ Enc.new_ok
theorem runE_app : ∀ (l k : List Ask) (e : Enc), runE (l ++ k) e = runE k (runE l e)
  | [], k, e => rfl
  | a :: l, k, e => runE_app l k (stepE a e)
theorem runR_sub (l : List Raw) (i : Nat) : (runR (l.take i)).sub (runR l) := by
  have h : runR l = runE ((l.drop i).map askOf) (runR (l.take i)) := by
    unfold runR
    rw [← runE_app, ← List.map_append, List.take_append_drop]
  rw [h]
  exact runE_sub _ (runR_ok _)
theorem runR_L (l : List Raw) : ∀ i, i ≤ l.length → (runR (l.take i)).L ≤ 1 + 256 * i
  | 0, _ => by rw [List.take_zero]; exact Nat.le_refl _
  | i + 1, h => by
    have ih := runR_L l i (by omega)
    rw [runR_next l i l[i] (List.getElem?_eq_getElem (by omega))]
    unfold stepE
    split
    · have := bitE_L (askOf l[i]).p (askOf l[i]).b (runR (l.take i)); omega
    · have := directE_L (askOf l[i]).v (askOf l[i]).n (runR (l.take i)); have h2 : (askOf l[i]).n ≤ 64 := lenN_le _; omega
/-! ### The list, half of it clamped -/
def mid (i : Nat) (l : List Raw) : List Raw := (l.take i).map clamp ++ l.drop i
theorem mid_zero (l : List Raw) : mid 0 l = l := by simp [mid]
theorem mid_all (l : List Raw) : mid l.length l = l.map clamp := by simp [mid]
theorem mid_length (i : Nat) (l : List Raw) : (mid i l).length = l.length := by simp [mid]; omega
theorem mid_at (l : List Raw) (i : Nat) (r : Raw) (h : l[i]? = some r) : (mid i l)[i]? = some r := by
  have hi : i < l.length := (List.getElem?_eq_some_iff.1 h).1
  have hm : ((l.take i).map clamp).length = i := by simp; omega
  unfold mid
  rw [List.getElem?_append_right (by omega), hm, Nat.sub_self, List.getElem?_drop, Nat.add_zero, h]
theorem mid_set (l : List Raw) (i : Nat) (r : Raw) (h : l[i]? = some r) : (mid i l).set i (clamp r) = mid (i + 1) l := by
  have hi : i < l.length := (List.getElem?_eq_some_iff.1 h).1
  have hm : ((l.take i).map clamp).length = i := by simp; omega
  have hr : l[i] = r := (List.getElem?_eq_some_iff.1 h).2
  unfold mid
  rw [List.set_append_right (h := by omega), hm, Nat.sub_self, List.drop_eq_getElem_cons hi, List.set_cons_zero, List.take_add_one, h, List.map_append, List.append_assoc]
  rfl
/-! ### Each answer -/
theorem told_direct {t : ByteArray} {e f : Enc} {v n V er : Nat} (hd : dirS t n e 0 = (V, er, f)) (h0 : er = 0) (hV : V = v % 2 ^ n) : f = directE v n e := by
  subst h0
  obtain ⟨w, hw, hr, hf⟩ := dirS_told t n e 0 V f hd
  rw [Nat.zero_mul, Nat.zero_add] at hr
  rw [hf]
  refine directE_mod _ _ _ _ ?_
  rw [Nat.mod_eq_of_lt hw, ← hr, hV]
theorem says_direct {t : ByteArray} {e f : Enc} {v n V er : Nat} (hd : dirS t n e 0 = (V, er, f)) (hok : e.ok) (hs : Says t (directE v n e)) : er = 0 ∧ V = v % 2 ^ n := by
  rw [Says.direct v n e 0 hok hs] at hd
  injection hd with h1 h2
  injection h2 with h2 _
  rw [Nat.zero_mul, Nat.zero_add] at h1
  exact ⟨h2.symm, h1.symm⟩
theorem says_bit {t : ByteArray} {e : Enc} {p : Int} {b : Bool} (hok : e.ok) (hs : Says t (bitE p b e)) : errE t e = 0 ∧ decide (dE t e < shareN e.R p) = b :=
  ⟨(hs.ahead (bitE_sub hok p b)).err, Says.bit hok p b (hs.ahead (grow_sub 4 _))⟩
theorem LiveAt.lo {w : World} {g : Nat} {s : ByteArray} {e : Enc} (h : LiveAt w g s e) : e.L + 4 ≤ s.size → e.V ≤ numB s (e.L + 4) := by
  obtain ⟨a, v, _, hI⟩ := h
  exact fun hs => hI.open_ hs
theorem first_zero {e : Enc} (h : e.ok) : bn (bytesE e) 0 = 0 := by
  unfold bytesE
  rw [bn_be _ _ _ (by omega)]
  unfold dg
  have h2 := h.2.2.2
  have h3 := h.2.1
  rw [show e.L + 4 - 1 - 0 = e.L + 3 by omega, Nat.div_eq_of_lt (by omega)]
theorem long_ne (S : ByteArray) : S ++ (⟨#[0]⟩ : ByteArray) ≠ S := fun h => by
  have := congrArg ByteArray.size h
  rw [ByteArray.size_append] at this
  have h1 : (⟨#[0]⟩ : ByteArray).size = 1 := rfl
  omega
theorem short_ne (S : ByteArray) (h : 0 < S.size) : S.extract 0 (S.size - 1) ≠ S := fun he => by
  have := congrArg ByteArray.size he
  rw [ByteArray.size_extract] at this
  omega
theorem ofInt_u8 (a : Nat) (h : a < 256) : (BitVec.ofInt 8 (a : Int)).toNat = a := by
  rw [BitVec.toNat_ofInt]
  omega
theorem u8_xor_nat (a b : Nat) (ha : a < 256) (hb : b < 256) : Go.bits .xor .u8 (a : Int) (b : Int) = ((a ^^^ b : Nat) : Int) := by
  have hx : a ^^^ b < 2 ^ 8 := Nat.xor_lt_two_pow (by omega) (by omega)
  show IntKind.u8.wrap ((BitVec.ofInt 8 (a : Int) ^^^ BitVec.ofInt 8 (b : Int)).toNat : Int) = _
  rw [BitVec.toNat_xor, ofInt_u8 a ha, ofInt_u8 b hb, IntKind.wrap_u8]
  omega
theorem xor_same (a b : Nat) : a ^^^ b = a ↔ b = 0 := by
  constructor
  · intro h
    have h2 : a ^^^ (a ^^^ b) = a ^^^ a := by rw [h]
    rw [← Nat.xor_assoc, Nat.xor_self, Nat.zero_xor] at h2
    exact h2
  · intro h
    rw [h, Nat.xor_zero]
/-- A world with a string's bytes in a new row. -/
theorem bytes_below (w : World) (e : TypeId) (s : ByteArray) : Below w.heap.size w (Lib.bytesWorld w e s) :=
  ⟨rfl, rfl, rfl, by rw [Lib.bytesWorld_size]; omega, fun k hk => Lib.bytesWorld_at_old w e s k hk⟩
theorem strNums (s : ByteArray) : strOfNums (strInts s) = s := strOfNums_ints s
theorem strInts_get (s : ByteArray) (j : Nat) (h : j < s.size) : (strInts s).getD j 0 = (bn s j : Int) := by
  unfold strInts bn lst
  rw [List.getD_eq_getElem?_getD, List.getElem?_map, List.getD_eq_getElem?_getD, List.getElem?_map, List.getElem?_eq_getElem (by rw [Array.length_toList]; exact h)]
  rfl
/-- One byte turned: the same bytes if it is the same one. -/
theorem turn_same (s : ByteArray) (j x : Nat) (h : j < s.size) (hx : x < 256) : strOfNums ((strInts s).set j (x : Int)) = s ↔ x = bn s j := by
  constructor
  · intro he
    have h2 : bn (strOfNums ((strInts s).set j (x : Int))) j = bn s j := by rw [he]
    rw [← h2]
    unfold bn
    rw [lst_nums]
    unfold nat8
    rw [List.getD_eq_getElem?_getD, List.getElem?_map, List.getElem?_set_self (by rw [strInts_length]; exact h)]
    show x = ((x : Int)).toNat % 256
    omega
  · intro he
    have h3 : (strInts s).set j (x : Int) = strInts s := by
      apply List.ext_getElem?
      intro k
      by_cases hk : k = j
      · subst hk
        rw [List.getElem?_set_self (by rw [strInts_length]; exact h)]
        have h4 := strInts_get s k h
        rw [List.getD_eq_getElem?_getD, List.getElem?_eq_getElem (by rw [strInts_length]; exact h), ← he] at h4
        rw [List.getElem?_eq_getElem (by rw [strInts_length]; exact h)]
        exact congrArg some h4.symm
      · rw [List.getElem?_set_ne (by omega)]
    rw [h3, strOfNums_ints]
theorem bytes_free (w : World) (e : TypeId) (s : ByteArray) (j : Nat) (hj : j < s.size) : (Lib.bytesWorld w e s).frozen? ⟨w.heap.size, j, none⟩ = false := by
  have h := Lib.bytesWorld_at_new w e s
  have h2 : s.size ≤ (Lib.bytesCells w e s).size := by
    unfold Lib.bytesCells
    rw [Array.size_append, Array.size_map]
    exact Nat.le_add_right _ _
  unfold World.frozen?
  simp [h]
  omega
theorem bytes_cell (w : World) (e : TypeId) (s : ByteArray) (j : Nat) (hj : j < s.size) : (Lib.bytesWorld w e s).cell? ⟨w.heap.size, j, none⟩ = some (.int .u8 (bn s j : Int)) := by
  rw [Lib.bytesWorld_cell w e s j hj, ← strInts_get s j hj]
  unfold strInts
  rw [List.getD_eq_getElem?_getD, List.getD_eq_getElem?_getD, List.getElem?_map, List.getElem?_eq_getElem (by rw [Array.length_toList]; exact hj)]
  rfl
theorem dirS_small (s : ByteArray) : ∀ (i : Nat) (e : Enc) (v V er : Nat) (f : Enc), dirS s i e v = (V, er, f) → er = 0 ∨ er = 2 ∨ er = 3
  | 0, e, v, V, er, f, h => by
    rw [dirS_zero] at h
    injection h with _ h
    injection h with h _
    exact Or.inl h.symm
  | i + 1, e, v, V, er, f, h => by
    by_cases he : errE s e = 0
    · rw [dirS_ok s i e v he _ rfl] at h
      exact dirS_small s i _ _ V er f h
    · rw [dirS_err s i e v he] at h
      injection h with _ h
      injection h with h _
      rw [← h]
      exact errE_small s e
theorem mask_any (V K : Nat) (hV : V < 18446744073709551616) (hK : K ≤ 63) : Go.bits .and .u64 (V : Int) (IntKind.u64.wrap (IntKind.u64.wrap (2 ^ K) - 1)) = ((V % 2 ^ K : Nat) : Int) := by
  have hp : 2 ^ K ≤ 2 ^ 63 := Nat.pow_le_pow_right (by decide) hK
  have hp0 : 0 < 2 ^ K := Nat.pow_pos (by decide)
  have e0 : (2 : Int) ^ K = ((2 ^ K : Nat) : Int) := by norm_cast
  have e : IntKind.u64.wrap (IntKind.u64.wrap (2 ^ K) - 1) = ((2 ^ K - 1 : Nat) : Int) := by
    rw [e0]
    generalize 2 ^ K = p at *
    rw [IntKind.wrap_u64, IntKind.wrap_u64]
    omega
  rw [e, u64_and_nat _ _ hV (by omega), Nat.and_two_pow_sub_one_eq_mod]
end Go.Proofs.Ytgldblakdhalkaa
