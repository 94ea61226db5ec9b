/- A sum of what comes in pieces: the lanes and what is left behind more bytes. Conditions: as stated. -/
import Derived.Test.YtckjigbhdndgdaaXsum
namespace Go.Proofs.Ytckjigbhdndgdaa
open Go.RowKit Go.Proofs.YtckjigbhdndgdaaW.PrintWords Go.Proofs.YtckjigbhdndgdaaW.PrintLast Go.Proofs.YtckjigbhdndgdaaW.PrintMore Go.Proofs.Ytckjigbhdndgdaa.PReader Go.Proofs.Ytckjigbhdndgdaa.PBits Go.Proofs.Ytckjigbhdndgdaa.PRef
set_option linter.unusedVariables false
theorem size_app (a b : ByteArray) : (a ++ b).size = a.size + b.size := by
  rw [← lst_length, ← lst_length, ← lst_length, lst_append, List.length_append]
theorem bn_left (a b : ByteArray) (i : Nat) (h : i < a.size) : bn (a ++ b) i = bn a i := by
  unfold bn
  rw [lst_append, List.getD_eq_getElem?_getD, List.getD_eq_getElem?_getD, List.getElem?_append_left (by rw [lst_length]; exact h)]
theorem part_left (a b : ByteArray) (i j : Nat) (h : i + j ≤ a.size) : part (a ++ b) i j = part a i j := part_congr _ _ i i j (fun m hm => bn_left a b (i + m) (by omega))
theorem stepN_left (a b : ByteArray) (t : Four) (i : Nat) (h : i + 32 ≤ a.size) : stepN (a ++ b) t i = stepN a t i := by
  unfold stepN
  rw [part_left _ _ _ _ (by omega), part_left _ _ _ _ (by omega), part_left _ _ _ _ (by omega), part_left _ _ _ _ (by omega)]
theorem lanesN_left (a b : ByteArray) : ∀ (q : Nat) (t : Four) (i : Nat), i + 32 * q ≤ a.size → lanesN (a ++ b) t i q = lanesN a t i q := by
  intro q
  induction q with
  | zero => intro t i _; rw [lanesN_zero, lanesN_zero]
  | succ q ih =>
    intro t i h
    rw [lanesN_succ, lanesN_succ, stepN_left a b t i (by omega)]
    exact ih _ _ (by omega)
theorem lanesN_snoc (s : ByteArray) : ∀ (q : Nat) (t : Four) (i : Nat), lanesN s t i (q + 1) = stepN s (lanesN s t i q) (i + 32 * q) := by
  intro q
  induction q with
  | zero => intro t i; rw [lanesN_succ, lanesN_zero, lanesN_zero, Nat.mul_zero, Nat.add_zero]
  | succ q ih =>
    intro t i
    rw [lanesN_succ, ih, lanesN_succ]
    congr 1
    omega
theorem stepN_extract (s : ByteArray) (t : Four) (p : Nat) : stepN (s.extract p s.size) t 0 = stepN s t p := by
  unfold stepN
  rw [part_extract, part_extract, part_extract, part_extract, Nat.add_zero, Nat.zero_add, Nat.zero_add, Nat.zero_add]
/-- The lanes behind all full stripes of what came. -/
def lanT (seed : Nat) (s : ByteArray) : Four := lanesN s (beginN seed) 0 (s.size / 32)
/-- What is left behind them. -/
def resT (s : ByteArray) : ByteArray := s.extract (32 * (s.size / 32)) s.size
theorem resT_size (s : ByteArray) : (resT s).size = s.size % 32 := by
  unfold resT
  rw [ByteArray.size_extract]
  omega
theorem resT_small (s : ByteArray) (h : s.size < 32) : resT s = s := by
  unfold resT
  rw [Nat.div_eq_of_lt h]
  exact extract_all s
theorem lanT_small (seed : Nat) (s : ByteArray) (h : seed < 18446744073709551616) : small (lanT seed s) := by
  unfold lanT
  cases hq : s.size / 32 with
  | zero => rw [lanesN_zero]; exact small_begin seed h
  | succ q => rw [lanesN_snoc]; exact small_step _ _ _
theorem app_extract (a b : ByteArray) (i : Nat) (h : i ≤ a.size) : (a ++ b).extract i (a ++ b).size = a.extract i a.size ++ b := by
  apply lst_inj
  rw [lst_extract, lst_append, lst_append, lst_extract, size_app, List.drop_append_of_le_length (by rw [lst_length]; exact h)]
  rw [List.take_of_length_le, List.take_of_length_le]
  · rw [List.length_drop, lst_length]; exact Nat.le_refl _
  · rw [List.length_append, List.length_drop, lst_length, lst_length]; omega
/-- A piece that does not fill the stripe. -/
theorem more_few (seed : Nat) (s p : ByteArray) (h : s.size % 32 + p.size < 32) : lanT seed (s ++ p) = lanT seed s ∧ resT (s ++ p) = resT s ++ p := by
  have hd : (s ++ p).size / 32 = s.size / 32 := by rw [size_app]; omega
  unfold lanT resT
  rw [hd]
  exact ⟨lanesN_left _ _ _ _ _ (by omega), app_extract _ _ _ (by omega)⟩
/-- A piece that fills it. -/
theorem more_full (seed : Nat) (s p : ByteArray) (h : s.size % 32 + p.size = 32) : lanT seed (s ++ p) = stepN (resT s ++ p) (lanT seed s) 0 ∧ resT (s ++ p) = ByteArray.empty := by
  have hd : (s ++ p).size / 32 = s.size / 32 + 1 := by rw [size_app]; omega
  have hs : (s ++ p).size = 32 * (s.size / 32 + 1) := by rw [size_app]; omega
  constructor
  · unfold lanT
    rw [hd, lanesN_snoc, lanesN_left _ _ _ _ _ (by omega), Nat.zero_add]
    have e : resT s ++ p = (s ++ p).extract (32 * (s.size / 32)) (s ++ p).size := by
      unfold resT
      rw [app_extract _ _ _ (by omega)]
    rw [e, stepN_extract]
  · have : (resT (s ++ p)).size = 0 := by rw [resT_size, hs]; omega
    apply lst_inj
    have e : (lst (resT (s ++ p))).length = 0 := by rw [lst_length]; exact this
    rw [List.eq_nil_of_length_eq_zero e]
    rfl
theorem lanT_empty (seed : Nat) : lanT seed ByteArray.empty = beginN seed := by
  unfold lanT
  rw [show ByteArray.empty.size / 32 = 0 from rfl, lanesN_zero]
theorem split_at (s : ByteArray) (k : Nat) (h : k ≤ s.size) : s.extract 0 k ++ s.extract k s.size = s := by
  apply lst_inj
  rw [lst_append, lst_extract, lst_extract, List.drop_zero, Nat.sub_zero]
  rw [List.take_of_length_le (l := (lst s).drop k) (by rw [List.length_drop, lst_length]; exact Nat.le_refl _)]
  exact List.take_append_drop k (lst s)
theorem app_assoc (a b c : ByteArray) : a ++ b ++ c = a ++ (b ++ c) := by
  apply lst_inj
  rw [lst_append, lst_append, lst_append, lst_append, List.append_assoc]
theorem app_empty (a : ByteArray) : a ++ ByteArray.empty = a := by
  apply lst_inj
  rw [lst_append]
  exact List.append_nil _
/-- The sum behind 32 bytes or more, by the state's own text. -/
theorem state_tail (k seed : Nat) (s : ByteArray) (hb : s.size < 9223372036854775000) (h32 : 32 ≤ s.size) (hk : 50 < k) :
    ((xxh_tail.f k (addN (joinN (lanT seed s)) s.size : Int) (resT s)).bind fun t => xxh_Mix.f t) = some (sumN seed s : Int) := by
  unfold xxh_tail.f resT
  rw [tail_val s hb (s.size % 32 / 8) (32 * (s.size / 32)) (addN (joinN (lanT seed s)) s.size) (s.size % 32) k (by omega) rfl (by omega) (addN_lt _ _), Option.bind_some, mix_val _ (restN_lt _ _ _ _ (addN_lt _ _))]
  unfold sumN lanT
  rw [if_neg (by omega)]
end Go.Proofs.Ytckjigbhdndgdaa
