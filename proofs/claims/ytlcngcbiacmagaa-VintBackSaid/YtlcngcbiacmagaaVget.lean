/- What vint.Get and the reference's GetVint come to: the first byte below 128 within ten ends a number, which must be as Put writes it. -/
import Derived.Test.YtlcngcbiacmagaaVnum
namespace Go.Proofs.Ytlcngcbiacmagaa
open Go.RowKit Go.Proofs.YtlcngcbiacmagaaW.PrintWords Go.Proofs.YtlcngcbiacmagaaW.PrintLast Go.Proofs.YtlcngcbiacmagaaW.PrintMore Go.Proofs.Ytlcngcbiacmagaa.PReader Go.Proofs.Ytlcngcbiacmagaa.PBase
set_option linter.unusedVariables false
/-- The number that stands at the front of bytes, its size, an error; from byte i on, d more of them at most. -/
def getV (l : List Nat) : Nat → Nat → Nat × Nat × Nat
  | _, 0 => (0, 0, 3)
  | i, d + 1 => if l.length ≤ i then (0, 0, 2) else
      if l.getD i 0 < 128 then (if (i = 0 ∨ l.getD i 0 ≠ 0) ∧ (i < 9 ∨ l.getD i 0 ≤ 1) then (val (l.take (i + 1)), i + 1, 0) else (0, 0, 3)) else getV l (i + 1) d
def toInts (t : Nat × Nat × Nat) : Int × Int × Int := ((t.1 : Int), (t.2.1 : Int), (t.2.2 : Int))
theorem len8_small : ∀ v : Fin 128, Lib.bitLen v.val ≤ 7 ∧ (1 < Lib.bitLen v.val ↔ 2 ≤ v.val) := by decide +kernel
theorem take_val (l : List Nat) (i : Nat) (h : i < l.length) : val (l.take (i + 1)) = val (l.take i) + (l.getD i 0 % 128) * 2 ^ (7 * i) := by
  rw [List.take_succ_eq_append_getElem h, val_snoc, List.length_take, Nat.min_eq_left (by omega), List.getD_eq_getElem?_getD, List.getElem?_eq_getElem h]
  have e : (128 : Nat) ^ i = 2 ^ (7 * i) := by rw [show (128 : Nat) = 2 ^ 7 from rfl, ← Nat.pow_mul]
  rw [e]
  rfl
theorem take_val_lt (l : List Nat) (i : Nat) (h : i ≤ l.length) : val (l.take i) < 2 ^ (7 * i) := by
  have h1 := val_lt (l.take i)
  rw [List.length_take, Nat.min_eq_left h] at h1
  rwa [show (128 : Nat) = 2 ^ 7 from rfl, ← Nat.pow_mul] at h1
theorem byte_lt (s : ByteArray) (i : Nat) : (lst s).getD i 0 < 256 := bn_lt s i
theorem shift_bound (c i : Nat) (hc : c < 128) (hi : i < 9 ∨ (i = 9 ∧ c ≤ 1)) : c * 2 ^ (7 * i) < 18446744073709551616 := by
  rcases hi with h | ⟨rfl, h⟩
  · have h1 : (2 : Nat) ^ (7 * i) ≤ 2 ^ 56 := Nat.pow_le_pow_right (by omega) (by omega)
    have h2 : c * 2 ^ (7 * i) ≤ 127 * 2 ^ (7 * i) := Nat.mul_le_mul_right _ (by omega)
    omega
  · have h2 : c * 2 ^ 63 ≤ 1 * 2 ^ 63 := Nat.mul_le_mul_right _ h
    exact Nat.lt_of_le_of_lt h2 (by omega)
theorem or_step (s : ByteArray) (i : Nat) (h : i < s.size) (hi : i < 9 ∨ (i = 9 ∧ (lst s).getD i 0 % 128 ≤ 1)) :
    Go.bits .or .u64 (val ((lst s).take i) : Int) (shl .u64 (IntKind.u64.wrap (Go.bits .and .u8 (bt s (i : Int)) 127)) ((7 * i : Nat) : Int)) = (val ((lst s).take (i + 1)) : Int) := by
  have hl : i < (lst s).length := by rw [lst_length]; exact h
  have hbe : (lst s).getD i 0 = bn s i := rfl
  rw [bt_bn, and127 _ (bn_lt s i), take_val _ i hl, hbe]
  rw [hbe] at hi
  have h1 := take_val_lt (lst s) i (by omega)
  have h2 := shift_bound (bn s i % 128) i (Nat.mod_lt _ (by omega)) hi
  have h3 : 7 * i < 64 := by omega
  generalize val ((lst s).take i) = a at *
  generalize bn s i % 128 = c at *
  generalize 7 * i = m at *
  exact or_shl a c m h1 h3 h2
theorem wrap64m (m : Nat) (h : m ≤ 64) : wrap64 (64 - (m : Int)) = 64 - (m : Int) := by
  have : ∀ y : Int, -1000 ≤ y → y ≤ 1000 → wrap64 y = y := fun y h1 h2 => by unfold wrap64; omega
  refine this _ ?_ ?_ <;> omega
theorem wrap7 (i : Nat) (h : i ≤ 9) : wrap64 (7 * (i : Int)) = ((7 * i : Nat) : Int) := by
  have : ∀ y : Int, -1000 ≤ y → y ≤ 1000 → wrap64 y = y := fun y h1 h2 => by unfold wrap64; omega
  rw [this _ (by omega) (by omega)]
  omega
theorem read_loop (s : ByteArray) : ∀ (d i k : Nat), i + d = min s.size 10 → d < k →
    vint_reader_vint.l0 k (val ((lst s).take i) : Int) ((min s.size 10 : Nat) : Int) (i : Int) s = some (toInts (getV (lst s) i (10 - i))) := by
  intro d
  induction d with
  | zero =>
    intro i k hi hk
    obtain ⟨k, rfl⟩ : ∃ m, k = m + 1 := ⟨k - 1, by omega⟩
    simp only [vint_reader_vint.l0]
    rw [if_neg (by omega)]
    by_cases h10 : 10 ≤ s.size
    · rw [if_pos (by omega)]
      obtain rfl : i = 10 := by omega
      rfl
    · rw [if_neg (by omega)]
      obtain ⟨e, he⟩ : ∃ e, 10 - i = e + 1 := ⟨10 - i - 1, by omega⟩
      rw [he]
      simp only [getV]
      rw [if_pos (by rw [lst_length]; omega)]
      rfl
  | succ d ih =>
    intro i k hi hk
    obtain ⟨k, rfl⟩ : ∃ m, k = m + 1 := ⟨k - 1, by omega⟩
    have hsz : i < s.size := by omega
    have hi9 : i ≤ 9 := by omega
    have go := ih (i + 1) k (by omega) (by omega)
    have c1 : (i : Int) < ((min s.size 10 : Nat) : Int) := by omega
    have c2 : (0 : Int) ≤ (i : Int) := by omega
    have c3 : (i : Int) < (s.size : Int) := by omega
    have c4 : (0 : Int) ≤ ((7 * i : Nat) : Int) := by omega
    clear ih hi hk
    have hb := bn_lt s i
    have hbe : bn s i = (lst s).getD i 0 := rfl
    obtain ⟨e, he⟩ : ∃ e, 10 - i = e + 1 := ⟨10 - i - 1, by omega⟩
    have he2 : 10 - (i + 1) = e := by omega
    rw [he2] at go
    rw [he]
    simp only [getV]
    rw [if_neg (by rw [lst_length]; omega)]
    have e7 := wrap7 i hi9
    have e64 := wrap64m (7 * i) (by omega)
    have hlen := len8_small ⟨bn s i % 128, Nat.mod_lt _ (by omega)⟩
    simp only at hlen
    have hL : bits_Len8.f (Go.bits .and .u8 (bt s (i : Int)) 127) = some ((Lib.bitLen (bn s i % 128) : Nat) : Int) := by
      rw [bt_bn, and127 _ hb]
      unfold bits_Len8.f
      rw [if_pos (by omega), Int.toNat_natCast]
    simp only [vint_reader_vint.l0]
    rw [if_pos c1, if_pos c2, if_pos c3, hL]
    clear c1 c2
    rw [Option.bind_some]
    rw [e7, e64]
    by_cases hbig : i = 9 ∧ 2 ≤ bn s i % 128
    · obtain ⟨rfl, h2⟩ := hbig
      have := hlen.2.2 h2
      rw [if_pos (by omega)]
      by_cases hc : (lst s).getD 9 0 < 128
      · rw [if_pos hc, if_neg (by omega)]
        rfl
      · rw [if_neg hc]
        obtain rfl : e = 0 := by omega
        rfl
    · have hle : ¬ ((Lib.bitLen (bn s i % 128) : Nat) : Int) > 64 - ((7 * i : Nat) : Int) := by
        by_cases h9 : i = 9
        · subst h9
          have : ¬ 1 < Lib.bitLen (bn s 9 % 128) := fun h => hbig ⟨rfl, hlen.2.1 h⟩
          omega
        · have := hlen.1
          omega
      have hor := or_step s i hsz (by omega)
      rw [if_neg hle, if_pos c4, hor, wrap_i i (by omega)]
      clear hle hL hlen hor e7 e64
      by_cases hc : (lst s).getD i 0 < 128
      · rw [if_pos hc, if_neg (by rw [bt_bn]; omega)]
        by_cases h0 : (lst s).getD i 0 = 0
        · rw [if_pos (by rw [bt_bn]; omega)]
          by_cases hi0 : 0 < i
          · rw [if_pos (by omega), if_neg (by omega)]
            rfl
          · rw [if_neg (by omega), if_pos (by omega)]
            rfl
        · rw [if_neg (by rw [bt_bn]; omega), if_pos (by omega)]
          rfl
      · rw [if_neg hc, if_pos (by rw [bt_bn]; omega)]
        exact go
theorem reader_val (s : ByteArray) (k : Nat) (hk : 10 < k) : vint_reader_vint.f k s = some (toInts (getV (lst s) 0 10)) := by
  unfold vint_reader_vint.f
  have e : mn (s.size : Int) 10 = ((min s.size 10 : Nat) : Int) := by
    unfold mn
    split <;> omega
  rw [e]
  exact read_loop s (min s.size 10) 0 k (by omega) (by omega)
/-- What Get answers at a place within. -/
def getAns (at_ : Nat) (t : Nat × Nat × Nat) : Int × Int × Int := if t.2.2 = 0 then ((t.1 : Int), ((at_ + t.2.1 : Nat) : Int), 0) else (0, 0, (t.2.2 : Int))
theorem getV_size (l : List Nat) : ∀ d i, (getV l i d).2.1 ≤ i + d := by
  intro d
  induction d with
  | zero => intro i; simp [getV]
  | succ d ih =>
    intro i
    simp only [getV]
    split
    · simp
    · split
      · split
        · simp
        · simp
      · have := ih (i + 1)
        omega
theorem get_val (s : ByteArray) (i k : Nat) (h : i ≤ s.size) (hk : 10 < k) (hb : s.size < 9223372036854775000) : vint_Get.f k s (i : Int) = some (getAns i (getV ((lst s).drop i) 0 10)) := by
  unfold vint_Get.f
  rw [if_neg (by omega), if_neg (by omega), Int.toNat_natCast, reader_val _ k hk]
  have e : lst (s.extract i s.size) = (lst s).drop i := by
    rw [lst_extract]
    exact List.take_of_length_le (by rw [List.length_drop, lst_length]; omega)
  rw [e]
  have hs := getV_size ((lst s).drop i) 10 0
  generalize getV ((lst s).drop i) 0 10 = t at *
  obtain ⟨n, z, e⟩ := t
  simp only [Option.bind_some, vint_read.ans, toInts, getAns]
  by_cases h0 : e = 0
  · subst h0
    simp only [Int.natCast_zero, if_true]
    simp only at hs
    have : wrap64 ((i : Int) + (z : Int)) = ((i + z : Nat) : Int) := by unfold wrap64; omega
    rw [this]
  · rw [if_neg (by omega), if_neg h0]
theorem get_out (s : ByteArray) (a : Int) (k : Nat) (h : a < 0 ∨ (s.size : Int) < a) : vint_Get.f k s a = some (0, 0, 1) := by
  unfold vint_Get.f
  by_cases h0 : a < 0
  · rw [if_pos h0]
  · rw [if_neg h0, if_pos (by omega)]
/-- What Put has written, whatever stands behind it, says its number. -/
theorem put_shape10 (n : Nat) (hn : n < 18446744073709551616) : ∀ i, i < (putL 10 n).length → (i + 1 < (putL 10 n).length → 128 ≤ (putL 10 n).getD i 0) ∧ (i + 1 = (putL 10 n).length → (putL 10 n).getD i 0 < 128 ∧ (0 < i → 0 < (putL 10 n).getD i 0)) := put_shape 9 n (by omega)
theorem getV_put_from (n : Nat) (hn : n < 18446744073709551616) (r : List Nat) : ∀ (d i : Nat), i + d = 10 → i < (putL 10 n).length → getV (putL 10 n ++ r) i d = (n, (putL 10 n).length, 0) := by
  have hsh := put_shape10 n hn
  have hlen := put_len 10 n
  have hv := val_put 10 n (by omega)
  have hlt := put_lt 10 n
  intro d
  induction d with
  | zero => intro i hi hl; omega
  | succ d ih =>
    intro i hi hl
    obtain ⟨h1, h2⟩ := hsh i hl
    have eg : (putL 10 n ++ r).getD i 0 = (putL 10 n).getD i 0 := by
      rw [List.getD_eq_getElem?_getD, List.getElem?_append_left hl, ← List.getD_eq_getElem?_getD]
    simp only [getV]
    rw [if_neg (by rw [List.length_append]; omega), eg]
    by_cases hend : i + 1 = (putL 10 n).length
    · obtain ⟨h3, h4⟩ := h2 hend
      have e9 : i < 9 ∨ (putL 10 n).getD i 0 ≤ 1 := by
        by_cases h9 : i < 9
        · exact Or.inl h9
        · refine Or.inr ?_
          obtain rfl : i = 9 := by omega
          have ht := take_val (putL 10 n) 9 hl
          rw [List.take_of_length_le (by omega), hv] at ht
          have hc : (putL 10 n).getD 9 0 % 128 = (putL 10 n).getD 9 0 := by omega
          rw [hc] at ht
          have : (putL 10 n).getD 9 0 * 2 ^ 63 ≤ n := by omega
          omega
      rw [if_pos h3, if_pos ⟨by omega, e9⟩]
      have et : (putL 10 n ++ r).take (i + 1) = putL 10 n := by
        rw [hend, List.take_left']
        rfl
      rw [et, hv, hend]
    · have := h1 (by omega)
      rw [if_neg (by omega)]
      exact ih (i + 1) (by omega) (by omega)
theorem getV_put (n : Nat) (hn : n < 18446744073709551616) (r : List Nat) : getV (putL 10 n ++ r) 0 10 = (n, (putL 10 n).length, 0) :=
  getV_put_from n hn r 10 0 rfl (put_pos 9 n)
/-- Bytes that are all 128 or more, fewer than ten: more is needed. -/
theorem getV_more (l : List Nat) (h : l.length < 10) (hl : ∀ i, i < l.length → 128 ≤ l.getD i 0) : ∀ (d i : Nat), i + d = 10 → i ≤ l.length → getV l i d = (0, 0, 2) := by
  intro d
  induction d with
  | zero => intro i hi h2; omega
  | succ d ih =>
    intro i hi h2
    simp only [getV]
    by_cases he : l.length ≤ i
    · rw [if_pos he]
    · have := hl i (by omega)
      rw [if_neg he, if_neg (by omega)]
      exact ih (i + 1) (by omega) (by omega)
/-- Bytes that are all 128 or more, and then nought: nothing. -/
theorem getV_long (l : List Nat) (h0 : 0 < l.length) (h : l.length ≤ 10) (hl : ∀ i, i < l.length → 128 ≤ l.getD i 0) : ∀ (d i : Nat), i + d = 10 → i ≤ l.length → getV (l ++ [0]) i d = (0, 0, 3) := by
  intro d
  induction d with
  | zero => intro i hi h2; rfl
  | succ d ih =>
    intro i hi h2
    simp only [getV]
    rw [if_neg (by rw [List.length_append, List.length_singleton]; omega)]
    by_cases he : i < l.length
    · have eg : (l ++ [0]).getD i 0 = l.getD i 0 := by
        rw [List.getD_eq_getElem?_getD, List.getElem?_append_left he, ← List.getD_eq_getElem?_getD]
      have := hl i he
      rw [eg, if_neg (by omega)]
      exact ih (i + 1) (by omega) (by omega)
    · obtain rfl : i = l.length := by omega
      have eg : (l ++ [0]).getD l.length 0 = 0 := by
        rw [List.getD_eq_getElem?_getD, List.getElem?_append_right (by omega), Nat.sub_self]
        rfl
      rw [eg, if_pos (by omega), if_neg (by omega)]
end Go.Proofs.Ytlcngcbiacmagaa
