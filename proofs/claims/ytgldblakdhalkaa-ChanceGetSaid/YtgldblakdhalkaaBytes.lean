/- Plain lemmas on bytes and numbers: a string as a list of numbers, a word's number, or and shift as sum and product. No program in sight. -/
import Derived.Test.YtgldblakdhalkaaWMore
import Derived.Laws.BitsAllLaws
import Derived.Laws.Bits64
namespace Go.Proofs.Ytgldblakdhalkaa
open Go.RowKit Go.Proofs.YtgldblakdhalkaaW.PrintWords Go.Proofs.YtgldblakdhalkaaW.PrintLast Go.Proofs.YtgldblakdhalkaaW.PrintMore
/-- A string's bytes as numbers. -/
def lst (s : ByteArray) : List Nat := s.data.toList.map UInt8.toNat
theorem lst_length (s : ByteArray) : (lst s).length = s.size := by
  unfold lst
  rw [List.length_map, Array.length_toList]
  rfl
theorem lst_lt (s : ByteArray) : ∀ x ∈ lst s, x < 256 := by
  intro x hx
  obtain ⟨b, _, rfl⟩ := List.mem_map.1 hx
  exact b.toNat_lt
theorem lst_inj {s t : ByteArray} (h : lst s = lst t) : s = t := by
  have h1 : s.data.toList = t.data.toList := List.map_inj_right (fun _ _ e => UInt8.toNat_inj.1 e) |>.1 h
  cases s; cases t
  simp only at h1
  congr 1
  exact Array.toList_inj.1 h1
theorem lst_append (s t : ByteArray) : lst (s ++ t) = lst s ++ lst t := by
  simp [lst]
theorem lst_extract (s : ByteArray) (i j : Nat) : lst (s.extract i j) = ((lst s).drop i).take (j - i) := by
  unfold lst
  rw [ByteArray.data_extract, Array.toList_extract, List.extract_eq_take_drop, List.map_take, List.map_drop]
def nat8 (xs : List Int) : List Nat := xs.map fun x => x.toNat % 256
theorem lst_nums (xs : List Int) : lst (strOfNums xs) = nat8 xs := by
  unfold lst nat8
  rw [strOfNums_data, List.map_map]
  apply List.map_congr_left
  intro x _
  simp
/-- Byte i. -/
def bn (s : ByteArray) (i : Nat) : Nat := (lst s).getD i 0
theorem bt_bn (s : ByteArray) (i : Nat) : bt s (i : Int) = (bn s i : Int) := by
  unfold bt bn lst
  rw [Int.toNat_natCast, List.getD_eq_getElem?_getD, List.getElem?_map]
  split
  · rename_i h
    have h' : i < s.data.toList.length := by rw [Array.length_toList]; exact h
    rw [List.getElem?_eq_getElem h']
    simp
    rfl
  · rename_i h
    have h' : s.data.toList.length ≤ i := by rw [Array.length_toList]; exact Nat.le_of_not_lt h
    rw [List.getElem?_eq_none h']
    rfl
theorem bn_lt (s : ByteArray) (i : Nat) : bn s i < 256 := by
  unfold bn
  rw [List.getD_eq_getElem?_getD]
  by_cases h : i < (lst s).length
  · rw [List.getElem?_eq_getElem h]
    exact lst_lt s _ (List.getElem_mem h)
  · rw [List.getElem?_eq_none (by omega)]
    decide
theorem wrap_u64 (n : Int) (h0 : 0 ≤ n) (h1 : n < 18446744073709551616) : IntKind.u64.wrap n = n := by
  rw [IntKind.wrap_u64]
  exact Int.emod_eq_of_lt h0 h1
theorem or_nat (a c s : Nat) (ha : a < 2 ^ s) : a ||| c * 2 ^ s = a + c * 2 ^ s := by
  rw [Nat.or_comm, Nat.mul_comm, ← Nat.two_pow_add_eq_or_of_lt ha c, Nat.add_comm]
/-- A byte (or what is below 2^57) shifted and laid into a number that has none of these bits. -/
theorem or_shl (a c s : Nat) (ha : a < 2 ^ s) (hs : s < 64) (hc : c * 2 ^ s < 18446744073709551616) :
    Go.bits .or .u64 (a : Int) (shl .u64 (IntKind.u64.wrap (c : Int)) (s : Int)) = ((a + c * 2 ^ s : Nat) : Int) := by
  have hp : 1 ≤ 2 ^ s := Nat.one_le_two_pow
  have hc' : c < 18446744073709551616 := Nat.lt_of_le_of_lt (Nat.le_mul_of_pos_right c hp) hc
  have ha' : a < 18446744073709551616 := Nat.lt_of_lt_of_le ha (Nat.pow_le_pow_right (by omega) (show s ≤ 64 by omega))
  have e : shl .u64 (IntKind.u64.wrap (c : Int)) (s : Int) = ((c * 2 ^ s : Nat) : Int) := by
    unfold shl
    rw [wrap_u64 (c : Int) (by omega) (by omega), Int.toNat_natCast, show IntKind.u64.bits = 64 from rfl, Nat.min_eq_left (by omega)]
    have e2 : ((c : Int) * 2 ^ s) = ((c * 2 ^ s : Nat) : Int) := by push_cast; rfl
    rw [e2]
    exact wrap_u64 _ (by omega) (by omega)
  rw [e, u64_or_nat _ _ ha' hc, or_nat a c s ha]
theorem and127 (c : Nat) (hc : c < 256) : Go.bits .and .u8 (c : Int) 127 = ((c % 128 : Nat) : Int) := by
  have e : (127 : Int) = ((127 : Nat) : Int) := rfl
  rw [e, u8_and_nat _ _ hc (by omega)]
  congr 1
  exact Nat.and_two_pow_sub_one_eq_mod c 7
theorem or128 (c : Nat) (hc : c < 256) : Go.bits .or .u8 (c : Int) 128 = ((c % 128 + 128 : Nat) : Int) := by
  have e : (128 : Int) = ((128 : Nat) : Int) := rfl
  rw [e, u8_or_nat _ _ hc (by omega)]
  congr 1
  have : ∀ c : Fin 256, c.val ||| 128 = c.val % 128 + 128 := by decide +kernel
  exact this ⟨c, hc⟩
/-- The number of the first j bytes behind i, the lowest first. -/
def part (s : ByteArray) (i : Nat) : Nat → Nat
  | 0 => 0
  | j + 1 => part s i j + bn s (i + j) * 2 ^ (8 * j)
theorem part_lt (s : ByteArray) (i j : Nat) : part s i j < 2 ^ (8 * j) := by
  induction j with
  | zero => simp [part]
  | succ j ih =>
    have hb := bn_lt s (i + j)
    have e : 2 ^ (8 * (j + 1)) = 256 * 2 ^ (8 * j) := by rw [Nat.mul_add, Nat.pow_add, Nat.mul_comm]
    have h2 : bn s (i + j) * 2 ^ (8 * j) ≤ 255 * 2 ^ (8 * j) := Nat.mul_le_mul_right _ (by omega)
    simp only [part]
    rw [e]
    omega
theorem part_step (s : ByteArray) (i j : Nat) (hj : j < 8) : Go.bits .or .u64 (part s i j : Int) (shl .u64 (IntKind.u64.wrap (bn s (i + j) : Int)) ((8 * j : Nat) : Int)) = (part s i (j + 1) : Int) := by
  have hb := bn_lt s (i + j)
  have h : bn s (i + j) * 2 ^ (8 * j) < 18446744073709551616 := by
    have h1 : (2 : Nat) ^ (8 * j) ≤ 2 ^ 56 := Nat.pow_le_pow_right (by omega) (by omega)
    have h2 : bn s (i + j) * 2 ^ (8 * j) ≤ 255 * 2 ^ (8 * j) := Nat.mul_le_mul_right _ (by omega)
    omega
  exact or_shl _ _ _ (part_lt s i j) (by omega) h
theorem part_congr (s t : ByteArray) (i k : Nat) : ∀ j, (∀ m, m < j → bn s (i + m) = bn t (k + m)) → part s i j = part t k j := by
  intro j
  induction j with
  | zero => intro _; rfl
  | succ j ih =>
    intro h
    simp only [part]
    rw [ih (fun m hm => h m (by omega)), h j (by omega)]
theorem part_digits (s : ByteArray) (i n : Nat) : ∀ j, (∀ m, m < j → bn s (i + m) = n / 2 ^ (8 * m) % 256) → part s i j = n % 2 ^ (8 * j) := by
  intro j
  induction j with
  | zero => intro _; simp [part, Nat.mod_one]
  | succ j ih =>
    intro h
    simp only [part]
    rw [ih (fun m hm => h m (by omega)), h j (by omega)]
    have e : 2 ^ (8 * (j + 1)) = 2 ^ (8 * j) * 256 := by rw [Nat.mul_add, Nat.pow_add]
    rw [e, Nat.mod_mul, Nat.mul_comm (n / _ % _)]
/-- What bytes are, they are again by their number. -/
theorem part_bytes (s : ByteArray) (i : Nat) : ∀ j m, m < j → part s i j / 2 ^ (8 * m) % 256 = bn s (i + m) := by
  intro j
  induction j with
  | zero => intro m hm; omega
  | succ j ih =>
    intro m hm
    simp only [part]
    have hl := part_lt s i j
    by_cases h : m = j
    · subst h
      rw [Nat.add_mul_div_right _ _ (Nat.two_pow_pos _), Nat.div_eq_of_lt hl, Nat.zero_add, Nat.mod_eq_of_lt (bn_lt _ _)]
    · have e : bn s (i + j) * 2 ^ (8 * j) = bn s (i + j) * 2 ^ (8 * (j - m - 1)) * 256 * 2 ^ (8 * m) := by
        rw [Nat.mul_assoc, Nat.mul_assoc]
        congr 1
        rw [show (256 : Nat) = 2 ^ 8 from rfl, ← Nat.pow_add, ← Nat.pow_add]
        congr 1
        omega
      rw [e, Nat.add_mul_div_right _ _ (Nat.two_pow_pos _), Nat.add_mul_mod_self_right]
      exact ih m (by omega)
theorem wrap_i (i : Nat) (h : i < 9223372036854775807) : wrap64 ((i : Int) + 1) = ((i + 1 : Nat) : Int) := by unfold wrap64; omega
theorem wrap_nat (i : Nat) (h : i < 9223372036854775808) : wrap64 (i : Int) = (i : Int) := by unfold wrap64; omega
end Go.Proofs.Ytgldblakdhalkaa
