/- What vint.GetWord and vint.Word come to, in numbers: a word at a place is the sum of its bytes, and the bytes of a number have it. -/
import Derived.Test.YtlcngcbiacmagaaBytes
import Derived.Test.YtlcngcbiacmagaaGGet
import Derived.Test.YtlcngcbiacmagaaGWord
namespace Go.Proofs.Ytlcngcbiacmagaa
open Go.RowKit Go.Proofs.YtlcngcbiacmagaaW.PrintWords Go.Proofs.YtlcngcbiacmagaaW.PrintLast Go.Proofs.YtlcngcbiacmagaaW.PrintMore Go.Proofs.Ytlcngcbiacmagaa.PReader
set_option linter.unusedVariables false
theorem word_loop (s : ByteArray) (hs : 8 ≤ s.size) : ∀ (d i k : Nat), i + d = 8 → d < k → vint_reader_word.l0 k (part s 0 i : Int) (i : Int) s = some ((part s 0 8 : Int), 8, 0) := by
  intro d
  induction d with
  | zero =>
    intro i k hi hk
    obtain ⟨k, rfl⟩ : ∃ m, k = m + 1 := ⟨k - 1, by omega⟩
    obtain rfl : i = 8 := by omega
    simp only [vint_reader_word.l0]
    rw [if_neg (by omega)]
  | succ d ih =>
    intro i k hi hk
    obtain ⟨k, rfl⟩ : ∃ m, k = m + 1 := ⟨k - 1, by omega⟩
    have go := ih (i + 1) k (by omega) (by omega)
    have hp := part_step s 0 i (by omega)
    have e8 : wrap64 (8 * (i : Int)) = ((8 * i : Nat) : Int) := by unfold wrap64; omega
    simp only [vint_reader_word.l0]
    rw [if_pos (by omega), if_pos (by omega), if_pos (by omega), e8, if_pos (by omega), bt_bn, wrap_i i (by omega)]
    rw [Nat.zero_add] at hp
    rw [hp]
    exact go
theorem reader_word (k : Nat) (s : ByteArray) (hs : 8 ≤ s.size) (hk : 8 < k) : vint_reader_word.f k s = some ((part s 0 8 : Int), 8, 0) := by
  unfold vint_reader_word.f
  rw [if_neg (by omega)]
  exact word_loop s hs 8 0 k (by omega) hk
theorem extract_size (s : ByteArray) (i : Nat) (h : i ≤ s.size) : (s.extract i s.size).size = s.size - i := by
  rw [ByteArray.size_extract]
  omega
theorem bn_extract (s : ByteArray) (i m : Nat) : bn (s.extract i s.size) m = bn s (i + m) := by
  unfold bn
  rw [lst_extract, List.getD_eq_getElem?_getD, List.getD_eq_getElem?_getD]
  by_cases h : m < s.size - i
  · rw [List.getElem?_take_of_lt h, List.getElem?_drop]
  · rw [List.getElem?_eq_none (by rw [List.length_take, List.length_drop, lst_length]; omega), List.getElem?_eq_none (by rw [lst_length]; omega)]
theorem getWord_in (k : Nat) (s : ByteArray) (i : Nat) (h : i + 8 ≤ s.size) (hk : 8 < k) (hb : s.size < 9223372036854775807) : vint_GetWord.f k s (i : Int) = some ((part s i 8 : Int), ((i + 8 : Nat) : Int), 0) := by
  unfold vint_GetWord.f
  rw [if_neg (by omega), if_neg (by omega), Int.toNat_natCast, reader_word k _ (by rw [extract_size s i (by omega)]; omega) hk]
  simp only [Option.bind_some, vint_read.ans, if_true]
  have e1 : part (s.extract i s.size) 0 8 = part s i 8 := part_congr _ _ 0 i 8 (fun m _ => by rw [Nat.zero_add, bn_extract])
  have e2 : wrap64 ((i : Int) + 8) = ((i + 8 : Nat) : Int) := by unfold wrap64; omega
  rw [e1, e2]
theorem getWord_short (k : Nat) (s : ByteArray) (i : Nat) (h : i ≤ s.size) (h8 : s.size < i + 8) : vint_GetWord.f k s (i : Int) = some (0, 0, 2) := by
  unfold vint_GetWord.f
  rw [if_neg (by omega), if_neg (by omega), Int.toNat_natCast]
  have e : vint_reader_word.f k (s.extract i s.size) = some (0, 0, 2) := by
    unfold vint_reader_word.f
    rw [if_pos (by rw [extract_size s i h]; omega)]
  rw [e]
  rfl
theorem getWord_out (k : Nat) (s : ByteArray) (a : Int) (h : a < 0 ∨ (s.size : Int) < a) : vint_GetWord.f k s a = some (0, 0, 1) := by
  unfold vint_GetWord.f
  by_cases h0 : a < 0
  · rw [if_pos h0]
  · rw [if_neg h0, if_pos (by omega)]
/-- The bytes of a number. -/
def digits (n : Nat) : Nat → List Nat
  | 0 => []
  | j + 1 => digits n j ++ [n / 2 ^ (8 * j) % 256]
theorem digits_length (n j : Nat) : (digits n j).length = j := by
  induction j with
  | zero => rfl
  | succ j ih => simp [digits, ih]
theorem digits_get (n : Nat) : ∀ j m, m < j → (digits n j).getD m 0 = n / 2 ^ (8 * m) % 256 := by
  intro j
  induction j with
  | zero => intro m h; omega
  | succ j ih =>
    intro m h
    simp only [digits]
    rw [List.getD_eq_getElem?_getD]
    by_cases hm : m < j
    · rw [List.getElem?_append_left (by rw [digits_length]; omega), ← List.getD_eq_getElem?_getD]
      exact ih m hm
    · obtain rfl : m = j := by omega
      rw [List.getElem?_append_right (by rw [digits_length]; omega), digits_length, Nat.sub_self]
      rfl
theorem lst_word (n : Nat) : lst (strOfNums (wordBytes (n : Int))) = digits n 8 := by
  rw [lst_nums]
  have h : ∀ m : Nat, ((n : Int) / (m : Int) % 256).toNat % 256 = n / m % 256 := by
    intro m
    have : ((n : Int) / (m : Int) % 256) = ((n / m % 256 : Nat) : Int) := by rw [Int.natCast_emod, Int.natCast_ediv]; rfl
    rw [this, Int.toNat_natCast, Nat.mod_mod]
  have h1 : ((n : Int) % 256).toNat % 256 = n % 256 := by omega
  have e : nat8 (wordBytes (n : Int)) = [((n : Int) % 256).toNat % 256, ((n : Int) / ((256 : Nat) : Int) % 256).toNat % 256, ((n : Int) / ((65536 : Nat) : Int) % 256).toNat % 256, ((n : Int) / ((16777216 : Nat) : Int) % 256).toNat % 256, ((n : Int) / ((4294967296 : Nat) : Int) % 256).toNat % 256, ((n : Int) / ((1099511627776 : Nat) : Int) % 256).toNat % 256, ((n : Int) / ((281474976710656 : Nat) : Int) % 256).toNat % 256, ((n : Int) / ((72057594037927936 : Nat) : Int) % 256).toNat % 256] := rfl
  rw [e, h, h, h, h, h, h, h, h1]
  simp [digits]
theorem word_size (n : Nat) : (strOfNums (wordBytes (n : Int))).size = 8 := by
  rw [← lst_length, lst_word, digits_length]
theorem bn_append_left (s t : ByteArray) (m : Nat) (h : m < s.size) : bn (s ++ t) m = bn s m := by
  unfold bn
  rw [lst_append, List.getD_eq_getElem?_getD, List.getD_eq_getElem?_getD, List.getElem?_append_left (by rw [lst_length]; exact h)]
theorem bn_append_right (s t : ByteArray) (m : Nat) : bn (s ++ t) (s.size + m) = bn t m := by
  unfold bn
  rw [lst_append, List.getD_eq_getElem?_getD, List.getD_eq_getElem?_getD, List.getElem?_append_right (by rw [lst_length]; omega), lst_length]
  congr 2
  omega
theorem bn_word (n m : Nat) (h : m < 8) : bn (strOfNums (wordBytes (n : Int))) m = n / 2 ^ (8 * m) % 256 := by
  unfold bn
  rw [lst_word]
  exact digits_get n 8 m h
/-- A number's word, where it stands, has the number. -/
theorem part_word (s : ByteArray) (i n : Nat) (hn : n < 18446744073709551616) (h : ∀ m, m < 8 → bn s (i + m) = bn (strOfNums (wordBytes (n : Int))) m) : part s i 8 = n := by
  rw [part_digits s i n 8 (fun m hm => by rw [h m hm, bn_word n m hm])]
  exact Nat.mod_eq_of_lt hn
/-- Eight bytes are the word of their number. -/
theorem digits_part (s : ByteArray) (i : Nat) : ∀ j, j ≤ 8 → digits (part s i 8) j = (List.range j).map fun m => bn s (i + m) := by
  intro j
  induction j with
  | zero => intro _; rfl
  | succ j ih =>
    intro hj
    simp only [digits]
    rw [ih (by omega), part_bytes s i 8 j (by omega), List.range_succ, List.map_append, List.map_singleton]
theorem part8_lt (s : ByteArray) (i : Nat) : part s i 8 < 18446744073709551616 := part_lt s i 8
end Go.Proofs.Ytlcngcbiacmagaa
