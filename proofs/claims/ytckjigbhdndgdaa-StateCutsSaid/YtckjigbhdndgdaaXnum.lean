/- What the sums of bytes come to, in whole numbers: rounds, mixes, lanes, what is left; the code's sum is the reference's. -/
import Derived.Test.YtckjigbhdndgdaaBytes
import Derived.Test.YtckjigbhdndgdaaGXsum
import Derived.Test.YtckjigbhdndgdaaPRefx2
namespace Go.Proofs.Ytckjigbhdndgdaa
open Go.RowKit Go.Proofs.YtckjigbhdndgdaaW.PrintWords Go.Proofs.YtckjigbhdndgdaaW.PrintLast Go.Proofs.YtckjigbhdndgdaaW.PrintMore Go.Proofs.Ytckjigbhdndgdaa.PReader Go.Proofs.Ytckjigbhdndgdaa.PBits Go.Proofs.Ytckjigbhdndgdaa.PRef
set_option linter.unusedVariables false
set_option maxRecDepth 10000
theorem word_loop (s : ByteArray) (hs : 8 ≤ s.size) : ∀ (d i k : Nat), i + d = 8 → d < k → vint_reader_word.l0 k (part s 0 i : Int) (i : Int) s = some ((part s 0 8 : Int), 8, 0) := by
  intro d
  induction d with
  | zero =>
    intro i k hi hk
    obtain ⟨k, rfl⟩ : ∃ m, k = m + 1 := ⟨k - 1, by omega⟩
    obtain rfl : i = 8 := by omega
    simp only [vint_reader_word.l0]
    rw [if_neg (by omega)]
  | succ d ih =>
    intro i k hi hk
    obtain ⟨k, rfl⟩ : ∃ m, k = m + 1 := ⟨k - 1, by omega⟩
    have go := ih (i + 1) k (by omega) (by omega)
    have hp := part_step s 0 i (by omega)
    have e8 : wrap64 (8 * (i : Int)) = ((8 * i : Nat) : Int) := by unfold wrap64; omega
    simp only [vint_reader_word.l0]
    rw [if_pos (by omega), if_pos (by omega), if_pos (by omega), e8, if_pos (by omega), bt_bn, wrap_i i (by omega)]
    rw [Nat.zero_add] at hp
    rw [hp]
    exact go
theorem reader_word (k : Nat) (s : ByteArray) (hs : 8 ≤ s.size) (hk : 8 < k) : vint_reader_word.f k s = some ((part s 0 8 : Int), 8, 0) := by
  unfold vint_reader_word.f
  rw [if_neg (by omega)]
  exact word_loop s hs 8 0 k (by omega) hk
theorem extract_size (s : ByteArray) (i : Nat) (h : i ≤ s.size) : (s.extract i s.size).size = s.size - i := by
  rw [ByteArray.size_extract]
  omega
theorem bn_extract (s : ByteArray) (i m : Nat) : bn (s.extract i s.size) m = bn s (i + m) := by
  unfold bn
  rw [lst_extract, List.getD_eq_getElem?_getD, List.getD_eq_getElem?_getD]
  by_cases h : m < s.size - i
  · rw [List.getElem?_take_of_lt h, List.getElem?_drop]
  · rw [List.getElem?_eq_none (by rw [List.length_take, List.length_drop, lst_length]; omega), List.getElem?_eq_none (by rw [lst_length]; omega)]
theorem part_extract (s : ByteArray) (p i j : Nat) : part (s.extract p s.size) i j = part s (p + i) j := part_congr _ _ i (p + i) j (fun m _ => by rw [bn_extract, Nat.add_assoc])
theorem getWord_in (k : Nat) (s : ByteArray) (i : Nat) (h : i + 8 ≤ s.size) (hk : 8 < k) (hb : s.size < 9223372036854775807) : vint_GetWord.f k s (i : Int) = some ((part s i 8 : Int), ((i + 8 : Nat) : Int), 0) := by
  unfold vint_GetWord.f
  rw [if_neg (by omega), if_neg (by omega), Int.toNat_natCast, reader_word k _ (by rw [extract_size s i (by omega)]; omega) hk]
  simp only [Option.bind_some, vint_read.ans, if_true]
  have e1 : part (s.extract i s.size) 0 8 = part s i 8 := part_congr _ _ 0 i 8 (fun m _ => by rw [Nat.zero_add, bn_extract])
  have e2 : wrap64 ((i : Int) + 8) = ((i + 8 : Nat) : Int) := by unfold wrap64; omega
  rw [e1, e2]
theorem ref_loop (s : ByteArray) (i : Nat) (h : i + 8 ≤ s.size) (hb : s.size < 9223372036854775000) : ∀ (d j k : Nat), j + d = 8 → d < k →
    wringerref1_GetWord.l0 k s (i : Int) (part s i j : Int) (j : Int) = some ((part s i 8 : Int), ((i + 8 : Nat) : Int), 0) := by
  intro d
  induction d with
  | zero =>
    intro j k hj hk
    obtain ⟨k, rfl⟩ : ∃ m, k = m + 1 := ⟨k - 1, by omega⟩
    obtain rfl : j = 8 := by omega
    simp only [wringerref1_GetWord.l0]
    rw [if_neg (by omega)]
    have e2 : wrap64 ((i : Int) + 8) = ((i + 8 : Nat) : Int) := by unfold wrap64; omega
    rw [e2]
  | succ d ih =>
    intro j k hj hk
    obtain ⟨k, rfl⟩ : ∃ m, k = m + 1 := ⟨k - 1, by omega⟩
    have go := ih (j + 1) k (by omega) (by omega)
    have hp := part_step s i j (by omega)
    have e8 : wrap64 (8 * (j : Int)) = ((8 * j : Nat) : Int) := by unfold wrap64; omega
    have e1 : wrap64 ((i : Int) + (j : Int)) = ((i + j : Nat) : Int) := by unfold wrap64; omega
    simp only [wringerref1_GetWord.l0]
    rw [if_pos (by omega), e1, e8, if_pos (by omega), if_pos (by omega), if_pos (by omega), bt_bn, hp, wrap_i j (by omega)]
    exact go
theorem refWord_in (k : Nat) (s : ByteArray) (i : Nat) (h : i + 8 ≤ s.size) (hk : 10 < k) (hb : s.size < 9223372036854775000) : wringerref1_GetWord.f k s (i : Int) = some ((part s i 8 : Int), ((i + 8 : Nat) : Int), 0) := by
  obtain ⟨k, rfl⟩ : ∃ m, k = m + 1 := ⟨k - 1, by omega⟩
  unfold wringerref1_GetWord.f
  rw [if_neg (by omega), decide_eq_false (by omega)]
  simp only [wringerref1_GetWord.j0, if_neg Bool.false_ne_true]
  have e2 : wrap64 ((i : Int) + 8) = ((i + 8 : Nat) : Int) := by unfold wrap64; omega
  rw [e2, if_neg (by omega)]
  exact ref_loop s i h hb 8 0 k (by omega) (by omega)
/-! ### Steps, in whole numbers below 2^64 -/
theorem u64n (n : Nat) : IntKind.u64.wrap (n : Int) = ((n % 18446744073709551616 : Nat) : Int) := by
  rw [IntKind.wrap_u64]
  omega
theorem wrap_mul (x p : Nat) : IntKind.u64.wrap ((x : Int) * (p : Int)) = ((x * p % 18446744073709551616 : Nat) : Int) := by
  rw [← Int.natCast_mul, u64n]
theorem wrap_add2 (x p : Nat) : IntKind.u64.wrap ((x : Int) + (p : Int)) = (((x + p) % 18446744073709551616 : Nat) : Int) := by
  rw [← Int.natCast_add, u64n]
def rotN (x n : Nat) : Nat := x % 2 ^ (64 - n) * 2 ^ n + x / 2 ^ (64 - n)
theorem rot_val (x n : Nat) (hx : x < 18446744073709551616) (hn : n < 64) : Go.bits .or .u64 (shl .u64 (x : Int) (n : Int)) (shr .u64 (x : Int) ((64 - n : Nat) : Int)) = (rotN x n : Int) := by
  have e64 : (18446744073709551616 : Nat) = 2 ^ (64 - n) * 2 ^ n := by rw [← Nat.pow_add, Nat.sub_add_cancel (by omega)]
  have e1 : shl .u64 (x : Int) (n : Int) = ((x % 2 ^ (64 - n) * 2 ^ n : Nat) : Int) := by
    unfold shl
    rw [Int.toNat_natCast, show IntKind.u64.bits = 64 from rfl, Nat.min_eq_left (by omega)]
    have : ((x : Int) * 2 ^ n) = ((x * 2 ^ n : Nat) : Int) := by push_cast; rfl
    rw [this, u64n, e64, Nat.mul_mod_mul_right]
  have e2 : shr .u64 (x : Int) ((64 - n : Nat) : Int) = ((x / 2 ^ (64 - n) : Nat) : Int) := by
    unfold shr
    rw [Int.toNat_natCast, show IntKind.u64.bits = 64 from rfl, Nat.min_eq_left (by omega)]
    push_cast
    rfl
  have h1 : x / 2 ^ (64 - n) < 2 ^ n := Nat.div_lt_of_lt_mul (by rw [← e64]; exact hx)
  have h2 : x % 2 ^ (64 - n) * 2 ^ n < 18446744073709551616 := by
    rw [e64]
    exact Nat.mul_lt_mul_of_pos_right (Nat.mod_lt _ (Nat.two_pow_pos _)) (Nat.two_pow_pos _)
  have h3 : x / 2 ^ (64 - n) < 18446744073709551616 := Nat.lt_of_le_of_lt (Nat.div_le_self _ _) hx
  rw [e1, e2, u64_or_nat _ _ h2 h3, Nat.or_comm, or_nat _ _ _ h1, Nat.add_comm]
  rfl
theorem rotN_lt (x n : Nat) (hx : x < 18446744073709551616) (hn : n < 64) : rotN x n < 18446744073709551616 := by
  have e64 : (18446744073709551616 : Nat) = 2 ^ (64 - n) * 2 ^ n := by rw [← Nat.pow_add, Nat.sub_add_cancel (by omega)]
  have h1 : x / 2 ^ (64 - n) < 2 ^ n := Nat.div_lt_of_lt_mul (by rw [← e64]; exact hx)
  have h2 : x % 2 ^ (64 - n) + 1 ≤ 2 ^ (64 - n) := Nat.mod_lt _ (Nat.two_pow_pos _)
  have h3 := Nat.mul_le_mul_right (2 ^ n) h2
  rw [Nat.add_mul, ← e64] at h3
  unfold rotN
  omega
theorem and63 : ∀ n : Fin 64, Go.bits .and .u64 (IntKind.u64.wrap (n.val : Int)) 63 = (n.val : Int) := by decide +kernel
theorem rl_val (x n : Nat) (hx : x < 18446744073709551616) (h0 : 0 < n) (hn : n < 64) : bits_RotateLeft64.f (x : Int) (n : Int) = some (rotN x n : Int) := by
  unfold bits_RotateLeft64.f
  have e1 := and63 ⟨n, hn⟩
  simp only at e1
  have e2 : IntKind.u64.wrap (64 - (n : Int)) = ((64 - n : Nat) : Int) := by rw [IntKind.wrap_u64]; omega
  rw [e1, e2, if_pos (by omega), if_pos (by omega), rot_val x n hx hn]
theorem rol_val (x n : Nat) (hx : x < 18446744073709551616) (h0 : 0 < n) (hn : n < 64) : wringerref1_rol.f (x : Int) (n : Int) = some (rotN x n : Int) := by
  unfold wringerref1_rol.f
  have e2 : wrap64 (64 - (n : Int)) = ((64 - n : Nat) : Int) := by unfold wrap64; omega
  rw [e2, if_pos (by omega), if_pos (by omega), rot_val x n hx hn]
theorem xor_val (a b : Nat) (ha : a < 18446744073709551616) (hb : b < 18446744073709551616) : Go.bits .xor .u64 (a : Int) (b : Int) = ((a ^^^ b : Nat) : Int) := u64_xor_nat a b ha hb
theorem xor_lt (a b : Nat) (ha : a < 18446744073709551616) (hb : b < 18446744073709551616) : a ^^^ b < 18446744073709551616 := Nat.xor_lt_two_pow (n := 64) ha hb
theorem md (x : Nat) : x % 18446744073709551616 < 18446744073709551616 := Nat.mod_lt _ (by decide)
def rnd (a w : Nat) : Nat := rotN ((a + w * 14029467366897019727 % 18446744073709551616) % 18446744073709551616) 31 * 11400714785074694791 % 18446744073709551616
theorem round_val (a w : Nat) : xxh_Round.f (a : Int) (w : Int) = some (rnd a w : Int) := by
  unfold xxh_Round.f
  rw [show (14029467366897019727 : Int) = ((14029467366897019727 : Nat) : Int) from rfl, wrap_mul, wrap_add2, show (31 : Int) = ((31 : Nat) : Int) from rfl, rl_val _ 31 (md _) (by decide) (by decide), Option.bind_some,
    show (11400714785074694791 : Int) = ((11400714785074694791 : Nat) : Int) from rfl, wrap_mul]
  rfl
theorem refround_val (a w : Nat) : wringerref1_Round.f (a : Int) (w : Int) = some (rnd a w : Int) := by
  unfold wringerref1_Round.f
  rw [show (14029467366897019727 : Int) = ((14029467366897019727 : Nat) : Int) from rfl, wrap_mul, wrap_add2, show (31 : Int) = ((31 : Nat) : Int) from rfl, rol_val _ 31 (md _) (by decide) (by decide), Option.bind_some,
    show (11400714785074694791 : Int) = ((11400714785074694791 : Nat) : Int) from rfl, wrap_mul]
  rfl
theorem rnd_lt (a w : Nat) : rnd a w < 18446744073709551616 := md _
def mixN (h : Nat) : Nat :=
  let a := (h ^^^ h / 8589934592) * 14029467366897019727 % 18446744073709551616
  let b := (a ^^^ a / 536870912) * 1609587929392839161 % 18446744073709551616
  b ^^^ b / 4294967296
theorem mixstep (h s p : Nat) (hh : h < 18446744073709551616) : IntKind.u64.wrap ((Go.bits .xor .u64 (h : Int) ((h : Int) / (s : Int))) * (p : Int)) = (((h ^^^ h / s) * p % 18446744073709551616 : Nat) : Int) := by
  rw [← Int.natCast_ediv, xor_val _ _ hh (Nat.lt_of_le_of_lt (Nat.div_le_self _ _) hh), wrap_mul]
theorem mix_val (h : Nat) (hh : h < 18446744073709551616) : xxh_Mix.f (h : Int) = some (mixN h : Int) := by
  unfold xxh_Mix.f
  rw [show (14029467366897019727 : Int) = ((14029467366897019727 : Nat) : Int) from rfl, show (8589934592 : Int) = ((8589934592 : Nat) : Int) from rfl, show (1609587929392839161 : Int) = ((1609587929392839161 : Nat) : Int) from rfl,
    show (536870912 : Int) = ((536870912 : Nat) : Int) from rfl, show (4294967296 : Int) = ((4294967296 : Nat) : Int) from rfl, mixstep h _ _ hh, mixstep _ _ _ (md _), ← Int.natCast_ediv, xor_val _ _ (md _) (Nat.lt_of_le_of_lt (Nat.div_le_self _ _) (md _))]
  rfl
theorem refmix_val (h : Nat) (hh : h < 18446744073709551616) : wringerref1_Mix.f (h : Int) = some (mixN h : Int) := by
  have := mix_val h hh
  unfold xxh_Mix.f at this
  unfold wringerref1_Mix.f
  exact this
def laneN (h p : Nat) : Nat := ((h ^^^ p) * 11400714785074694791 % 18446744073709551616 + 9650029242287828579) % 18446744073709551616
theorem lane_val (h p : Nat) (hh : h < 18446744073709551616) (hp : p < 18446744073709551616) : laneV (h : Int) (p : Int) = (laneN h p : Int) := by
  unfold laneV
  rw [xor_val h p hh hp, show (11400714785074694791 : Int) = ((11400714785074694791 : Nat) : Int) from rfl, wrap_mul, show (9650029242287828579 : Int) = ((9650029242287828579 : Nat) : Int) from rfl, wrap_add2]
  rfl
theorem laneN_lt (h p : Nat) : laneN h p < 18446744073709551616 := md _
def byteN (h c : Nat) : Nat := rotN (h ^^^ c * 2870177450012600261 % 18446744073709551616) 11 * 11400714785074694791 % 18446744073709551616
def wordN (h n : Nat) : Nat := (rotN (h ^^^ rnd 0 n) 27 * 11400714785074694791 % 18446744073709551616 + 9650029242287828579) % 18446744073709551616
def fourN (h n : Nat) : Nat := (rotN (h ^^^ n * 11400714785074694791 % 18446744073709551616) 23 * 14029467366897019727 % 18446744073709551616 + 1609587929392839161) % 18446744073709551616
theorem byteN_lt (h c : Nat) : byteN h c < 18446744073709551616 := md _
theorem wordN_lt (h c : Nat) : wordN h c < 18446744073709551616 := md _
theorem fourN_lt (h c : Nat) : fourN h c < 18446744073709551616 := md _
/-- What follows: d bytes from place i on. -/
def bytesN (s : ByteArray) : Nat → Nat → Nat → Nat
  | h, _, 0 => h
  | h, i, d + 1 => bytesN s (byteN h (bn s i)) (i + 1) d
/-- q steps of f over what g tells at place i, i + st, .. -/
def foldN (f : Nat → Nat → Nat) (g : Nat → Nat) (st : Nat) : Nat → Nat → Nat → Nat
  | h, _, 0 => h
  | h, i, q + 1 => foldN f g st (f h (g i)) (i + st) q
theorem foldN_succ (f : Nat → Nat → Nat) (g : Nat → Nat) (st h i q : Nat) : foldN f g st h i (q + 1) = foldN f g st (f h (g i)) (i + st) q := rfl
def wordsN (s : ByteArray) (h i q : Nat) : Nat := foldN wordN (fun i => part s i 8) 8 h i q
theorem wordsN_zero (s : ByteArray) (h i : Nat) : wordsN s h i 0 = h := by unfold wordsN; exact (by intros; rfl : ∀ f g st h i, foldN f g st h i 0 = h) _ _ _ _ _
theorem wordsN_succ (s : ByteArray) (h i q : Nat) : wordsN s h i (q + 1) = wordsN s (wordN h (part s i 8)) (i + 8) q := by
  unfold wordsN
  exact foldN_succ wordN (fun i => part s i 8) 8 h i q
/-- What is left behind the words. -/
def endN (s : ByteArray) (h i n : Nat) : Nat := if 4 ≤ n then bytesN s (fourN h (part s i 4)) (i + 4) (n - 4) else bytesN s h i n
def restN (s : ByteArray) (h i n : Nat) : Nat := endN s (wordsN s h i (n / 8)) (i + 8 * (n / 8)) (n % 8)
theorem bytesN_lt (s : ByteArray) : ∀ d h i, h < 18446744073709551616 → bytesN s h i d < 18446744073709551616 := by
  intro d
  induction d with
  | zero => intro h i hh; exact hh
  | succ d ih =>
    intro h i hh
    simp only [bytesN]
    exact ih _ _ (byteN_lt _ _)
theorem wordsN_lt (s : ByteArray) (d : Nat) : ∀ h i, h < 18446744073709551616 → wordsN s h i d < 18446744073709551616 := by
  induction d with
  | zero =>
    intro h i hh
    rw [wordsN_zero]
    exact hh
  | succ d ih =>
    intro h i hh
    rw [wordsN_succ]
    generalize part s i 8 = x
    have := wordN_lt h x
    generalize wordN h x = y at *
    exact ih y (i + 8) this
theorem endN_lt (s : ByteArray) (h i n : Nat) (hh : h < 18446744073709551616) : endN s h i n < 18446744073709551616 := by
  unfold endN
  split
  · exact bytesN_lt _ _ _ _ (fourN_lt _ _)
  · exact bytesN_lt _ _ _ _ hh
theorem restN_lt (s : ByteArray) (h i n : Nat) (hh : h < 18446744073709551616) : restN s h i n < 18446744073709551616 := endN_lt _ _ _ _ (wordsN_lt _ _ _ _ hh)
/-! ### What is left, by the code and by the reference -/
theorem byte_int (s : ByteArray) (h i : Nat) (hh : h < 18446744073709551616) : Go.bits .xor .u64 (h : Int) (IntKind.u64.wrap (IntKind.u64.wrap (bt s (i : Int)) * 2870177450012600261)) = ((h ^^^ bn s i * 2870177450012600261 % 18446744073709551616 : Nat) : Int) := by
  have hb := bn_lt s i
  rw [bt_bn, u64n, Nat.mod_eq_of_lt (by omega), show (2870177450012600261 : Int) = ((2870177450012600261 : Nat) : Int) from rfl, wrap_mul, xor_val _ _ hh (md _)]
theorem xx (a b : Nat) (ha : a < 18446744073709551616) : a ^^^ b % 18446744073709551616 < 18446744073709551616 := xor_lt _ _ ha (md _)
theorem tail_bytes (s : ByteArray) : ∀ (d i h k : Nat), i + d = s.size → d < k → h < 18446744073709551616 → xxh_tail.l1 k (h : Int) s (i : Int) = some (bytesN s h i d : Int) := by
  intro d
  induction d with
  | zero =>
    intro i h k hi hk hh
    obtain ⟨k, rfl⟩ : ∃ m, k = m + 1 := ⟨k - 1, by omega⟩
    simp only [xxh_tail.l1]
    rw [if_neg (by omega)]
    rfl
  | succ d ih =>
    intro i h k hi hk hh
    obtain ⟨k, rfl⟩ : ∃ m, k = m + 1 := ⟨k - 1, by omega⟩
    have go := ih (i + 1) (byteN h (bn s i)) k (by omega) (by omega) (byteN_lt _ _)
    simp only [xxh_tail.l1]
    rw [if_pos (by omega), byte_int s h i hh, show (11 : Int) = ((11 : Nat) : Int) from rfl, rl_val _ 11 (xx _ _ hh) (by decide) (by decide), Option.bind_some, show (11400714785074694791 : Int) = ((11400714785074694791 : Nat) : Int) from rfl, wrap_mul]
    exact go
theorem bytesN_extract (s : ByteArray) (p : Nat) : ∀ d h i, bytesN (s.extract p s.size) h i d = bytesN s h (p + i) d := by
  intro d
  induction d with
  | zero => intro h i; rfl
  | succ d ih =>
    intro h i
    simp only [bytesN]
    rw [ih, bn_extract, Nat.add_assoc]
theorem extract2 (s : ByteArray) (p j : Nat) (h : p + j ≤ s.size) : (s.extract p s.size).extract j (s.extract p s.size).size = s.extract (p + j) s.size := by
  apply lst_inj
  rw [lst_extract, lst_extract, lst_extract, List.drop_take, List.drop_drop, List.take_take, ByteArray.size_extract]
  congr 1
  omega
theorem byte_shift (b j m : Nat) (hb : b < 256) (e : (m : Int) = ((2 ^ j : Nat) : Int)) (hj : j < 64) (hl : b * 2 ^ j < 18446744073709551616) : IntKind.u64.wrap (IntKind.u64.wrap (b : Int) * (m : Int)) = shl .u64 (IntKind.u64.wrap (b : Int)) (j : Int) := by
  unfold shl
  rw [Int.toNat_natCast, show IntKind.u64.bits = 64 from rfl, Nat.min_eq_left (by omega), e]
  congr 2
theorem four_val (s : ByteArray) : fourV (bt s 0) (bt s 1) (bt s 2) (bt s 3) = (part s 0 4 : Int) := by
  have e0 : bt s 0 = (bn s 0 : Int) := bt_bn s 0
  have e1 : bt s 1 = (bn s 1 : Int) := bt_bn s 1
  have e2 : bt s 2 = (bn s 2 : Int) := bt_bn s 2
  have e3 : bt s 3 = (bn s 3 : Int) := bt_bn s 3
  have h0 := bn_lt s 0
  have h1 := bn_lt s 1
  have h2 := bn_lt s 2
  have h3 := bn_lt s 3
  have p1 := part_step s 0 1 (by omega)
  have p2 := part_step s 0 2 (by omega)
  have p3 := part_step s 0 3 (by omega)
  rw [Nat.zero_add] at p1 p2 p3
  unfold fourV
  rw [e0, e1, e2, e3]
  rw [show (256 : Int) = ((256 : Nat) : Int) from rfl, show (65536 : Int) = ((65536 : Nat) : Int) from rfl, show (16777216 : Int) = ((16777216 : Nat) : Int) from rfl]
  rw [byte_shift (bn s 1) 8 256 h1 rfl (by omega) (by omega), byte_shift (bn s 2) 16 65536 h2 rfl (by omega) (by omega), byte_shift (bn s 3) 24 16777216 h3 rfl (by omega) (by omega)]
  have p0 : IntKind.u64.wrap (bn s 0 : Int) = (part s 0 1 : Int) := by
    rw [u64n, Nat.mod_eq_of_lt (by omega)]
    simp [part]
  rw [p0]
  rw [p1, p2, p3]
theorem four_step (h n : Nat) (hh : h < 18446744073709551616) : (bits_RotateLeft64.f (Go.bits .xor .u64 (h : Int) (IntKind.u64.wrap ((n : Int) * 11400714785074694791))) 23) = some (rotN (h ^^^ n * 11400714785074694791 % 18446744073709551616) 23 : Int) := by
  rw [show (11400714785074694791 : Int) = ((11400714785074694791 : Nat) : Int) from rfl, wrap_mul, xor_val _ _ hh (md _), show (23 : Int) = ((23 : Nat) : Int) from rfl, rl_val _ 23 (xx _ _ hh) (by decide) (by decide)]
theorem four_last (x : Nat) : IntKind.u64.wrap (IntKind.u64.wrap ((x : Int) * 14029467366897019727) + 1609587929392839161) = (((x * 14029467366897019727 % 18446744073709551616 + 1609587929392839161) % 18446744073709551616 : Nat) : Int) := by
  rw [show (14029467366897019727 : Int) = ((14029467366897019727 : Nat) : Int) from rfl, wrap_mul, show (1609587929392839161 : Int) = ((1609587929392839161 : Nat) : Int) from rfl, wrap_add2]
theorem word_step (h n : Nat) (hh : h < 18446744073709551616) : ((xxh_Round.f 0 (n : Int)).bind fun r => bits_RotateLeft64.f (Go.bits .xor .u64 (h : Int) r) 27) = some (rotN (h ^^^ rnd 0 n) 27 : Int) := by
  rw [show (0 : Int) = ((0 : Nat) : Int) from rfl, round_val, Option.bind_some, xor_val _ _ hh (rnd_lt _ _), show (27 : Int) = ((27 : Nat) : Int) from rfl, rl_val _ 27 (xor_lt _ _ hh (rnd_lt _ _)) (by decide) (by decide)]
theorem word_last (x : Nat) : IntKind.u64.wrap (IntKind.u64.wrap ((x : Int) * 11400714785074694791) + 9650029242287828579) = (((x * 11400714785074694791 % 18446744073709551616 + 9650029242287828579) % 18446744073709551616 : Nat) : Int) := by
  rw [show (11400714785074694791 : Int) = ((11400714785074694791 : Nat) : Int) from rfl, wrap_mul, show (9650029242287828579 : Int) = ((9650029242287828579 : Nat) : Int) from rfl, wrap_add2]
theorem tail_val (s : ByteArray) (hb : s.size < 9223372036854775000) : ∀ (q p h n k : Nat), p + n = s.size → n / 8 = q → q + 40 < k → h < 18446744073709551616 →
    xxh_tail.l0 k (h : Int) (s.extract p s.size) = some (restN s h p n : Int) := by
  intro q
  induction q with
  | zero =>
    intro p h n k hp hq hk hh
    obtain ⟨k, rfl⟩ : ∃ m, k = m + 1 := ⟨k - 1, by omega⟩
    have hs := extract_size s p (by omega)
    simp only [xxh_tail.l0]
    rw [if_neg (by omega)]
    have er : restN s h p n = endN s h p n := by
      unfold restN
      rw [hq, Nat.mul_zero, Nat.add_zero]
      have : n % 8 = n := by omega
      rw [this, wordsN_zero]
    rw [er]
    unfold endN
    by_cases h4 : 4 ≤ n
    · rw [if_pos (by omega), if_pos h4, four_val, four_step _ _ hh, Option.bind_some, four_last, extract2 s p 4 (by omega), part_extract, Nat.add_zero]
      have hs2 := extract_size s (p + 4) (by omega)
      have := tail_bytes (s.extract (p + 4) s.size) (n - 4) 0 (fourN h (part s p 4)) k (by omega) (by omega) (fourN_lt _ _)
      rw [bytesN_extract] at this
      exact this
    · rw [if_neg (by omega), if_neg h4]
      have := tail_bytes (s.extract p s.size) n 0 h k (by omega) (by omega) hh
      rw [bytesN_extract] at this
      exact this
  | succ q ih =>
    intro p h n k hp hq hk hh
    obtain ⟨k, rfl⟩ : ∃ m, k = m + 1 := ⟨k - 1, by omega⟩
    have hs := extract_size s p (by omega)
    have go := ih (p + 8) (wordN h (part s p 8)) (n - 8) k (by omega) (by omega) (by omega) (wordN_lt _ _)
    have hg := getWord_in k (s.extract p s.size) 0 (by omega) (by omega) (by omega)
    rw [part_extract, Nat.add_zero] at hg
    have hg' : vint_GetWord.f k (s.extract p s.size) 0 = some ((part s p 8 : Int), ((0 + 8 : Nat) : Int), 0) := hg
    simp only [xxh_tail.l0]
    rw [if_pos (by omega), hg', Option.bind_some]
    have hw := word_step h (part s p 8) hh
    rw [show (0 : Int) = ((0 : Nat) : Int) from rfl, round_val, Option.bind_some] at hw ⊢
    rw [hw, Option.bind_some, word_last, extract2 s p 8 (by omega)]
    have e1 : n / 8 = (n - 8) / 8 + 1 := by omega
    have e2 : n % 8 = (n - 8) % 8 := by omega
    have er : restN s h p n = restN s (wordN h (part s p 8)) (p + 8) (n - 8) := by
      unfold restN
      have e3 : p + 8 * ((n - 8) / 8 + 1) = p + 8 + 8 * ((n - 8) / 8) := by omega
      rw [e1, e2, e3]
      generalize (n - 8) / 8 = m
      rw [wordsN_succ]
    rw [er]
    exact go
end Go.Proofs.Ytckjigbhdndgdaa
