/- What plain.Put, plain.Get and their references come to: eight bytes a number, in order. -/
import Derived.Test.YtlcngcbiacmagaaWnum
import Derived.Test.YtlcngcbiacmagaaGBuild
import Derived.Test.YtlcngcbiacmagaaPBasex1
import Derived.Test.YtlcngcbiacmagaaPBasex2
import Derived.Test.YtlcngcbiacmagaaPBasex3
namespace Go.Proofs.Ytlcngcbiacmagaa
open Go.RowKit Go.Proofs.YtlcngcbiacmagaaW.PrintWords Go.Proofs.YtlcngcbiacmagaaW.PrintLast Go.Proofs.YtlcngcbiacmagaaW.PrintMore Go.Proofs.Ytlcngcbiacmagaa.PReader Go.Proofs.Ytlcngcbiacmagaa.PBase
set_option linter.unusedVariables false
theorem nums_app (a b : List Int) : strOfNums (a ++ b) = strOfNums a ++ strOfNums b := by
  apply lst_inj
  rw [lst_append, lst_nums, lst_nums, lst_nums]
  unfold nat8
  rw [List.map_append]
/-- The reference's word at a place. -/
theorem ref_loop (s : ByteArray) (i : Nat) (h : i + 8 ≤ s.size) (hb : s.size < 9223372036854775000) : ∀ (d j k : Nat), j + d = 8 → d < k →
    wringerref1_GetWord.l0 k s (i : Int) (part s i j : Int) (j : Int) = some ((part s i 8 : Int), ((i + 8 : Nat) : Int), 0) := by
  intro d
  induction d with
  | zero =>
    intro j k hj hk
    obtain ⟨k, rfl⟩ : ∃ m, k = m + 1 := ⟨k - 1, by omega⟩
    obtain rfl : j = 8 := by omega
    simp only [wringerref1_GetWord.l0]
    rw [if_neg (by omega)]
    have e2 : wrap64 ((i : Int) + 8) = ((i + 8 : Nat) : Int) := by unfold wrap64; omega
    rw [e2]
  | succ d ih =>
    intro j k hj hk
    obtain ⟨k, rfl⟩ : ∃ m, k = m + 1 := ⟨k - 1, by omega⟩
    have go := ih (j + 1) k (by omega) (by omega)
    have hp := part_step s i j (by omega)
    have e8 : wrap64 (8 * (j : Int)) = ((8 * j : Nat) : Int) := by unfold wrap64; omega
    have e1 : wrap64 ((i : Int) + (j : Int)) = ((i + j : Nat) : Int) := by unfold wrap64; omega
    simp only [wringerref1_GetWord.l0]
    rw [if_pos (by omega), e1, e8, if_pos (by omega), if_pos (by omega), if_pos (by omega), bt_bn, hp, wrap_i j (by omega)]
    exact go
theorem refWord_in (k : Nat) (s : ByteArray) (i : Nat) (h : i + 8 ≤ s.size) (hk : 10 < k) (hb : s.size < 9223372036854775000) : wringerref1_GetWord.f k s (i : Int) = some ((part s i 8 : Int), ((i + 8 : Nat) : Int), 0) := by
  obtain ⟨k, rfl⟩ : ∃ m, k = m + 1 := ⟨k - 1, by omega⟩
  unfold wringerref1_GetWord.f
  rw [if_neg (by omega), decide_eq_false (by omega)]
  simp only [wringerref1_GetWord.j0]
  rw [if_neg Bool.false_ne_true]
  have e2 : wrap64 ((i : Int) + 8) = ((i + 8 : Nat) : Int) := by unfold wrap64; omega
  rw [e2, if_neg (by omega)]
  exact ref_loop s i h hb 8 0 k (by omega) (by omega)
theorem refWord_short (k : Nat) (s : ByteArray) (i : Nat) (h : i ≤ s.size) (h8 : s.size < i + 8) (hk : 10 < k) (hb : s.size < 9223372036854775000) : wringerref1_GetWord.f k s (i : Int) = some (0, 0, 2) := by
  obtain ⟨k, rfl⟩ : ∃ m, k = m + 1 := ⟨k - 1, by omega⟩
  unfold wringerref1_GetWord.f
  rw [if_neg (by omega), decide_eq_false (by omega)]
  simp only [wringerref1_GetWord.j0]
  rw [if_neg Bool.false_ne_true]
  have e2 : wrap64 ((i : Int) + 8) = ((i + 8 : Nat) : Int) := by unfold wrap64; omega
  rw [e2, if_pos (by omega)]
theorem refWord_out (k : Nat) (s : ByteArray) (a : Int) (h : a < 0 ∨ (s.size : Int) < a) (hk : 10 < k) : wringerref1_GetWord.f k s a = some (0, 0, 1) := by
  obtain ⟨k, rfl⟩ : ∃ m, k = m + 1 := ⟨k - 1, by omega⟩
  unfold wringerref1_GetWord.f
  by_cases h0 : a < 0
  · rw [if_pos h0]
    simp only [wringerref1_GetWord.j0, if_true]
  · rw [if_neg h0, decide_eq_true (by omega)]
    simp only [wringerref1_GetWord.j0, if_true]
theorem shr_nat' (n i : Nat) (h : i < 64) : shr .u64 (n : Int) (i : Int) = ((n / 2 ^ i : Nat) : Int) := by
  unfold shr
  rw [Int.toNat_natCast, show IntKind.u64.bits = 64 from rfl, Nat.min_eq_left (by omega), Int.natCast_ediv, Int.natCast_pow]
  rfl
/-- The reference's word of a number. -/
def wpart (n : Int) (j : Nat) : List Int := (wordBytes n).take j ++ List.replicate (8 - j) 0
theorem wpart_set (n j : Nat) (h : j < 8) : (wpart (n : Int) j).set j (((n / 2 ^ (8 * j) : Nat) : Int) % 256) = wpart (n : Int) (j + 1) := by
  unfold wpart wordBytes
  match j, h with
  | 0, _ => simp
  | 1, _ => simp [List.replicate]
  | 2, _ => simp [List.replicate]
  | 3, _ => simp [List.replicate]
  | 4, _ => simp [List.replicate]
  | 5, _ => simp [List.replicate]
  | 6, _ => simp [List.replicate]
  | 7, _ => simp
theorem wpart_length (n : Int) (j : Nat) (h : j ≤ 8) : (wpart n j).length = 8 := by
  unfold wpart
  rw [List.length_append, List.length_take, List.length_replicate]
  have : (wordBytes n).length = 8 := rfl
  omega
theorem refw_loop (n : Nat) : ∀ (d j k : Nat), j + d = 8 → d < k → wringerref1_Word.l0 k (n : Int) (wpart (n : Int) j) (j : Int) = some (strOfNums (wordBytes (n : Int))) := by
  intro d
  induction d with
  | zero =>
    intro j k hj hk
    obtain ⟨k, rfl⟩ : ∃ m, k = m + 1 := ⟨k - 1, by omega⟩
    obtain rfl : j = 8 := by omega
    simp only [wringerref1_Word.l0]
    rw [if_neg (by omega)]
    have e : wpart (n : Int) 8 = wordBytes (n : Int) := rfl
    rw [e]
  | succ d ih =>
    intro j k hj hk
    obtain ⟨k, rfl⟩ : ∃ m, k = m + 1 := ⟨k - 1, by omega⟩
    have go := ih (j + 1) k (by omega) (by omega)
    have hl := wpart_length (n : Int) j (by omega)
    have hs := wpart_set n j (by omega)
    have e8 : wrap64 (8 * (j : Int)) = ((8 * j : Nat) : Int) := by unfold wrap64; omega
    have hsh := shr_nat' n (8 * j) (by omega)
    simp only [wringerref1_Word.l0]
    rw [e8, hsh, if_pos (by omega), if_pos (by omega), if_pos (by omega), if_pos (by omega), Int.toNat_natCast, hs, wrap_i j (by omega)]
    exact go
theorem refw_val (n k : Nat) (hk : 9 < k) : wringerref1_Word.f k (n : Int) = some (strOfNums (wordBytes (n : Int))) := by
  unfold wringerref1_Word.f
  rw [if_pos (by omega)]
  exact refw_loop n 8 0 k (by omega) (by omega)
/-- The numbers of bytes. -/
def wordsOf (s : ByteArray) (j : Nat) : List Int := (List.range j).map fun i => wrap64 ((part s (8 * i) 8 : Nat) : Int)
theorem words_snoc (s : ByteArray) (j : Nat) : wordsOf s (j + 1) = wordsOf s j ++ [wrap64 ((part s (8 * j) 8 : Nat) : Int)] := by
  unfold wordsOf
  rw [List.range_succ, List.map_append, List.map_singleton]
theorem words_length (s : ByteArray) (j : Nat) : (wordsOf s j).length = j := by simp [wordsOf]
theorem get_loop (s : ByteArray) (m : Nat) (hm : s.size = 8 * m) (hb : s.size < 100000) : ∀ (d j k : Nat), j + d = m → d + 20 < k →
    plain_Get.l0 k s (wordsOf s j) ((8 * j : Nat) : Int) = some (wordsOf s m, true) := by
  intro d
  induction d with
  | zero =>
    intro j k hj hk
    obtain ⟨k, rfl⟩ : ∃ m, k = m + 1 := ⟨k - 1, by omega⟩
    simp only [plain_Get.l0]
    rw [if_neg (by omega)]
    obtain rfl : j = m := by omega
    rfl
  | succ d ih =>
    intro j k hj hk
    obtain ⟨k, rfl⟩ : ∃ m, k = m + 1 := ⟨k - 1, by omega⟩
    have go := ih (j + 1) k (by omega) (by omega)
    have hl := words_length s j
    have hw := words_snoc s j
    have hg := getWord_in k s (8 * j) (by omega) (by omega) (by omega)
    simp only [plain_Get.l0]
    rw [if_pos (by omega), hg, Option.bind_some, if_pos (by omega), ← hw]
    exact go
theorem pget_val (s : ByteArray) (m k : Nat) (hm : s.size = 8 * m) (hb : s.size < 100000) (hk : m + 20 < k) : plain_Get.f k s = some (wordsOf s m, true) := by
  unfold plain_Get.f
  rw [if_pos (by omega)]
  exact get_loop s m hm hb m 0 k (by omega) hk
theorem pget_none (s : ByteArray) (k : Nat) (h : s.size % 8 ≠ 0) : plain_Get.f k s = some ([], false) := by
  unfold plain_Get.f
  rw [if_neg (by omega)]
theorem refget_loop (s : ByteArray) (m : Nat) (hm : s.size = 8 * m) (hb : s.size < 100000) : ∀ (d j k : Nat), j + d = m → d + 20 < k →
    wringerref20_GetPlain.l0 k s (wordsOf s j) ((8 * j : Nat) : Int) = some (wordsOf s m, true) := by
  intro d
  induction d with
  | zero =>
    intro j k hj hk
    obtain ⟨k, rfl⟩ : ∃ m, k = m + 1 := ⟨k - 1, by omega⟩
    simp only [wringerref20_GetPlain.l0]
    rw [if_neg (by omega)]
    obtain rfl : j = m := by omega
    rfl
  | succ d ih =>
    intro j k hj hk
    obtain ⟨k, rfl⟩ : ∃ m, k = m + 1 := ⟨k - 1, by omega⟩
    have go := ih (j + 1) k (by omega) (by omega)
    have hl := words_length s j
    have hw := words_snoc s j
    have hg := refWord_in k s (8 * j) (by omega) (by omega) (by omega)
    have e8 : wrap64 (((8 * j : Nat) : Int) + 8) = ((8 * (j + 1) : Nat) : Int) := by unfold wrap64; omega
    simp only [wringerref20_GetPlain.l0]
    rw [if_pos (by omega), hg, Option.bind_some, if_pos (by omega), ← hw, e8]
    exact go
theorem refpget_val (s : ByteArray) (m k : Nat) (hm : s.size = 8 * m) (hb : s.size < 100000) (hk : m + 20 < k) : wringerref20_GetPlain.f k s = some (wordsOf s m, true) := by
  unfold wringerref20_GetPlain.f
  rw [if_pos (by omega)]
  exact refget_loop s m hm hb m 0 k (by omega) hk
theorem refpget_none (s : ByteArray) (k : Nat) (h : s.size % 8 ≠ 0) : wringerref20_GetPlain.f k s = some ([], false) := by
  unfold wringerref20_GetPlain.f
  rw [if_neg (by omega)]
theorem pput_val (l : List Int) (h : l.length * 8 ≤ 140737488355328) : plain_Put.f l = some (strOfNums (numBytes l)) := by
  unfold plain_Put.f
  rw [if_pos h]
theorem u64_wrap (v : Int) : ∃ n : Nat, n < 18446744073709551616 ∧ IntKind.u64.wrap v = (n : Int) := by
  rw [IntKind.wrap_u64]
  exact ⟨(v % 18446744073709551616).toNat, by omega, by omega⟩
theorem strNum_size (l : List Int) : (strOfNums (numBytes l)).size = 8 * l.length := by rw [strOfNums_size, numBytes_length]
theorem refput_lp (l : List Int) (hb : l.length < 10000) : ∀ (d j k : Nat), j + d = l.length → d + 20 < k →
    wringerref20_Plain.l0 k l (strOfNums (numBytes (l.take j))) (j : Int) = some (strOfNums (numBytes l)) := by
  intro d
  induction d with
  | zero =>
    intro j k hj hk
    obtain ⟨k, rfl⟩ : ∃ m, k = m + 1 := ⟨k - 1, by omega⟩
    simp only [wringerref20_Plain.l0]
    rw [if_neg (by omega)]
    obtain rfl : j = l.length := by omega
    rw [List.take_length]
  | succ d ih =>
    intro j k hj hk
    obtain ⟨k, rfl⟩ : ∃ m, k = m + 1 := ⟨k - 1, by omega⟩
    have go := ih (j + 1) k (by omega) (by omega)
    have hn := numBytes_snoc l j (by omega)
    have hsz := strNum_size (l.take j)
    rw [List.length_take, Nat.min_eq_left (by omega)] at hsz
    obtain ⟨n, hn1, hn2⟩ := u64_wrap (rd l (j : Int))
    have hrd : rd l (j : Int) = l.getD j 0 := by unfold rd; rw [Int.toNat_natCast]
    have hws := word_size n
    simp only [wringerref20_Plain.l0]
    rw [if_pos (by omega), if_pos (by omega), hn2, refw_val n k (by omega), Option.bind_some, if_pos (by omega), ← nums_app, wrap_i j (by omega)]
    rw [← hn2, hrd, ← hn]
    exact go
theorem refpput_val (l : List Int) (k : Nat) (hb : l.length < 10000) (hk : l.length + 20 < k) : wringerref20_Plain.f k l = some (strOfNums (numBytes l)) := by
  have h := refput_lp l hb l.length 0 k (by omega) hk
  rw [List.take_zero] at h
  exact h
theorem sameN_loop (a : List Int) (hb : a.length < 9223372036854775807) : ∀ (d i k : Nat), i + d = a.length → d < k → wringerref7_SameNums.l0 k a a (i : Int) = some true := by
  intro d
  induction d with
  | zero =>
    intro i k hi hk
    obtain ⟨k, rfl⟩ : ∃ m, k = m + 1 := ⟨k - 1, by omega⟩
    simp only [wringerref7_SameNums.l0]
    rw [if_neg (by omega)]
  | succ d ih =>
    intro i k hi hk
    obtain ⟨k, rfl⟩ : ∃ m, k = m + 1 := ⟨k - 1, by omega⟩
    simp only [wringerref7_SameNums.l0]
    rw [if_pos (by omega), if_pos (by omega), if_pos (by omega), if_pos trivial, wrap_i i (by omega)]
    exact ih (i + 1) k (by omega) (by omega)
theorem sameN_val (a : List Int) (k : Nat) (hk : a.length < k) (hb : a.length < 9223372036854775807) : wringerref7_SameNums.f k a a = some true := by
  unfold wringerref7_SameNums.f
  rw [if_pos rfl]
  exact sameN_loop a hb a.length 0 k (by omega) hk
theorem awake20_val : wringerlaw20_awake.f 40 = some true := by decide +kernel
theorem awake20_at (k : Nat) (h : 40 ≤ k) : wringerlaw20_awake.f k = some true := at_rounds wringerlaw20_awake.mono h awake20_val
/-- A number's bytes stand eight behind eight. -/
theorem bn_nums (l : List Int) : ∀ (j m : Nat), j < l.length → m < 8 → bn (strOfNums (numBytes l)) (8 * j + m) = bn (strOfNums (wordBytes (IntKind.u64.wrap (l.getD j 0)))) m := by
  induction l with
  | nil => intro j m h; simp at h
  | cons v l ih =>
    intro j m hj hm
    have e : numBytes (v :: l) = wordBytes (IntKind.u64.wrap v) ++ numBytes l := rfl
    rw [e, nums_app]
    obtain ⟨n, _, hn⟩ := u64_wrap v
    have hsz := word_size n
    rw [hn]
    cases j with
    | zero =>
      rw [Nat.mul_zero, Nat.zero_add, bn_append_left _ _ m (by omega)]
      have : (v :: l).getD 0 0 = v := rfl
      rw [this, hn]
    | succ j =>
      have e2 : 8 * (j + 1) + m = (strOfNums (wordBytes (n : Int))).size + (8 * j + m) := by omega
      rw [e2, bn_append_right, ih j m (by simp at hj; omega) hm]
      rfl
theorem u64_of_wrap (n : Nat) (h : n < 18446744073709551616) : IntKind.u64.wrap (wrap64 (n : Int)) = (n : Int) := by
  by_cases h1 : n < 9223372036854775808
  · rw [wrap_nat n h1, IntKind.wrap_u64]
    omega
  · have e : wrap64 (n : Int) = (n : Int) - 18446744073709551616 := by unfold wrap64; omega
    rw [e, IntKind.wrap_u64]
    omega
theorem wrap_back (v : Int) (h : (Lit.int .i64 v).wf = true) : wrap64 (IntKind.u64.wrap v) = v := by
  simp only [Lit.wf, Bool.and_eq_true, decide_eq_true_eq] at h
  have h0 : -9223372036854775808 ≤ v := h.1
  have h1 : v ≤ 9223372036854775807 := h.2
  rw [IntKind.wrap_u64]
  by_cases h2 : 0 ≤ v
  · have e : v % 18446744073709551616 = v := by omega
    rw [e]
    unfold wrap64
    omega
  · have e : v % 18446744073709551616 = v + 18446744073709551616 := by omega
    rw [e]
    unfold wrap64
    omega
/-- Numbers are told again by their bytes. -/
theorem words_back (l : List Int) (h : ∀ x ∈ l, (Lit.int .i64 x).wf = true) : wordsOf (strOfNums (numBytes l)) l.length = l := by
  apply List.ext_getElem
  · rw [words_length]
  · intro i h1 h2
    simp only [wordsOf, List.getElem_map, List.getElem_range]
    have hg : l.getD i 0 = l[i] := by rw [List.getD_eq_getElem?_getD, List.getElem?_eq_getElem h2]; rfl
    obtain ⟨n, hn, e⟩ := u64_wrap l[i]
    rw [part_word _ (8 * i) n hn (fun m hm => by rw [bn_nums l i m h2 hm, hg, e]), ← e]
    exact wrap_back _ (h _ (List.getElem_mem h2))
/-- Bytes are told again by their numbers. -/
theorem bytes_back (s : ByteArray) (m : Nat) (hm : s.size = 8 * m) : strOfNums (numBytes (wordsOf s m)) = s := by
  apply lst_inj
  have hlen : (lst (strOfNums (numBytes (wordsOf s m)))).length = 8 * m := by rw [lst_length, strNum_size, words_length]
  apply List.ext_getElem
  · rw [hlen, lst_length, hm]
  · intro i h1 h2
    have a1 : (lst (strOfNums (numBytes (wordsOf s m))))[i] = bn (strOfNums (numBytes (wordsOf s m))) i := by
      unfold bn
      rw [List.getD_eq_getElem?_getD, List.getElem?_eq_getElem h1]
      rfl
    have a2 : (lst s)[i] = bn s i := by
      unfold bn
      rw [List.getD_eq_getElem?_getD, List.getElem?_eq_getElem h2]
      rfl
    rw [a1, a2]
    have hi : i = 8 * (i / 8) + i % 8 := by omega
    have hj : i / 8 < m := by omega
    have hr : i % 8 < 8 := by omega
    rw [hi]
    generalize i / 8 = j at *
    generalize i % 8 = t at *
    rw [bn_nums _ j t (by rw [words_length]; exact hj) hr]
    have hg : (wordsOf s m).getD j 0 = wrap64 ((part s (8 * j) 8 : Nat) : Int) := by
      unfold wordsOf
      rw [List.getD_eq_getElem?_getD, List.getElem?_map, List.getElem?_range hj, Option.map_some, Option.getD_some]
    have hw : IntKind.u64.wrap (wrap64 ((part s (8 * j) 8 : Nat) : Int)) = ((part s (8 * j) 8 : Nat) : Int) := by
      exact u64_of_wrap _ (part8_lt s (8 * j))
    rw [hg, hw, bn_word _ t hr]
    exact part_bytes s (8 * j) 8 t hr
end Go.Proofs.Ytlcngcbiacmagaa
