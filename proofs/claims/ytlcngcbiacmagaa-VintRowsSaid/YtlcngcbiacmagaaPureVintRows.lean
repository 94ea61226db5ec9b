/- The plain statement behind VintRows: numbers in a row, in both forms, are told one behind the other. Conditions: the arguments are of their Go kinds. -/
import Derived.Test.YtlcngcbiacmagaaPVintRowsx1
import Derived.Test.YtlcngcbiacmagaaWnum
import Derived.Test.YtlcngcbiacmagaaVget
namespace Go.Proofs.Ytlcngcbiacmagaa.Pure
open Go.RowKit Go.Proofs.Ytlcngcbiacmagaa Go.Proofs.Ytlcngcbiacmagaa.PBase Go.Proofs.Ytlcngcbiacmagaa.PVintRows Go.Proofs.YtlcngcbiacmagaaW.PrintWords Go.Proofs.YtlcngcbiacmagaaW.PrintLast Go.Proofs.YtlcngcbiacmagaaW.PrintMore
set_option linter.unusedVariables false
set_option linter.unusedSimpArgs false

theorem awake2_val : wringerlaw2_awake.f 20 = some true := by decide +kernel
theorem awake2_at (k : Nat) (h : 20 ≤ k) : wringerlaw2_awake.f k = some true := at_rounds wringerlaw2_awake.mono h awake2_val

theorem u64_nat (a : Int) (h : (Lit.int .u64 a).wf = true) : ∃ n : Nat, n < 18446744073709551616 ∧ a = (n : Int) := by
  simp only [Lit.wf, Bool.and_eq_true, decide_eq_true_eq] at h
  have h0 : 0 ≤ a := h.1
  have h1 : a ≤ 18446744073709551615 := h.2
  exact ⟨a.toNat, by omega, by omega⟩
theorem toList_inj {s t : ByteArray} (h : s.toList = t.toList) : s = t := by
  rw [ByteArray.toList_eq, ByteArray.toList_eq] at h
  cases s; cases t
  congr 1
  exact Array.toList_inj.1 h
theorem shr_nat (n i : Nat) (h : i < 64) : shr .u64 (n : Int) (i : Int) = ((n / 2 ^ i : Nat) : Int) := by
  unfold shr
  rw [Int.toNat_natCast, show IntKind.u64.bits = 64 from rfl, Nat.min_eq_left (by omega), Int.natCast_ediv, Int.natCast_pow]
  rfl
theorem word_inj (n m : Nat) (hn : n < 18446744073709551616) (hm : m < 18446744073709551616) (h : strOfNums (wordBytes (n : Int)) = strOfNums (wordBytes (m : Int))) : n = m := by
  have e1 := part_word (strOfNums (wordBytes (n : Int))) 0 n hn (fun i _ => by rw [Nat.zero_add])
  have e2 := part_word (strOfNums (wordBytes (n : Int))) 0 m hm (fun i _ => by rw [Nat.zero_add, h])
  omega

/-- A number's bytes, in both forms. -/
def seg (x : Int) : List Nat := putL 10 x.toNat ++ lst (strOfNums (wordBytes x))
theorem seg_len (x : Int) : (seg x).length ≤ 18 := by
  unfold seg
  have := put_len 10 x.toNat
  rw [List.length_append, lst_length]
  have hs : (strOfNums (wordBytes x)).size = 8 := by rw [strOfNums_size]; rfl
  omega
theorem flat_len (l : List Int) : (l.flatMap seg).length ≤ 18 * l.length := by
  induction l with
  | nil => simp
  | cons x l ih =>
    have := seg_len x
    rw [List.flatMap_cons, List.length_append, List.length_cons]
    omega
theorem rd_get (l : List Int) (i : Nat) (h : i < l.length) : rd l (i : Int) = l[i] := by
  unfold rd
  rw [Int.toNat_natCast, List.getD_eq_getElem?_getD, List.getElem?_eq_getElem h]
  rfl
theorem get_drop (s : List Nat) (p j : Nat) : s.getD (p + j) 0 = (s.drop p).getD j 0 := by
  rw [List.getD_eq_getElem?_getD, List.getD_eq_getElem?_getD, List.getElem?_drop]
theorem rows_build (l : List Int) (hl : l.length ≤ 40) (hw : ∀ x ∈ l, (Lit.int .u64 x).wf = true) (r : Option Bool) : ∀ (d i k : Nat) (s : ByteArray), i + d = l.length → lst s = (l.take i).flatMap seg → d + 40 < k →
    (∀ k' S, k ≤ k' + d + 1 → k' < k → lst S = l.flatMap seg → wringerlaw2_VintRows.l1 k' l S 0 0 = r) → wringerlaw2_VintRows.l0 k l s (i : Int) = r := by
  intro d
  induction d with
  | zero =>
    intro i k s hi hs hk hr
    obtain ⟨k, rfl⟩ : ∃ m, k = m + 1 := ⟨k - 1, by omega⟩
    simp only [wringerlaw2_VintRows.l0]
    rw [if_neg (by omega)]
    refine hr k s (by omega) (by omega) ?_
    rw [hs, List.take_of_length_le (by omega)]
  | succ d ih =>
    intro i k s hi hs hk hr
    obtain ⟨k, rfl⟩ : ∃ m, k = m + 1 := ⟨k - 1, by omega⟩
    have hlt : i < l.length := by omega
    obtain ⟨n, hn, en⟩ := u64_nat l[i] (hw _ (List.getElem_mem hlt))
    have er := rd_get l i hlt
    rw [en] at er
    have hsz : s.size ≤ 18 * 40 := by
      rw [← lst_length, hs]
      have := flat_len (l.take i)
      rw [List.length_take] at this
      omega
    have hp := put_size n
    have hp2 := put_len 10 n
    have hws := word_size n
    have hsum : (s ++ putS n).size = s.size + (putS n).size := ByteArray.size_append
    have go := ih (i + 1) k ((s ++ putS n) ++ strOfNums (wordBytes (n : Int))) (by omega) (by
      rw [lst_append, lst_append, hs, lst_put, List.take_succ_eq_append_getElem hlt, List.flatMap_append, en]
      simp [seg]) (by omega) (fun k' S h1 h2 h3 => hr k' S (by omega) (by omega) h3)
    simp only [wringerlaw2_VintRows.l0]
    rw [if_pos (by omega), if_pos (by omega), er, put_val64 n k hn (by omega), Option.bind_some, if_pos (by omega), vint_Word.f, Option.bind_some, if_pos (by omega), wrap_i i (by omega)]
    exact go
theorem rows_read (l : List Int) (S : ByteArray) (hl : l.length ≤ 40) (hw : ∀ x ∈ l, (Lit.int .u64 x).wf = true) (hS : lst S = l.flatMap seg) : ∀ (d i k p : Nat), i + d = l.length → p = ((l.take i).flatMap seg).length → d + 40 < k →
    wringerlaw2_VintRows.l1 k l S (p : Int) (i : Int) = some true := by
  have hsz : S.size ≤ 18 * 40 := by
    rw [← lst_length, hS]
    have := flat_len l
    omega
  have hdrop : ∀ i, (lst S).drop ((l.take i).flatMap seg).length = (l.drop i).flatMap seg := by
    intro i
    rw [hS]
    conv => lhs; rw [← List.take_append_drop i l, List.flatMap_append]
    rw [List.take_append_drop, List.drop_left]
  have hple : ∀ i, ((l.take i).flatMap seg).length ≤ S.size := by
    intro i
    rw [← lst_length, hS]
    conv => rhs; rw [← List.take_append_drop i l, List.flatMap_append]
    rw [List.length_append]
    omega
  intro d
  induction d with
  | zero =>
    intro i k p hi hp hk
    obtain ⟨k, rfl⟩ : ∃ m, k = m + 1 := ⟨k - 1, by omega⟩
    have hpe : p = S.size := by
      rw [hp, List.take_of_length_le (by omega), ← hS, lst_length]
    have hd : (lst S).drop p = [] := List.drop_of_length_le (by rw [lst_length]; omega)
    simp only [wringerlaw2_VintRows.l1]
    rw [if_neg (by omega), get_val S p k (by omega) (by omega) (by omega), hd]
    have e : getAns p (getV [] 0 10) = (0, 0, 2) := rfl
    rw [e, Option.bind_some, if_pos (by omega)]
    simp only [wringerlaw1_Err.f, Option.bind_some, if_true]
    rw [awake2_at k (by omega)]
    rfl
  | succ d ih =>
    intro i k p hi hp hk
    obtain ⟨k, rfl⟩ : ∃ m, k = m + 1 := ⟨k - 1, by omega⟩
    have hlt : i < l.length := by omega
    obtain ⟨n, hn, en⟩ := u64_nat l[i] (hw _ (List.getElem_mem hlt))
    have er := rd_get l i hlt
    rw [en] at er
    have h1 := hdrop i
    rw [← hp, List.drop_eq_getElem_cons hlt, List.flatMap_cons, en] at h1
    have hseg : seg (n : Int) = putL 10 n ++ lst (strOfNums (wordBytes (n : Int))) := rfl
    rw [hseg, List.append_assoc] at h1
    have hws := word_size n
    have hwl : (lst (strOfNums (wordBytes (n : Int)))).length = 8 := by rw [lst_length]; exact hws
    have hpl : 0 < (putL 10 n).length := put_pos 9 n
    have hp2 := put_len 10 n
    have hnext : ((l.take (i + 1)).flatMap seg).length = p + (putL 10 n).length + 8 := by
      rw [List.take_succ_eq_append_getElem hlt, List.flatMap_append, List.length_append, ← hp, en]
      simp only [List.flatMap_cons, List.flatMap_nil, List.append_nil, hseg, List.length_append, hwl]
      omega
    have hle := hple (i + 1)
    rw [hnext] at hle
    have go := ih (i + 1) k (p + (putL 10 n).length + 8) (by omega) hnext.symm (by omega)
    have hg := get_val S p k (by omega) (by omega) (by omega)
    rw [h1, getV_put n hn] at hg
    have ea : getAns p (n, (putL 10 n).length, 0) = ((n : Int), ((p + (putL 10 n).length : Nat) : Int), 0) := rfl
    rw [ea] at hg
    have hword := getWord_in k S (p + (putL 10 n).length) (by omega) (by omega) (by omega)
    have hpart : part S (p + (putL 10 n).length) 8 = n := part_word S (p + (putL 10 n).length) n hn (fun m hm => by
      have e1 : bn S (p + (putL 10 n).length + m) = (lst S).getD (p + ((putL 10 n).length + m)) 0 := by rw [Nat.add_assoc]; rfl
      rw [e1, get_drop, h1, List.getD_eq_getElem?_getD, List.getElem?_append_right (by omega), Nat.add_sub_cancel_left, List.getElem?_append_left (by omega)]
      rfl)
    rw [hpart] at hword
    simp only [wringerlaw2_VintRows.l1]
    rw [if_pos (by omega), hg, Option.bind_some, hword, Option.bind_some, if_pos (by omega), er, if_pos rfl, if_pos rfl]
    simp only [wringerlaw1_Err.f, Option.bind_some]
    have e0 : wrap64 (0 + 0) = 0 := by unfold wrap64; omega
    rw [e0, if_pos rfl, if_neg (by omega), if_neg (by omega), wrap_i i (by omega)]
    exact go
theorem VintRows : wringerlaw2_VintRows.Pure := by
  intro l _ _ hw
  refine ⟨200, ?_⟩
  unfold wringerlaw2_VintRows.f
  by_cases c : (l.length : Int) > 40
  · rw [if_pos c, awake2_at 200 (by omega)]
    rfl
  · rw [if_neg c]
    refine rows_build l (by omega) hw (some true) l.length 0 200 ⟨#[]⟩ (by omega) rfl (by omega) (fun k' S h1 h2 h3 => ?_)
    exact rows_read l S (by omega) hw h3 l.length 0 k' 0 (by omega) rfl (by omega)
end Go.Proofs.Ytlcngcbiacmagaa.Pure
