/- The plain statement behind VintAll: what Get tells of any bytes at any place is what the reference tells, and so are the words and what is written. Conditions: the arguments are of their Go kinds. -/
import Derived.Test.YtlcngcbiacmagaaPVintAllx1
import Derived.Test.YtlcngcbiacmagaaWnum
import Derived.Test.YtlcngcbiacmagaaPnum
import Derived.Test.YtlcngcbiacmagaaVget
namespace Go.Proofs.Ytlcngcbiacmagaa.Pure
open Go.RowKit Go.Proofs.Ytlcngcbiacmagaa Go.Proofs.Ytlcngcbiacmagaa.PBase Go.Proofs.Ytlcngcbiacmagaa.PVintAll Go.Proofs.YtlcngcbiacmagaaW.PrintWords Go.Proofs.YtlcngcbiacmagaaW.PrintLast Go.Proofs.YtlcngcbiacmagaaW.PrintMore
set_option linter.unusedVariables false
set_option linter.unusedSimpArgs false

theorem awake2_val : wringerlaw2_awake.f 20 = some true := by decide +kernel
theorem awake2_at (k : Nat) (h : 20 ≤ k) : wringerlaw2_awake.f k = some true := at_rounds wringerlaw2_awake.mono h awake2_val

theorem u64_nat (a : Int) (h : (Lit.int .u64 a).wf = true) : ∃ n : Nat, n < 18446744073709551616 ∧ a = (n : Int) := by
  simp only [Lit.wf, Bool.and_eq_true, decide_eq_true_eq] at h
  have h0 : 0 ≤ a := h.1
  have h1 : a ≤ 18446744073709551615 := h.2
  exact ⟨a.toNat, by omega, by omega⟩
theorem toList_inj {s t : ByteArray} (h : s.toList = t.toList) : s = t := by
  rw [ByteArray.toList_eq, ByteArray.toList_eq] at h
  cases s; cases t
  congr 1
  exact Array.toList_inj.1 h
theorem shr_nat (n i : Nat) (h : i < 64) : shr .u64 (n : Int) (i : Int) = ((n / 2 ^ i : Nat) : Int) := by
  unfold shr
  rw [Int.toNat_natCast, show IntKind.u64.bits = 64 from rfl, Nat.min_eq_left (by omega), Int.natCast_ediv, Int.natCast_pow]
  rfl
theorem word_inj (n m : Nat) (hn : n < 18446744073709551616) (hm : m < 18446744073709551616) (h : strOfNums (wordBytes (n : Int)) = strOfNums (wordBytes (m : Int))) : n = m := by
  have e1 := part_word (strOfNums (wordBytes (n : Int))) 0 n hn (fun i _ => by rw [Nat.zero_add])
  have e2 := part_word (strOfNums (wordBytes (n : Int))) 0 m hm (fun i _ => by rw [Nat.zero_add, h])
  omega

theorem or_lt (x y : Int) : ∃ n : Nat, n < 18446744073709551616 ∧ Go.bits .or .u64 x y = (n : Int) := by
  unfold Go.bits
  simp only []
  have h : ∀ z : Int, 0 ≤ IntKind.u64.wrap z ∧ IntKind.u64.wrap z < 18446744073709551616 := by
    intro z
    rw [IntKind.wrap_u64]
    omega
  obtain ⟨h1, h2⟩ := h ((BitVec.ofInt IntKind.u64.bits x ||| BitVec.ofInt IntKind.u64.bits y).toNat : Int)
  exact ⟨(IntKind.u64.wrap ((BitVec.ofInt IntKind.u64.bits x ||| BitVec.ofInt IntKind.u64.bits y).toNat : Int)).toNat, by omega, by omega⟩
theorem drop_getD (l : List Nat) (a i : Nat) : (l.drop a).getD i 0 = l.getD (a + i) 0 := by
  rw [List.getD_eq_getElem?_getD, List.getElem?_drop, ← List.getD_eq_getElem?_getD]
theorem or_step_at (s : ByteArray) (a i : Nat) (h : a + i < s.size) (hi : i < 9 ∨ (i = 9 ∧ ((lst s).drop a).getD i 0 % 128 ≤ 1)) :
    Go.bits .or .u64 (val (((lst s).drop a).take i) : Int) (shl .u64 (IntKind.u64.wrap (Go.bits .and .u8 (bt s ((a + i : Nat) : Int)) 127)) ((7 * i : Nat) : Int)) = (val (((lst s).drop a).take (i + 1)) : Int) := by
  have hl : i < ((lst s).drop a).length := by rw [List.length_drop, lst_length]; omega
  have hbe : ((lst s).drop a).getD i 0 = bn s (a + i) := drop_getD _ _ _
  rw [bt_bn, and127 _ (bn_lt s (a + i)), take_val _ i hl, hbe]
  rw [hbe] at hi
  have h1 := take_val_lt ((lst s).drop a) i (by omega)
  have h2 := shift_bound (bn s (a + i) % 128) i (Nat.mod_lt _ (by omega)) hi
  have h3 : 7 * i < 64 := by omega
  generalize val (((lst s).drop a).take i) = q at *
  generalize bn s (a + i) % 128 = c at *
  generalize 7 * i = m at *
  exact or_shl q c m h1 h3 h2
theorem lst_inj {s t : ByteArray} : s.toList = t.toList ↔ lst s = lst t := by
  constructor
  · intro h
    rw [toList_inj h]
  · intro h
    refine congrArg ByteArray.toList ?_
    have h3 : ∀ x : UInt8, ∀ y : UInt8, x.toNat = y.toNat → x = y := fun x y e => UInt8.toNat_inj.1 e
    have h4 : s.data.toList = t.data.toList := by
      have inj : ∀ (p q : List UInt8), p.map UInt8.toNat = q.map UInt8.toNat → p = q := by
        intro p
        induction p with
        | nil => intro q h; cases q with | nil => rfl | cons a b => simp at h
        | cons a b ih => intro q h; cases q with
          | nil => simp at h
          | cons c d => simp only [List.map_cons, List.cons.injEq] at h; rw [h3 _ _ h.1, ih _ h.2]
      exact inj _ _ h
    cases s; cases t
    congr 1
    exact Array.toList_inj.1 h4
/-- The first groups of a number that is written shortest are the number's. -/
theorem canon (l : List Nat) (i : Nat) (hl : i < l.length) (hi : i ≤ 9) (hb : ∀ x ∈ l, x < 256) (hp : ∀ j, j < i → 128 ≤ l.getD j 0) (hc : l.getD i 0 < 128) (h0 : i = 0 ∨ l.getD i 0 ≠ 0) : putL 10 (val (l.take (i + 1))) = l.take (i + 1) := by
  have hlen : (l.take (i + 1)).length = i + 1 := by rw [List.length_take]; omega
  have hg : ∀ j, j < i + 1 → (l.take (i + 1)).getD j 0 = l.getD j 0 := by
    intro j hj
    rw [List.getD_eq_getElem?_getD, List.getElem?_take_of_lt hj, ← List.getD_eq_getElem?_getD]
  refine put_val _ 10 (by omega) (fun x hx => hb x (List.mem_of_mem_take hx)) (fun j hj => ?_) (fun j hj => ?_) ?_
  · rw [hg j (by omega)]
    exact hp j (by omega)
  · rw [hg j (by omega)]
    obtain rfl : j = i := by omega
    exact ⟨hc, fun h => by omega⟩
  · intro e
    rw [e] at hlen
    simp at hlen
theorem lst_ext (s : ByteArray) (a b : Nat) : lst (s.extract a b) = ((lst s).drop a).take (b - a) := lst_extract s a b
theorem ref_read (s : ByteArray) (a : Nat) (ha : a ≤ s.size) (hb : s.size ≤ 100) : ∀ (d i k : Nat), i + d = 10 → d + 20 < k → (∀ j, j < i → 128 ≤ ((lst s).drop a).getD j 0) → 0 < d →
    wringerref1_GetVint.l0 k s (a : Int) (val (((lst s).drop a).take i) : Int) (i : Int) = some (getAns a (getV ((lst s).drop a) i d)) := by
  intro d
  induction d with
  | zero => intro i k _ _ _ h; omega
  | succ d ih =>
    intro i k hi hk hp _
    obtain ⟨k, rfl⟩ : ∃ m, k = m + 1 := ⟨k - 1, by omega⟩
    have go := ih (i + 1) k (by omega) (by omega)
    have ew : wrap64 ((a : Int) + (i : Int)) = ((a + i : Nat) : Int) := by unfold wrap64; omega
    have ew1 : wrap64 (((a + i : Nat) : Int) + 1) = ((a + i + 1 : Nat) : Int) := by unfold wrap64; omega
    have hlen : ((lst s).drop a).length = s.size - a := by rw [List.length_drop, lst_length]
    have hbl : ∀ x ∈ (lst s).drop a, x < 256 := fun x hx => lst_lt s x (List.mem_of_mem_drop hx)
    have hbe : ((lst s).drop a).getD i 0 = bn s (a + i) := drop_getD _ _ _
    simp only [wringerref1_GetVint.l0, getV]
    rw [ew, wrap7 i (by omega), ew1, if_pos (by omega)]
    by_cases he : s.size ≤ a + i
    · rw [if_pos (by omega), if_pos (by omega)]
      rfl
    rw [if_neg (by omega), if_pos (by omega), if_pos (by omega), if_pos (by omega), wrap_i i (by omega)]
    have hnl : ¬ ((lst s).drop a).length ≤ i := by omega
    have hbt : bt s ((a + i : Nat) : Int) = ((((lst s).drop a).getD i 0 : Nat) : Int) := by rw [bt_bn, hbe]
    by_cases hc : ((lst s).drop a).getD i 0 < 128
    · rw [if_neg hnl, if_pos hc]
      have hL : (bt s ((a + i : Nat) : Int)) < 128 := by rw [hbt]; omega
      rw [if_pos hL]
      have hex : lst (s.extract a (a + i + 1)) = ((lst s).drop a).take (i + 1) := by rw [lst_ext, show a + i + 1 - a = i + 1 by omega]
      by_cases hbig : i < 9 ∨ (i = 9 ∧ ((lst s).drop a).getD i 0 % 128 ≤ 1)
      · rw [or_step_at s a i (by omega) hbig]
        have hlt := take_val_lt ((lst s).drop a) (i + 1) (by omega)
        have hv : val (((lst s).drop a).take (i + 1)) < 18446744073709551616 := by
          rcases hbig with h9 | ⟨rfl, h9⟩
          · exact Nat.lt_of_lt_of_le hlt (Nat.le_trans (Nat.pow_le_pow_right (by omega) (show 7 * (i + 1) ≤ 63 by omega)) (by decide))
          · rw [take_val _ _ (by omega)]
            have := take_val_lt ((lst s).drop a) 9 (by omega)
            have h2 : ((lst s).drop a).getD 9 0 % 128 * 2 ^ 63 ≤ 1 * 2 ^ 63 := Nat.mul_le_mul_right _ h9
            omega
        rw [refput_val64 _ k hv (by omega), Option.bind_some, if_pos (by omega), if_pos (by omega), if_pos (by omega)]
        have hiff : ((putS (val (((lst s).drop a).take (i + 1)))).toList = (s.extract (a : Int).toNat ((a + i + 1 : Nat) : Int).toNat).toList) ↔ (i = 0 ∨ ((lst s).drop a).getD i 0 ≠ 0) := by
          rw [lst_inj, lst_put, Int.toNat_natCast, Int.toNat_natCast, hex]
          constructor
          · intro h
            by_cases hi0 : i = 0
            · exact Or.inl hi0
            · have hl : (putL 10 (val (((lst s).drop a).take (i + 1)))).length = i + 1 := by rw [h, List.length_take]; omega
              have := (put_shape10 _ hv i (by omega)).2 (by omega)
              rw [h] at this
              have e : (((lst s).drop a).take (i + 1)).getD i 0 = ((lst s).drop a).getD i 0 := by
                rw [List.getD_eq_getElem?_getD, List.getElem?_take_of_lt (by omega), ← List.getD_eq_getElem?_getD]
              rw [e] at this
              exact Or.inr (by omega)
          · intro h
            exact canon _ i (by omega) (by omega) hbl hp hc h
        by_cases h0 : i = 0 ∨ ((lst s).drop a).getD i 0 ≠ 0
        · rw [if_pos (hiff.2 h0), if_pos ⟨h0, by omega⟩]
          simp only [getAns, if_true]
          rfl
        · rw [if_neg (fun h => h0 (hiff.1 h)), if_neg (fun h => h0 h.1)]
          rfl
      · obtain ⟨n, hn, en⟩ := or_lt (val (((lst s).drop a).take i) : Int) (shl .u64 (IntKind.u64.wrap (Go.bits .and .u8 (bt s ((a + i : Nat) : Int)) 127)) ((7 * i : Nat) : Int))
        rw [en, refput_val64 n k hn (by omega), Option.bind_some, if_pos (by omega), if_pos (by omega), if_pos (by omega)]
        have hne : ¬ ((putS n).toList = (s.extract (a : Int).toNat ((a + i + 1 : Nat) : Int).toNat).toList) := by
          rw [lst_inj, lst_put, Int.toNat_natCast, Int.toNat_natCast, hex]
          intro h
          have hv := val_put 10 n (by omega)
          rw [h, take_val _ _ (by omega)] at hv
          obtain rfl : i = 9 := by omega
          have h2 : 2 * 2 ^ 63 ≤ ((lst s).drop a).getD 9 0 % 128 * 2 ^ 63 := Nat.mul_le_mul_right _ (by omega)
          omega
        rw [if_neg hne, if_neg (by omega)]
        rfl
    · rw [if_neg hnl, if_neg hc]
      have hL : ¬ (bt s ((a + i : Nat) : Int)) < 128 := by rw [hbt]; omega
      rw [if_neg hL]
      by_cases h9 : i < 9
      · rw [or_step_at s a i (by omega) (Or.inl h9)]
        refine go (fun j hj => ?_) (by omega)
        by_cases hji : j = i
        · subst hji; omega
        · exact hp j (by omega)
      · obtain rfl : d = 0 := by omega
        obtain rfl : i = 9 := by omega
        obtain ⟨k, rfl⟩ : ∃ m, k = m + 1 := ⟨k - 1, by omega⟩
        simp only [wringerref1_GetVint.l0, getV]
        rw [if_neg (by omega)]
        rfl
theorem refget_val (s : ByteArray) (i k : Nat) (h : i ≤ s.size) (hk : 40 < k) (hb : s.size ≤ 100) : wringerref1_GetVint.f k s (i : Int) = some (getAns i (getV ((lst s).drop i) 0 10)) := by
  unfold wringerref1_GetVint.f
  rw [if_neg (by omega), decide_eq_false (by omega)]
  obtain ⟨k, rfl⟩ : ∃ m, k = m + 1 := ⟨k - 1, by omega⟩
  simp only [wringerref1_GetVint.j0, if_neg Bool.false_ne_true]
  have := ref_read s i h hb 10 0 k (by omega) (by omega) (fun j hj => by omega) (by omega)
  rw [List.take_zero] at this
  exact this
theorem refget_out (s : ByteArray) (a : Int) (k : Nat) (h : a < 0 ∨ (s.size : Int) < a) (hk : 0 < k) : wringerref1_GetVint.f k s a = some (0, 0, 1) := by
  unfold wringerref1_GetVint.f
  obtain ⟨k, rfl⟩ : ∃ m, k = m + 1 := ⟨k - 1, by omega⟩
  by_cases h0 : a < 0
  · rw [if_pos h0]
    simp only [wringerref1_GetVint.j0, if_true]
  · rw [if_neg h0, decide_eq_true (by omega)]
    simp only [wringerref1_GetVint.j0, if_true]
theorem both_vint (s : ByteArray) (a : Int) (k : Nat) (hk : 40 < k) (hb : s.size ≤ 100) : ∃ t, vint_Get.f k s a = some t ∧ wringerref1_GetVint.f k s a = some t := by
  by_cases h : a < 0 ∨ (s.size : Int) < a
  · exact ⟨_, get_out s a k h, refget_out s a k h (by omega)⟩
  · obtain ⟨i, rfl⟩ : ∃ i : Nat, a = (i : Int) := ⟨a.toNat, by omega⟩
    exact ⟨_, get_val s i k (by omega) (by omega) (by omega), refget_val s i k (by omega) hk hb⟩
theorem both_word (s : ByteArray) (a : Int) (k : Nat) (hk : 40 < k) (hb : s.size ≤ 100) : ∃ t, vint_GetWord.f k s a = some t ∧ wringerref1_GetWord.f k s a = some t := by
  by_cases h : a < 0 ∨ (s.size : Int) < a
  · exact ⟨_, getWord_out k s a h, refWord_out k s a h (by omega)⟩
  · obtain ⟨i, rfl⟩ : ∃ i : Nat, a = (i : Int) := ⟨a.toNat, by omega⟩
    by_cases h8 : i + 8 ≤ s.size
    · exact ⟨_, getWord_in k s i h8 (by omega) (by omega), refWord_in k s i h8 (by omega) (by omega)⟩
    · exact ⟨_, getWord_short k s i (by omega) (by omega), refWord_short k s i (by omega) (by omega) (by omega) (by omega)⟩
theorem VintAll : wringerlaw2_VintAll.Pure := by
  intro a0 s a2 h0 _ _
  obtain ⟨n, hn, rfl⟩ := u64_nat a0 h0
  refine ⟨100, ?_⟩
  have aw := awake2_at 100 (by omega)
  unfold wringerlaw2_VintAll.f
  by_cases c : (s.size : Int) > 100
  · rw [if_pos c, aw]
    rfl
  · rw [if_neg c]
    obtain ⟨t, g1, g2⟩ := both_vint s a2 100 (by omega) (by omega)
    obtain ⟨u, w1, w2⟩ := both_word s a2 100 (by omega) (by omega)
    rw [g1, g2, w1, w2, put_val64 n 100 hn (by omega), refput_val64 n 100 hn (by omega), refw_val n 100 (by omega), aw]
    simp only [Option.bind_some, vint_Word.f, wringerlaw1_Err.f, if_true]
end Go.Proofs.Ytlcngcbiacmagaa.Pure
