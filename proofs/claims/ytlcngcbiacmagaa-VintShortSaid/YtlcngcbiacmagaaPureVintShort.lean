/- The plain statement behind VintShort: a number has as few bytes as groups of seven bits, and all but the last one are 128 or more. Conditions: the arguments are of their Go kinds. -/
import Derived.Test.YtlcngcbiacmagaaPVintShortx1
import Derived.Test.YtlcngcbiacmagaaWnum
import Derived.Test.YtlcngcbiacmagaaVget
namespace Go.Proofs.Ytlcngcbiacmagaa.Pure
open Go.RowKit Go.Proofs.Ytlcngcbiacmagaa Go.Proofs.Ytlcngcbiacmagaa.PBase Go.Proofs.Ytlcngcbiacmagaa.PVintShort Go.Proofs.YtlcngcbiacmagaaW.PrintWords Go.Proofs.YtlcngcbiacmagaaW.PrintLast Go.Proofs.YtlcngcbiacmagaaW.PrintMore
set_option linter.unusedVariables false
set_option linter.unusedSimpArgs false

theorem awake2_val : wringerlaw2_awake.f 20 = some true := by decide +kernel
theorem awake2_at (k : Nat) (h : 20 ≤ k) : wringerlaw2_awake.f k = some true := at_rounds wringerlaw2_awake.mono h awake2_val

theorem u64_nat (a : Int) (h : (Lit.int .u64 a).wf = true) : ∃ n : Nat, n < 18446744073709551616 ∧ a = (n : Int) := by
  simp only [Lit.wf, Bool.and_eq_true, decide_eq_true_eq] at h
  have h0 : 0 ≤ a := h.1
  have h1 : a ≤ 18446744073709551615 := h.2
  exact ⟨a.toNat, by omega, by omega⟩
theorem toList_inj {s t : ByteArray} (h : s.toList = t.toList) : s = t := by
  rw [ByteArray.toList_eq, ByteArray.toList_eq] at h
  cases s; cases t
  congr 1
  exact Array.toList_inj.1 h
theorem shr_nat (n i : Nat) (h : i < 64) : shr .u64 (n : Int) (i : Int) = ((n / 2 ^ i : Nat) : Int) := by
  unfold shr
  rw [Int.toNat_natCast, show IntKind.u64.bits = 64 from rfl, Nat.min_eq_left (by omega), Int.natCast_ediv, Int.natCast_pow]
  rfl
theorem word_inj (n m : Nat) (hn : n < 18446744073709551616) (hm : m < 18446744073709551616) (h : strOfNums (wordBytes (n : Int)) = strOfNums (wordBytes (m : Int))) : n = m := by
  have e1 := part_word (strOfNums (wordBytes (n : Int))) 0 n hn (fun i _ => by rw [Nat.zero_add])
  have e2 := part_word (strOfNums (wordBytes (n : Int))) 0 m hm (fun i _ => by rw [Nat.zero_add, h])
  omega

/-- How many groups a number has, as the law counts them. -/
theorem count_loop (n : Nat) (s : ByteArray) (r : Option Bool) : ∀ (f m j k : Nat), m < 128 ^ f → f < k → j + f < 1000 →
    (∀ k', k ≤ k' + f + 1 → k' < k → (if (s.size : Int) = ((j + (if m = 0 then 0 else (putL f m).length) : Nat) : Int) then wringerlaw2_VintShort.l1 k' s ((j + (if m = 0 then 0 else (putL f m).length) : Nat) : Int) 0 else some false) = r) →
    wringerlaw2_VintShort.l0 k s (j : Int) (m : Int) = r := by
  intro f
  induction f with
  | zero =>
    intro m j k hm hk hj hr
    obtain ⟨k, rfl⟩ : ∃ m, k = m + 1 := ⟨k - 1, by omega⟩
    have h0 : m = 0 := by simpa using hm
    simp only [wringerlaw2_VintShort.l0]
    rw [if_neg (by omega)]
    have := hr k (by omega) (by omega)
    rw [if_pos h0] at this
    exact this
  | succ f ih =>
    intro m j k hm hk hj hr
    obtain ⟨k, rfl⟩ : ∃ m, k = m + 1 := ⟨k - 1, by omega⟩
    simp only [wringerlaw2_VintShort.l0]
    by_cases h0 : m = 0
    · rw [if_neg (by omega)]
      have := hr k (by omega) (by omega)
      rw [if_pos h0] at this
      exact this
    · rw [if_pos (by omega)]
      have e1 : wrap64 ((j : Int) + 1) = ((j + 1 : Nat) : Int) := wrap_i j (by omega)
      have e2 : (m : Int) / 128 = ((m / 128 : Nat) : Int) := by omega
      rw [e1, e2]
      have hd : m / 128 < 128 ^ f := by rw [Nat.pow_succ] at hm; exact Nat.div_lt_of_lt_mul (by omega)
      by_cases hj2 : j + 1 < 1000
      · refine ih (m / 128) (j + 1) k hd (by omega) (by omega) (fun k' h1 h2 => ?_)
        have := hr k' (by omega) (by omega)
        rw [if_neg h0] at this
        have e : j + (putL (f + 1) m).length = j + 1 + (if m / 128 = 0 then 0 else (putL f (m / 128)).length) := by
          by_cases hs : m < 128
          · have h3 : m / 128 = 0 := by omega
            rw [if_pos h3]
            simp only [putL]
            rw [if_pos hs]
            simp
          · have h3 : ¬ m / 128 = 0 := by omega
            rw [if_neg h3]
            simp only [putL]
            rw [if_neg hs, List.length_cons]
            omega
        rw [e] at this
        exact this
      · exact absurd hj2 (by
          intro h
          omega)
theorem check_loop (n : Nat) (hn : n < 18446744073709551616) : ∀ (d i k : Nat), i + d = (putS n).size → d + 22 < k →
    wringerlaw2_VintShort.l1 k (putS n) ((putS n).size : Int) (i : Int) = some true := by
  have hsz := put_size n
  have hlen := put_len 10 n
  intro d
  induction d with
  | zero =>
    intro i k hi hk
    obtain ⟨k, rfl⟩ : ∃ m, k = m + 1 := ⟨k - 1, by omega⟩
    simp only [wringerlaw2_VintShort.l1]
    rw [if_neg (by omega), awake2_at k (by omega)]
    rfl
  | succ d ih =>
    intro i k hi hk
    obtain ⟨k, rfl⟩ : ∃ m, k = m + 1 := ⟨k - 1, by omega⟩
    have go := ih (i + 1) k (by omega) (by omega)
    obtain ⟨h1, h2⟩ := put_shape10 n hn i (by omega)
    have hb : bn (putS n) i = (putL 10 n).getD i 0 := by unfold bn; rw [lst_put]
    have hw : wrap64 (((putS n).size : Int) - 1) = ((putS n).size : Int) - 1 := by unfold wrap64; omega
    have ht : ((decide (bt (putS n) (i : Int) ≥ 128)) != (decide ((i : Int) < wrap64 (((putS n).size : Int) - 1)))) = false := by
      rw [bt_bn, hw]
      by_cases he : i + 1 = (putL 10 n).length
      · have := (h2 he).1
        rw [decide_eq_false (by omega), decide_eq_false (by omega)]
        rfl
      · have := h1 (by omega)
        rw [decide_eq_true (by omega), decide_eq_true (by omega)]
        rfl
    simp only [wringerlaw2_VintShort.l1]
    rw [if_pos (by omega), if_pos (by omega), if_pos (by omega), ht, if_neg Bool.false_ne_true, wrap_i i (by omega)]
    exact go
theorem VintShort : wringerlaw2_VintShort.Pure := by
  intro a0 a1 h0 h1
  obtain ⟨n0, hn0, rfl⟩ := u64_nat a0 h0
  obtain ⟨s, hs, es⟩ : ∃ s : Nat, s < 64 ∧ Int.tmod a1 64 = (s : Int) := by
    have hb : 0 ≤ a1 ∧ a1 ≤ 255 := by
      simp only [Lit.wf, Bool.and_eq_true, decide_eq_true_eq] at h1
      exact h1
    rw [Int.tmod_eq_emod_of_nonneg hb.1]
    exact ⟨(a1 % 64).toNat, by omega, by omega⟩
  refine ⟨80, ?_⟩
  unfold wringerlaw2_VintShort.f
  rw [es, if_pos (by omega), shr_nat n0 s hs]
  have hn : n0 / 2 ^ s < 18446744073709551616 := Nat.lt_of_le_of_lt (Nat.div_le_self _ _) hn0
  generalize n0 / 2 ^ s = n at *
  rw [put_val64 n 80 hn (by omega), Option.bind_some]
  have e2 : (n : Int) / 128 = ((n / 128 : Nat) : Int) := by omega
  rw [e2]
  have hsz := put_size n
  refine count_loop n (putS n) (some true) 9 (n / 128) 1 80 (by omega) (by omega) (by omega) (fun k' h1 h2 => ?_)
  have e : 1 + (if n / 128 = 0 then 0 else (putL 9 (n / 128)).length) = (putS n).size := by
    rw [hsz]
    have e3 : putL 10 n = if n < 128 then [n] else (n % 128 + 128) :: putL 9 (n / 128) := rfl
    rw [e3]
    by_cases hq : n < 128
    · rw [if_pos hq, if_pos (by omega)]
      rfl
    · rw [if_neg hq, if_neg (by omega), List.length_cons]
      omega
  rw [e, if_pos rfl]
  have hlen := put_len 10 n
  exact check_loop n hn (putS n).size 0 k' (by omega) (by omega)
end Go.Proofs.Ytlcngcbiacmagaa.Pure
