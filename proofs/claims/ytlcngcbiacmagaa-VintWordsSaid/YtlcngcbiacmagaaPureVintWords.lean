/- The plain statement behind VintWords: a word's bytes are the number's, the lowest first, and two words are one where the numbers are. Conditions: the arguments are of their Go kinds. -/
import Derived.Test.YtlcngcbiacmagaaPVintWordsx1
import Derived.Test.YtlcngcbiacmagaaWnum
namespace Go.Proofs.Ytlcngcbiacmagaa.Pure
open Go.RowKit Go.Proofs.Ytlcngcbiacmagaa Go.Proofs.Ytlcngcbiacmagaa.PBase Go.Proofs.Ytlcngcbiacmagaa.PVintWords Go.Proofs.YtlcngcbiacmagaaW.PrintWords Go.Proofs.YtlcngcbiacmagaaW.PrintLast Go.Proofs.YtlcngcbiacmagaaW.PrintMore
set_option linter.unusedVariables false
set_option linter.unusedSimpArgs false

theorem awake2_val : wringerlaw2_awake.f 20 = some true := by decide +kernel
theorem awake2_at (k : Nat) (h : 20 ≤ k) : wringerlaw2_awake.f k = some true := at_rounds wringerlaw2_awake.mono h awake2_val

theorem u64_nat (a : Int) (h : (Lit.int .u64 a).wf = true) : ∃ n : Nat, n < 18446744073709551616 ∧ a = (n : Int) := by
  simp only [Lit.wf, Bool.and_eq_true, decide_eq_true_eq] at h
  have h0 : 0 ≤ a := h.1
  have h1 : a ≤ 18446744073709551615 := h.2
  exact ⟨a.toNat, by omega, by omega⟩
theorem toList_inj {s t : ByteArray} (h : s.toList = t.toList) : s = t := by
  rw [ByteArray.toList_eq, ByteArray.toList_eq] at h
  cases s; cases t
  congr 1
  exact Array.toList_inj.1 h
theorem shr_nat (n i : Nat) (h : i < 64) : shr .u64 (n : Int) (i : Int) = ((n / 2 ^ i : Nat) : Int) := by
  unfold shr
  rw [Int.toNat_natCast, show IntKind.u64.bits = 64 from rfl, Nat.min_eq_left (by omega), Int.natCast_ediv, Int.natCast_pow]
  rfl
theorem word_inj (n m : Nat) (hn : n < 18446744073709551616) (hm : m < 18446744073709551616) (h : strOfNums (wordBytes (n : Int)) = strOfNums (wordBytes (m : Int))) : n = m := by
  have e1 := part_word (strOfNums (wordBytes (n : Int))) 0 n hn (fun i _ => by rw [Nat.zero_add])
  have e2 := part_word (strOfNums (wordBytes (n : Int))) 0 m hm (fun i _ => by rw [Nat.zero_add, h])
  omega

theorem words_loop (n m : Nat) (hn : n < 18446744073709551616) (hm : m < 18446744073709551616) : ∀ (d i k : Nat), i + d = 8 → d + 22 < k →
    wringerlaw2_VintWords.l0 k (n : Int) (m : Int) (strOfNums (wordBytes (n : Int))) (i : Int) = some true := by
  intro d
  induction d with
  | zero =>
    intro i k hi hk
    obtain ⟨k, rfl⟩ : ∃ m, k = m + 1 := ⟨k - 1, by omega⟩
    simp only [wringerlaw2_VintWords.l0]
    rw [if_neg (by omega)]
    simp only [vint_Word.f, Option.bind_some]
    have hb : (((strOfNums (wordBytes (m : Int))).toList == (strOfNums (wordBytes (n : Int))).toList) == ((m : Int) == (n : Int))) = true := by
      by_cases h : m = n
      · subst h
        simp
      · have h1 : ¬ (m : Int) = (n : Int) := by omega
        have h2 : ¬ (strOfNums (wordBytes (m : Int))).toList = (strOfNums (wordBytes (n : Int))).toList := fun e => h (word_inj m n hm hn (toList_inj e))
        rw [beq_eq_false_iff_ne.2 h1, beq_eq_false_iff_ne.2 h2]
        rfl
    rw [if_pos hb, awake2_at k (by omega)]
    rfl
  | succ d ih =>
    intro i k hi hk
    obtain ⟨k, rfl⟩ : ∃ m, k = m + 1 := ⟨k - 1, by omega⟩
    have go := ih (i + 1) k (by omega) (by omega)
    have hs := word_size n
    have e8 : wrap64 (8 * (i : Int)) = ((8 * i : Nat) : Int) := by unfold wrap64; omega
    have hv : bt (strOfNums (wordBytes (n : Int))) (i : Int) = shr .u64 (n : Int) ((8 * i : Nat) : Int) % 256 := by
      rw [bt_bn, bn_word n i (by omega), shr_nat n (8 * i) (by omega), Int.natCast_emod]
      rfl
    simp only [wringerlaw2_VintWords.l0]
    rw [if_pos (by omega), if_pos (by omega), if_pos (by omega), e8, if_pos (by omega), if_pos hv, wrap_i i (by omega)]
    exact go
theorem VintWords : wringerlaw2_VintWords.Pure := by
  intro a0 a1 h0 h1
  obtain ⟨n, hn, rfl⟩ := u64_nat a0 h0
  obtain ⟨m, hm, rfl⟩ := u64_nat a1 h1
  refine ⟨40, ?_⟩
  unfold wringerlaw2_VintWords.f vint_Word.f
  simp only [Option.bind_some]
  have hs := word_size n
  rw [if_pos (by omega)]
  exact words_loop n m hn hm 8 0 40 (by omega) (by omega)
end Go.Proofs.Ytlcngcbiacmagaa.Pure
