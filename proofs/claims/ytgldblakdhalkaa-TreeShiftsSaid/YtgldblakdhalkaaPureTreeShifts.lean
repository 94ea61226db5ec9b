/- Proved: the plain statement behind TreeShifts: for all numbers the law's Lean function answers true, given enough rounds. Conditions: the argument is of its Go kind. -/
import Derived.Test.YtgldblakdhalkaaPTreeShiftsx1
import Derived.Test.YtgldblakdhalkaaTback
namespace Go.Proofs.Ytgldblakdhalkaa.Pure
open Go.RowKit Go.Proofs.Ytgldblakdhalkaa.PTreeShifts Go.Proofs.YtgldblakdhalkaaW.PrintWords Go.Proofs.YtgldblakdhalkaaW.PrintLast Go.Proofs.Ytgldblakdhalkaa.PBase
theorem may_nat (i : Nat) (h4 : 4 ≤ i) (h7 : i ≤ 7) : mayS (i : Int) = true := by unfold mayS; rw [decide_eq_true (by omega), decide_eq_true (by omega)]; rfl
theorem put_some (l : List Int) (sh : Int) (hl : l.length ≤ 1000) (hs : mayS sh = true) (hc : ∀ (j : Nat) (c : Int), l[j]? = some c → isC c = true) : tree_Put.f l sh = some (bytesE (putL sh l TS.new).e, 0) := by
  unfold tree_Put.f
  rw [if_pos hl, putS_ok sh l hs hc]
  rfl
theorem size_some (l : List Int) (sh : Int) (hl : l.length ≤ 1000) : (bytesE (putL sh l TS.new).e).size ≤ 1000000000 := by
  have h := putL_L sh l TS.new
  have h1 : TS.new.e.L = 1 := rfl
  rw [bytesE_size]
  omega
theorem get_some (s : ByteArray) (n : Nat) (sh : Int) (hs : mayS sh = true) (hn : n ≤ 1000) (hz : s.size ≤ 1000000000) : tree_Get.f s (n : Int) sh = some ((getS s n sh).1, ((getS s n sh).2 : Int)) := by
  unfold tree_Get.f
  rw [if_neg (by rw [hs]; simp; omega), if_pos ⟨hz, by omega⟩, Int.toNat_natCast]
theorem shifts_loop (l : List Int) (hl : l.length ≤ 60) (hc : ∀ (j : Nat) (c : Int), l[j]? = some c → isC c = true) : ∀ (d i k : Nat), i + d = 8 → 4 ≤ i → 200 + d ≤ k → wringerlaw16_TreeShifts.l0 (k + 1) l (i : Int) = some true
  | 0, i, k, h, h4, hk => by
    rw [wringerlaw16_TreeShifts.l0, if_neg (by omega), awake16 k (by omega)]
    rfl
  | d + 1, i, k, h, h4, hk => by
    have hms := may_nat i h4 (by omega)
    have hp := put_some l (i : Int) (by omega) hms hc
    have hz := size_some l (i : Int) (by omega)
    have hg := get_some (bytesE (putL (i : Int) l TS.new).e) l.length (i : Int) hms (by omega) hz
    rw [getS_back (i : Int) l hc] at hg
    have hg : tree_Get.f (bytesE (putL (i : Int) l TS.new).e) (l.length : Int) (i : Int) = some (l, 0) := hg
    have h00 : wrap64 ((0 : Int) + 0) = 0 := by decide +kernel
    have hw : wrap64 ((l.length : Int) / 2) = ((l.length / 2 : Nat) : Int) := by unfold wrap64; omega
    have hg2 := get_some (bytesE (putL (i : Int) l TS.new).e) (l.length / 2) (i : Int) hms (by omega) hz
    have hE : ∀ a : Int, wringerlaw1_Err.f a = some a := fun _ => rfl
    have hw2 : wrap64 ((i : Int) + 1) = ((i + 1 : Nat) : Int) := by unfold wrap64; omega
    obtain ⟨k, rfl⟩ : ∃ m, k = m + 1 := ⟨k - 1, by omega⟩
    have hnext := shifts_loop l hl hc d (i + 1) k (by omega) (by omega) (by omega)
    rw [wringerlaw16_TreeShifts.l0, if_pos (by omega), hp, Option.bind_some, hg, Option.bind_some, hw]
    rcases getS_less (i : Int) l hc (l.length / 2) (by omega) with h3 | h3
    · rw [h3] at hg2
      have hg2 : tree_Get.f (bytesE (putL (i : Int) l TS.new).e) ((l.length / 2 : Nat) : Int) (i : Int) = some (l.take (l.length / 2), 0) := hg2
      rw [hg2]
      simp only [hE, Option.bind_some, h00, if_true]
      rw [same_self l (by omega) (k + 1) (by omega), Option.bind_some, if_pos rfl, if_pos (by omega), if_pos (by omega), Int.toNat_natCast, same_self (l.take (l.length / 2)) (by rw [List.length_take]; omega) (k + 1) (by rw [List.length_take]; omega), Option.bind_some, if_pos rfl, hw2]
      exact hnext
    · rw [h3] at hg2
      have hg2 : tree_Get.f (bytesE (putL (i : Int) l TS.new).e) ((l.length / 2 : Nat) : Int) (i : Int) = some ([], 3) := hg2
      rw [hg2]
      simp only [hE, Option.bind_some, h00, if_true]
      rw [same_self l (by omega) (k + 1) (by omega), Option.bind_some, if_pos rfl, if_neg (by decide), hw2]
      exact hnext
theorem TreeShifts : wringerlaw16_TreeShifts.Pure := by
  intro l0 _ _ hx
  obtain ⟨r, h1, h2, h3⟩ := classes_some l0 hx 400 (by decide)
  refine ⟨399 + 1, ?_⟩
  unfold wringerlaw16_TreeShifts.f
  rw [h1, Option.bind_some]
  exact shifts_loop r h2 h3 4 4 399 rfl (by decide) (by decide)
end Go.Proofs.Ytgldblakdhalkaa.Pure
