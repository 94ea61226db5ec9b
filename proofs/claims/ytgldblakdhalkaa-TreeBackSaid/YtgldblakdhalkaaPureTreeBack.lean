/- Proved: the plain statement behind TreeBack: for all numbers, every shift, class and count the law's Lean function answers true, given enough rounds. Conditions: the arguments are of their Go kinds. -/
import Derived.Test.YtgldblakdhalkaaPTreeBackx1
import Derived.Test.YtgldblakdhalkaaTsize
namespace Go.Proofs.Ytgldblakdhalkaa.Pure
open Go.RowKit Go.Proofs.Ytgldblakdhalkaa.PTreeBack Go.Proofs.YtgldblakdhalkaaW.PrintWords Go.Proofs.YtgldblakdhalkaaW.PrintLast Go.Proofs.Ytgldblakdhalkaa.PBase
theorem put_some (l : List Int) (sh : Int) (hl : l.length ≤ 1000) (hs : mayS sh = true) (hc : ∀ (j : Nat) (c : Int), l[j]? = some c → isC c = true) : tree_Put.f l sh = some (bytesE (putL sh l TS.new).e, 0) := by
  unfold tree_Put.f
  rw [if_pos hl, putS_ok sh l hs hc]
  rfl
theorem size_some (l : List Int) (sh : Int) (hl : l.length ≤ 1000) : (bytesE (putL sh l TS.new).e).size ≤ 1000000000 := by
  have h := putL_L sh l TS.new
  have h1 : TS.new.e.L = 1 := rfl
  rw [bytesE_size]
  omega
theorem get_some (s : ByteArray) (n : Nat) (sh : Int) (hs : mayS sh = true) (hn : n ≤ 1000) (hz : s.size ≤ 1000000000) : tree_Get.f s (n : Int) sh = some ((getS s n sh).1, ((getS s n sh).2 : Int)) := by
  unfold tree_Get.f
  rw [if_neg (by rw [hs]; simp; omega), if_pos ⟨hz, by omega⟩, Int.toNat_natCast]
theorem one_set (c : Int) (i n : Nat) (h : i < n) : (List.replicate i c ++ List.replicate (n - i) (0 : Int)).set i c = List.replicate (i + 1) c ++ List.replicate (n - (i + 1)) 0 := by
  rw [List.set_append_right (h := by rw [List.length_replicate]; exact Nat.le_refl _), List.length_replicate, Nat.sub_self, show n - i = (n - (i + 1)) + 1 by omega, List.replicate_succ, List.set_cons_zero, List.replicate_succ', List.append_assoc]
  rfl
theorem back_loop (l : List Int) (hl : l.length ≤ 60) (x2 : Int) (c : Nat) (hx2 : Int.tmod (wrap64 x2) 65 = (c : Int)) (hc : c < 65) (n : Nat) (hn : n ≤ 255) : ∀ (d i k : Nat), i + d = n → 200 + d ≤ k →
    wringerlaw16_TreeBack.l0 (k + 1) x2 l 0 l 0 (List.replicate i (c : Int) ++ List.replicate (n - i) 0) (i : Int) = some true
  | 0, i, k, h, hk => by
    obtain rfl : i = n := by omega
    have hE : ∀ a : Int, wringerlaw1_Err.f a = some a := fun _ => rfl
    have hlen : (List.replicate i (c : Int)).length = i := List.length_replicate
    have hone := one_class c i hc hn
    have hp := put_some (List.replicate i (c : Int)) 4 (by rw [hlen]; omega) (by decide) (fun j y hj => by
      have := List.mem_of_getElem? hj
      rw [List.mem_replicate] at this
      rw [this.2]
      exact isC_of hc)
    have hw : wrap64 (16 + wrap64 ((i : Int) / 8)) = ((16 + i / 8 : Nat) : Int) := by unfold wrap64; omega
    rw [Nat.sub_self, List.replicate_zero, List.append_nil, wringerlaw16_TreeBack.l0, if_neg (by rw [hlen]; omega), hp]
    have h00 : wrap64 (wrap64 ((0 : Int) + 0) + 0) = 0 := by decide +kernel
    simp only [hE, Option.bind_some, h00, if_true]
    rw [same_self l (by omega) k (by omega), Option.bind_some, if_pos rfl, hlen, hw, if_pos (by omega), awake16 k (by omega)]
    rfl
  | d + 1, i, k, h, hk => by
    have hlen : (List.replicate i (c : Int) ++ List.replicate (n - i) (0 : Int)).length = n := by rw [List.length_append, List.length_replicate, List.length_replicate]; omega
    have hw2 : wrap64 ((i : Int) + 1) = ((i + 1 : Nat) : Int) := by unfold wrap64; omega
    obtain ⟨k, rfl⟩ : ∃ m, k = m + 1 := ⟨k - 1, by omega⟩
    rw [wringerlaw16_TreeBack.l0, if_pos (by rw [hlen]; omega), if_pos (by omega), hw2, Int.toNat_natCast, hx2, one_set (c : Int) i n (by omega)]
    exact back_loop l hl x2 c hx2 hc n hn d (i + 1) k (by omega) (by omega)
theorem TreeBack : wringerlaw16_TreeBack.Pure := by
  intro l0 a1 a2 a3 _ _ hx h1 h2 h3
  simp only [Lit.wf, Bool.and_eq_true, decide_eq_true_eq] at h1 h2 h3
  have b1 : 0 ≤ a1 ∧ a1 ≤ 255 := h1
  have b2 : 0 ≤ a2 ∧ a2 ≤ 255 := h2
  have b3 : 0 ≤ a3 ∧ a3 ≤ 255 := h3
  obtain ⟨r, e1, e2, e3⟩ := classes_some l0 hx 1000 (by decide)
  have w1 : wrap64 a1 = a1 := by unfold wrap64; omega
  have w2 : wrap64 a2 = a2 := by unfold wrap64; omega
  have w3 : wrap64 a3 = a3 := by unfold wrap64; omega
  have ws : wrap64 (4 + Int.tmod a1 4) = 4 + a1 % 4 := by rw [Int.tmod_eq_emod_of_nonneg b1.1]; unfold wrap64; omega
  have hms : mayS (4 + a1 % 4) = true := by unfold mayS; rw [decide_eq_true (by omega), decide_eq_true (by omega)]; rfl
  have hp := put_some r (4 + a1 % 4) (by omega) hms e3
  have hz := size_some r (4 + a1 % 4) (by omega)
  have hg := get_some (bytesE (putL (4 + a1 % 4) r TS.new).e) r.length (4 + a1 % 4) hms (by omega) hz
  rw [getS_back (4 + a1 % 4) r e3] at hg
  obtain ⟨n, hn⟩ : ∃ n : Nat, a3 = (n : Int) := ⟨a3.toNat, by omega⟩
  obtain ⟨c, hc⟩ : ∃ c : Nat, Int.tmod (wrap64 a2) 65 = (c : Int) ∧ c < 65 := ⟨(a2 % 65).toNat, by rw [w2, Int.tmod_eq_emod_of_nonneg b2.1]; omega, by omega⟩
  refine ⟨999 + 1, ?_⟩
  unfold wringerlaw16_TreeBack.f
  rw [e1, Option.bind_some, w1, ws, hp, Option.bind_some, hg, Option.bind_some, w3, hn, if_pos (by omega), if_pos (by omega), Int.toNat_natCast]
  have h := back_loop r e2 a2 c hc.1 hc.2 n (by omega) n 0 999 (by omega) (by omega)
  rw [List.replicate_zero, List.nil_append, Nat.sub_zero] at h
  exact h
end Go.Proofs.Ytgldblakdhalkaa.Pure
