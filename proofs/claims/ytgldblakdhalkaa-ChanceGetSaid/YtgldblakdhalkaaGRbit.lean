/- What the reference coder's Bit, Direct and Bytes come to. Conditions: as each contract states. -/
import Derived.Test.YtgldblakdhalkaaGRgrow
namespace Go.Proofs.Ytgldblakdhalkaa
set_option linter.unusedVariables false
open Go.RowKit Go.Proofs.YtgldblakdhalkaaW.PrintWords Go.Proofs.YtgldblakdhalkaaW.PrintLast Go.Proofs.YtgldblakdhalkaaW.PrintMore Go.Proofs.Ytgldblakdhalkaa.PBase
theorem refcut_val (p : Int) : wringerref15_chance.f p = some (cutN p : Int) := cut_val p
theorem mul_val (R : Nat) (p : Int) (h : R < 4294967296) : IntKind.u64.wrap (((R / 4096 : Nat) : Int) * (cutN p : Int)) = (shareN R p : Int) := by
  have hc := cutN_range p
  have h2 : R / 4096 * cutN p ≤ R / 4096 * 4095 := Nat.mul_le_mul_left _ hc.2
  have e : ((R / 4096 : Nat) : Int) * (cutN p : Int) = ((R / 4096 * cutN p : Nat) : Int) := by rw [Int.natCast_mul]
  rw [e, wrap_u64 ((R / 4096 * cutN p : Nat) : Int) (by omega) (by omega)]
  rfl
attribute [local go_sem ↓] Go.wp_at_zero Go.wp_at_succ
set_option maxHeartbeats 4000000 in
set_option maxRecDepth 100000 in
theorem ref_Bit.calls (e : Enc) (v : Value) (B g : Nat) (p bit : Int) (bb : Bool) (hbb : (bit != 0) = bb) (w : World) (hS : Aside0 (CodAt w B g e v)) (hok : Aside0 e.ok) (hL : Aside0 (e.L ≤ 1000000000)) (hB : Aside0 (B ≤ w.heap.size)) :
    Calls Try.prog 27 #[.pointer (some ⟨g, 0, none⟩), .int .i64 p, .int .i64 bit] w fun r w' => r = .returned (.tuple #[]) ∧ ∃ v', CodAt w' B g (bitE p bb e) v' ∧ Moved g w v w' v' := by
  have hu2 := Try.underlying89
  obtain ⟨h1, h2, h3, h4⟩ := hok.out
  have hc1 : w.cell? ⟨g, 1, none⟩ = some (.int .u64 (e.R : Int)) := blk_cell hS.out.blk 1
  have hs := shareN_range e.R p (by omega)
  have hV := Aside0.mk (refcut_val p)
  have hmul := mul_val e.R p h3
  obtain ⟨s, hss⟩ : ∃ s, shareN e.R p = s := ⟨_, rfl⟩
  rw [hss] at hs hmul
  obtain ⟨c, hcc⟩ : ∃ c, cutN p = c := ⟨_, rfl⟩
  rw [hcc] at hV hmul
  obtain ⟨q, hq⟩ : ∃ q, e.R / 4096 = q := ⟨_, rfl⟩
  rw [hq] at hmul
  have hdiv : (e.R : Int) / 4096 = (q : Int) := by omega
  go_enter Try.func27, Try.ntmps27
  go_wp2_with fail
  go_region_with (first | (go_at_call 53; refine (wringerref15_chance.calls _ _ _ hV.out).mono ?_; rintro r w1 ⟨rfl, hb⟩; have HS := Aside0.mk (CodAt.below (w := w.drew) ⟨hS.out.blk, hS.out.own, hS.out.far⟩ hb); have HM : Aside0 (Moved g w v w1 v) := ⟨⟨Mine.below (Mine.drew (Mine.refl _ w)) hb, Or.inl rfl⟩⟩; have hcw : w1.cell? ⟨g, 1, none⟩ = some (.int .u64 (e.R : Int)) := blk_cell HS.out.blk 1))
  all_goals
    clear hb hc1 hcw hdiv hmul
    cases bb
    · go_wp2_with fail
      refine (ref_add.calls e v B g s w1 HS ⟨⟨h1, hL.out⟩⟩ ⟨by omega⟩ ⟨by omega⟩).mono ?_
      rintro r w2 ⟨rfl, hS2, hm2⟩
      have HS2 := Aside0.mk hS2
      have HM2 := Aside0.mk (HM.out.trans ⟨hm2, Or.inl rfl⟩)
      have hc2 : w2.cell? ⟨g, 1, none⟩ = some (.int .u64 (e.R : Int)) := blk_cell hS2.blk 1
      have hf2 := blk_frozen hS2.blk 1
      clear hS2 hm2 HS HM
      obtain ⟨q2, hq2⟩ : ∃ q, e.R - s = q := ⟨_, rfl⟩
      have hw : IntKind.u64.wrap ((e.R : Int) - (s : Int)) = (q2 : Int) := by rw [IntKind.wrap_u64]; omega
      go_wp2_with fail
      have HS3 := Aside0.mk (HS2.out.size q2)
      have HM3 := Aside0.mk (HM2.out.set (i := 1) (.int .u64 (q2 : Int)))
      refine (ref_grow.calls ⟨e.V + s, e.L, q2⟩ v B g _ HS3 ⟨by have := bitP_pre hok.out p false; unfold bitP at this; rw [if_neg Bool.false_ne_true, hss, hq2] at this; exact this⟩ hL ⟨Nat.le_trans hB.out HM3.out.mine.size⟩).mono ?_
      rintro r w4 ⟨rfl, v2, hS4, hm4⟩
      go_wp2
      refine bodyPost_end (results_none rfl _ _ _) rfl ?_
      refine ⟨rfl, v2, ?_, HM3.out.trans hm4⟩
      unfold bitE bitP
      rw [if_neg Bool.false_ne_true, hss, hq2]
      exact hS4
    · have hf2 := blk_frozen HS.out.blk 1
      have hc2 : w1.cell? ⟨g, 1, none⟩ = some (.int .u64 (e.R : Int)) := blk_cell HS.out.blk 1
      go_wp2_with fail
      have HS2 := Aside0.mk (HS.out.size s)
      have HM2 := Aside0.mk (HM.out.set (i := 1) (.int .u64 (s : Int)))
      refine (ref_grow.calls ⟨e.V, e.L, s⟩ v B g _ HS2 ⟨by have := bitP_pre hok.out p true; unfold bitP at this; rw [if_pos rfl, hss] at this; exact this⟩ hL ⟨Nat.le_trans hB.out HM2.out.mine.size⟩).mono ?_
      rintro r w2 ⟨rfl, v2, hS2, hm2⟩
      go_wp2
      refine bodyPost_end (results_none rfl _ _ _) rfl ?_
      refine ⟨rfl, v2, ?_, HM2.out.trans hm2⟩
      unfold bitE bitP
      rw [if_pos rfl, hss]
      exact hS2
attribute [local go_sem] max2_mx min2_mn max_two min_two
set_option maxHeartbeats 4000000 in
set_option maxRecDepth 100000 in
theorem ref_Direct.calls (e : Enc) (v : Value) (B g V : Nat) (n : Int) (w : World) (hV : Aside0 (V < 18446744073709551616)) (hS : Aside0 (CodAt w B g e v)) (hok : Aside0 e.ok) (hL : Aside0 (e.L ≤ 900000000)) (hB : Aside0 (B ≤ w.heap.size)) :
    Calls Try.prog 25 #[.pointer (some ⟨g, 0, none⟩), .int .u64 (V : Int), .int .i64 n] w fun r w' => r = .returned (.tuple #[]) ∧ ∃ v', CodAt w' B g (directE V (lenN n) e) v' ∧ Moved g w v w' v' := by
  have hu2 := Try.underlying89
  have hNv := lenN_val n
  have hN64 := Aside0.mk (lenN_le n)
  obtain ⟨N, hN⟩ : ∃ N, lenN n = N := ⟨_, rfl⟩
  rw [hN] at hNv hN64 ⊢
  have hw0 : wrap64 ((N : Int) - 1) = (N : Int) - 1 := by have := hN64.out; unfold wrap64; omega
  go_enter Try.func25, Try.ntmps25
  go_wp2_with fail
  go_loopg [6] (N + 1) (fun kq v6 w' => ∃ (j : Nat) (f : Enc) (v' : Value), v6 = .int .i64 ((j : Int) - 1) ∧ Aside0 (kq = j + 1) ∧ Aside0 (j ≤ 64) ∧ Aside0 (directE V j f = directE V N e) ∧ Aside0 f.ok ∧ Aside0 (f.L + 4 * j ≤ e.L + 4 * N) ∧ Aside0 (CodAt w' B g f v') ∧ Aside0 (Moved g w v w' v'))
  case atStart => exact ⟨N, e, v, by first | rfl | rw [hw0], ⟨rfl⟩, hN64, ⟨rfl⟩, hok, ⟨Nat.le_refl _⟩, hS, ⟨Moved.refl _ _ _⟩⟩
  case round =>
    clear hw0
    obtain ⟨j, f, v', rfl, hk, hj, hd, hfo, hfL, HS, HM⟩ := hrel
    cases gk with
    | zero => exact absurd hk.out (by omega)
    | succ k1 =>
      cases j with
      | zero =>
        go_wp2_with fail
        refine bodyPost_end (results_none rfl _ _ _) rfl ?_
        refine ⟨rfl, v', ?_, HM.out⟩
        rw [← hd.out]
        exact HS.out
      | succ j =>
        have e1 : ((j + 1 : Nat) : Int) - 1 = (j : Int) := by omega
        rw [e1]
        have hj0 := eq_true (show (0 : Int) ≤ (j : Int) by omega)
        have hc2 : wr.cell? ⟨g, 1, none⟩ = some (.int .u64 (f.R : Int)) := blk_cell HS.out.blk 1
        have hf2 := blk_frozen HS.out.blk 1
        obtain ⟨x, hx⟩ : ∃ x, V / 2 ^ j = x := ⟨_, rfl⟩
        have hxl : x < 18446744073709551616 := by rw [← hx]; exact Nat.lt_of_le_of_lt (Nat.div_le_self _ _) hV.out
        have hsh : (V : Int) / 2 ^ min j 64 = (x : Int) := by
          rw [Nat.min_eq_left (by have := hj.out; omega), ← hx]
          norm_cast
        obtain ⟨h, hh⟩ : ∃ h, f.R / 2 = h := ⟨_, rfl⟩
        have hR := hfo.out.2.2.1
        have hR1 := hfo.out.2.1
        have hh1 : (f.R : Int) / 2 = (h : Int) := by omega
        have hh2 : IntKind.u64.wrap (h : Int) = (h : Int) := wrap_u64 _ (by omega) (by omega)
        have hdj : directE V (j + 1) f = directE V j (halfE (x % 2 == 1) f) := by rw [← hx]; rfl
        have hLj : f.L ≤ 900000256 := by have := hfL.out; have := hL.out; have := hN64.out; omega
        by_cases hd1 : x % 2 = 1
        · have hand : Go.bits .and .u64 (x : Int) 1 = 1 := by rw [and1 x hxl, hd1]; rfl
          have hb : (x % 2 == 1) = true := beq_iff_eq.2 hd1
          go_wp2_with fail
          have HS2 := Aside0.mk (HS.out.size h)
          have HM2 := Aside0.mk (HM.out.set (i := 1) (.int .u64 (h : Int)))
          refine (ref_add.calls ⟨f.V, f.L, h⟩ v' B g h _ HS2 ⟨⟨hfo.out.1, by simp only; omega⟩⟩ ⟨by omega⟩ ⟨by have := hfo.out.2.2.2; simp only; omega⟩).mono ?_
          rintro r w3 ⟨rfl, hS3, hm3⟩
          have HM3 := Aside0.mk (HM2.out.trans ⟨hm3, Or.inl rfl⟩)
          go_wp2_with fail
          refine (ref_grow.calls ⟨f.V + h, f.L, h⟩ v' B g _ ⟨hS3⟩ ⟨by have := halfP_pre hfo.out true; unfold halfP at this; rw [if_pos rfl, hh] at this; exact this⟩ ⟨by simp only; omega⟩ ⟨Nat.le_trans hB.out HM3.out.mine.size⟩).mono ?_
          rintro r w4 ⟨rfl, v2, hS4, hm4⟩
          have hE : growE 4 ⟨f.V + h, f.L, h⟩ = halfE (x % 2 == 1) f := by rw [hb]; unfold halfE halfP; rw [if_pos rfl, hh]
          rw [hE] at hS4
          go_wp2_with fail
          go_roundg k1
          case measure => have := hk.out; omega
          case rel => exact ⟨j, _, v2, first_wrap j (by have := hj.out; omega), ⟨by have := hk.out; omega⟩, ⟨by have := hj.out; omega⟩, ⟨hdj.symm.trans hd.out⟩, ⟨halfE_ok hfo.out _⟩, ⟨by have := halfE_L (x % 2 == 1) f; have := hfL.out; omega⟩, ⟨hS4⟩, ⟨HM3.out.trans hm4⟩⟩
        · have hand : Go.bits .and .u64 (x : Int) 1 = 0 := by rw [and1 x hxl, show x % 2 = 0 by omega]; rfl
          have hb : (x % 2 == 1) = false := beq_eq_false_iff_ne.2 hd1
          go_wp2_with fail
          have HS2 := Aside0.mk (HS.out.size h)
          have HM2 := Aside0.mk (HM.out.set (i := 1) (.int .u64 (h : Int)))
          refine (ref_grow.calls ⟨f.V, f.L, h⟩ v' B g _ HS2 ⟨by have := halfP_pre hfo.out false; unfold halfP at this; rw [if_neg Bool.false_ne_true, hh] at this; exact this⟩ ⟨by simp only; omega⟩ ⟨Nat.le_trans hB.out HM2.out.mine.size⟩).mono ?_
          rintro r w4 ⟨rfl, v2, hS4, hm4⟩
          have hE : growE 4 ⟨f.V, f.L, h⟩ = halfE (x % 2 == 1) f := by rw [hb]; unfold halfE halfP; rw [if_neg Bool.false_ne_true, hh]
          rw [hE] at hS4
          go_wp2_with fail
          go_roundg k1
          case measure => have := hk.out; omega
          case rel => exact ⟨j, _, v2, first_wrap j (by have := hj.out; omega), ⟨by have := hk.out; omega⟩, ⟨by have := hj.out; omega⟩, ⟨hdj.symm.trans hd.out⟩, ⟨halfE_ok hfo.out _⟩, ⟨by have := halfE_L (x % 2 == 1) f; have := hfL.out; omega⟩, ⟨hS4⟩, ⟨HM2.out.trans hm4⟩⟩
theorem ref_Bytes.calls (e : Enc) (v : Value) (B g : Nat) (w : World) (hS : Aside0 (CodAt w B g e v)) :
    Calls Try.prog 29 #[.pointer (some ⟨g, 0, none⟩)] w fun r w' => r = .returned (.string (strOfNums (beI (e.L + 4) e.V))) ∧ Below w.heap.size w w' := by
  have hu2 := Try.underlying89
  have hc0 : w.cell? ⟨g, 0, none⟩ = some v := blk_cell hS.out.blk 0
  obtain ⟨b, C, rfl, hbB⟩ := own_form hS.out.own (by omega)
  have hcv : (convert 33 9 (.slice (some ⟨b, 0, none⟩) (e.L + 4) C)).run Try.prog w = .ok (.string (strOfNums (beI (e.L + 4) e.V))) w :=
    conv_ints (P := Try.prog) w 33 5 9 Try.underlying33 Try.underlying5 Try.underlying9 B (.slice (some ⟨b, 0, none⟩) (e.L + 4) C) (beI (e.L + 4) e.V) (by rw [beI_length]; exact hS.out.own)
  go_enter Try.func29, Try.ntmps29
  go_wp2
  go_ret
  exact ⟨rfl, Below.refl _ _⟩
end Go.Proofs.Ytgldblakdhalkaa
