/- What the encoder's Bit, Direct and Bytes come to: the coder's steps as numbers. Conditions: as each contract states. -/
import Derived.Test.YtgldblakdhalkaaGGrow
namespace Go.Proofs.Ytgldblakdhalkaa
set_option linter.unusedVariables false
open Go.RowKit Go.Proofs.YtgldblakdhalkaaW.PrintWords Go.Proofs.YtgldblakdhalkaaW.PrintLast Go.Proofs.YtgldblakdhalkaaW.PrintMore Go.Proofs.Ytgldblakdhalkaa.PBase
/-- An object's own step: of what was there its block and its row alone turn; its row stays, or is new. -/
structure Moved (g : Nat) (w : World) (v : Value) (w' : World) (v' : Value) : Prop where
  mine : Mine (fun k => k = g ∨ v.ownBlock = some k) w w'
  own : v'.ownBlock = v.ownBlock ∨ ∃ k, v'.ownBlock = some k ∧ w.heap.size ≤ k
theorem Moved.refl (g : Nat) (w : World) (v : Value) : Moved g w v w v := ⟨Mine.refl _ _, Or.inl rfl⟩
theorem Moved.trans {g : Nat} {w w1 w2 : World} {v v1 v2 : Value} (h : Moved g w v w1 v1) (k : Moved g w1 v1 w2 v2) : Moved g w v w2 v2 := by
  refine ⟨Mine.then_ h.mine k.mine (fun i hi => ?_), ?_⟩
  · rcases hi with hi | hi
    · exact Or.inl (Or.inl hi)
    · rcases h.own with h1 | ⟨k', h1, h2⟩
      · exact Or.inl (Or.inr (h1.symm.trans hi))
      · rw [h1] at hi; injection hi with hi; exact Or.inr (hi ▸ h2)
  · rcases k.own with h1 | ⟨k', h1, h2⟩
    · rcases h.own with h3 | ⟨k', h3, h4⟩
      · exact Or.inl (h1.trans h3)
      · exact Or.inr ⟨k', h1.trans h3, h4⟩
    · exact Or.inr ⟨k', h1, Nat.le_trans h.mine.size h2⟩
theorem Moved.below {g : Nat} {w w1 w2 : World} {v v1 : Value} (h : Moved g w v w1 v1) (k : Below w1.heap.size w1 w2) : Moved g w v w2 v1 := ⟨h.mine.below k, h.own⟩
theorem Moved.set {g i : Nat} {w w1 : World} {v v1 : Value} (h : Moved g w v w1 v1) (u : Value) : Moved g w v (w1.setCell ⟨g, i, none⟩ u) v1 := ⟨h.mine.set (Or.inl (Or.inl rfl)) u, h.own⟩
theorem Moved.to_below {g B : Nat} {w0 w w1 : World} {v v1 : Value} (h : Moved g w v w1 v1) (hb : Below B w0 w) (hB : B ≤ w.heap.size) (hg : B ≤ g) (hv : ∀ k, v.ownBlock = some k → B ≤ k) : Below B w0 w1 :=
  Mine.to_below h.mine hb hB (fun k hk => by rcases hk with rfl | hk; exact hg; exact hv k hk)
theorem EncAt.ge {w : World} {B g : Nat} {e : Enc} {v : Value} (h : EncAt w B g e v) : ∀ k, v.ownBlock = some k → B ≤ k := fun k hk => (h.own.lt k hk).1
theorem EncAt.lt {w : World} {B g : Nat} {e : Enc} {v : Value} (h : EncAt w B g e v) : ∀ k, v.ownBlock = some k → k < w.heap.size := fun k hk => (h.own.lt k hk).2
/-- The range is stored anew. -/
theorem EncAt.size {w : World} {B g : Nat} {e : Enc} {v : Value} (h : EncAt w B g e v) (R : Nat) : EncAt (w.setCell ⟨g, 2, none⟩ (.int .u64 (R : Int))) B g ⟨e.V, e.L, R⟩ v :=
  ⟨blk_put h.blk 2 _ rfl, own_frame h.own (fun k hk => Below.heap_setCell _ _ _ _ (fun e => h.far (by rw [hk, e]))), h.far⟩
theorem cut_val (p : Int) : chance_cut.f p = some (cutN p : Int) := by
  unfold chance_cut.f cutN mx mn
  congr 1
  split <;> split <;> (try split) <;> omega
theorem share_val (R : Nat) (p : Int) (h : R < 4294967296) : chance_share.f (R : Int) p = some (shareN R p : Int) := by
  have hc := cutN_range p
  have hd : Int.tdiv (R : Int) 4096 = ((R / 4096 : Nat) : Int) := by rw [Int.tdiv_eq_ediv_of_nonneg (by omega)]; omega
  have h2 : R / 4096 * cutN p ≤ R / 4096 * 4095 := Nat.mul_le_mul_left _ hc.2
  unfold chance_share.f
  rw [cut_val, Option.bind_some, hd, wrap_u64 ((R / 4096 : Nat) : Int) (by omega) (by omega)]
  have e : ((R / 4096 : Nat) : Int) * (cutN p : Int) = ((R / 4096 * cutN p : Nat) : Int) := by rw [Int.natCast_mul]
  rw [e, wrap_u64 ((R / 4096 * cutN p : Nat) : Int) (by omega) (by omega)]
  rfl
attribute [local go_sem ↓] Go.wp_at_zero Go.wp_at_succ
set_option maxHeartbeats 4000000 in
set_option maxRecDepth 100000 in
theorem enc_Bit.calls (e : Enc) (v : Value) (B g : Nat) (p bit : Int) (bb : Bool) (hbb : (bit != 0) = bb) (w : World) (hS : Aside0 (EncAt w B g e v)) (hok : Aside0 e.ok) (hL : Aside0 (e.L ≤ 1000000000)) (hB : Aside0 (B ≤ w.heap.size)) :
    Calls Try.prog 26 #[.pointer (some ⟨g, 0, none⟩), .int .i64 p, .int .i64 bit] w fun r w' => r = .returned (.tuple #[]) ∧ ∃ v', EncAt w' B g (bitE p bb e) v' ∧ Moved g w v w' v' := by
  have hu2 := Try.underlying87
  obtain ⟨h1, h2, h3, h4⟩ := hok.out
  have hc2 : w.cell? ⟨g, 2, none⟩ = some (.int .u64 (e.R : Int)) := blk_cell hS.out.blk 2
  have hs := shareN_range e.R p (by omega)
  have hV := Aside0.mk (share_val e.R p h3)
  obtain ⟨s, hss⟩ : ∃ s, shareN e.R p = s := ⟨_, rfl⟩
  rw [hss] at hs hV
  go_enter Try.func26, Try.ntmps26
  go_wp2_with fail
  refine (chance_share.calls _ _ _ _ hV.out).mono ?_
  rintro r w1 ⟨rfl, hb⟩
  have HS := Aside0.mk (hS.out.below hb)
  have HM := Aside0.mk ((Moved.refl g w v).below hb)
  clear hb hc2 hV
  cases bb
  · go_wp2_with fail
    refine (enc_more.calls e v B g s w1 HS ⟨⟨h1, hL.out⟩⟩ ⟨by omega⟩ ⟨by omega⟩).mono ?_
    rintro r w2 ⟨rfl, hS2, hm2⟩
    have HS2 := Aside0.mk hS2
    have HM2 := Aside0.mk (HM.out.trans ⟨hm2, Or.inl rfl⟩)
    have hc2 : w2.cell? ⟨g, 2, none⟩ = some (.int .u64 (e.R : Int)) := blk_cell hS2.blk 2
    have hf2 := blk_frozen hS2.blk 2
    clear hS2 hm2 HS HM
    obtain ⟨q, hq⟩ : ∃ q, e.R - s = q := ⟨_, rfl⟩
    have hw : IntKind.u64.wrap ((e.R : Int) - (s : Int)) = (q : Int) := by rw [IntKind.wrap_u64]; omega
    go_wp2_with fail
    have HS3 := Aside0.mk (HS2.out.size q)
    have HM3 := Aside0.mk (HM2.out.set (i := 2) (.int .u64 (q : Int)))
    refine (enc_grow.calls ⟨e.V + s, e.L, q⟩ v B g _ HS3 ⟨by have := bitP_pre hok.out p false; unfold bitP at this; rw [if_neg Bool.false_ne_true, hss, hq] at this; exact this⟩ hL ⟨Nat.le_trans hB.out HM3.out.mine.size⟩).mono ?_
    rintro r w4 ⟨rfl, v2, hS4, hm4, hv4⟩
    go_wp2
    refine bodyPost_end (results_none rfl _ _ _) rfl ?_
    refine ⟨rfl, v2, ?_, HM3.out.trans ⟨hm4, hv4⟩⟩
    unfold bitE bitP
    rw [if_neg Bool.false_ne_true, hss, hq]
    exact hS4
  · have hc2 : w1.cell? ⟨g, 2, none⟩ = some (.int .u64 (e.R : Int)) := blk_cell HS.out.blk 2
    have hf2 := blk_frozen HS.out.blk 2
    go_wp2_with fail
    have HS2 := Aside0.mk (HS.out.size s)
    have HM2 := Aside0.mk (HM.out.set (i := 2) (.int .u64 (s : Int)))
    refine (enc_grow.calls ⟨e.V, e.L, s⟩ v B g _ HS2 ⟨by have := bitP_pre hok.out p true; unfold bitP at this; rw [if_pos rfl, hss] at this; exact this⟩ hL ⟨Nat.le_trans hB.out HM2.out.mine.size⟩).mono ?_
    rintro r w2 ⟨rfl, v2, hS2, hm2, hv2⟩
    go_wp2
    refine bodyPost_end (results_none rfl _ _ _) rfl ?_
    refine ⟨rfl, v2, ?_, HM2.out.trans ⟨hm2, hv2⟩⟩
    unfold bitE bitP
    rw [if_pos rfl, hss]
    exact hS2
theorem grow_L : ∀ (k : Nat) (e : Enc), (growE k e).L ≤ e.L + k
  | 0, e => Nat.le_refl _
  | k + 1, e => by
    unfold growE
    by_cases c : e.R < 16777216
    · rw [if_pos c]
      have := grow_L k e.up
      unfold Enc.up at this ⊢
      simp only at this ⊢
      omega
    · rw [if_neg c]; omega
theorem halfE_L (b : Bool) (e : Enc) : (halfE b e).L ≤ e.L + 4 := by
  have := grow_L 4 (halfP b e)
  have h : (halfP b e).L = e.L := by unfold halfP; cases b <;> rfl
  unfold halfE
  omega
theorem bitE_L (p : Int) (b : Bool) (e : Enc) : (bitE p b e).L ≤ e.L + 4 := by
  have := grow_L 4 (bitP p b e)
  have h : (bitP p b e).L = e.L := by unfold bitP; cases b <;> rfl
  unfold bitE
  omega
theorem and1 (x : Nat) (h : x < 18446744073709551616) : Go.bits .and .u64 (x : Int) 1 = ((x % 2 : Nat) : Int) := by
  rw [show (1 : Int) = ((1 : Nat) : Int) from rfl, u64_and_nat _ _ h (by omega)]
  congr 1
  exact Nat.and_two_pow_sub_one_eq_mod x 1
theorem first_wrap (j : Nat) (h : j ≤ 64) : Value.int .i64 (wrap64 ((j : Int) - 1)) = .int .i64 ((j : Int) - 1) := by
  have : wrap64 ((j : Int) - 1) = (j : Int) - 1 := by unfold wrap64; omega
  rw [this]
/-- How many bits are asked for. -/
def lenN (n : Int) : Nat := (mx 0 (mn n 64)).toNat
theorem lenN_le (n : Int) : lenN n ≤ 64 := by unfold lenN mx mn; split <;> split <;> omega
theorem lenN_val (n : Int) : mx 0 (mn n 64) = (lenN n : Int) := by unfold lenN mx mn; split <;> split <;> omega
attribute [local go_sem] max2_mx min2_mn max_two min_two
set_option maxHeartbeats 4000000 in
set_option maxRecDepth 100000 in
theorem enc_Direct.calls (e : Enc) (v : Value) (B g V : Nat) (n : Int) (w : World) (hV : Aside0 (V < 18446744073709551616)) (hS : Aside0 (EncAt w B g e v)) (hok : Aside0 e.ok) (hL : Aside0 (e.L ≤ 900000000)) (hB : Aside0 (B ≤ w.heap.size)) :
    Calls Try.prog 24 #[.pointer (some ⟨g, 0, none⟩), .int .u64 (V : Int), .int .i64 n] w fun r w' => r = .returned (.tuple #[]) ∧ ∃ v', EncAt w' B g (directE V (lenN n) e) v' ∧ Moved g w v w' v' := by
  have hu2 := Try.underlying87
  have hNv := lenN_val n
  have hN64 := Aside0.mk (lenN_le n)
  obtain ⟨N, hN⟩ : ∃ N, lenN n = N := ⟨_, rfl⟩
  rw [hN] at hNv hN64 ⊢
  have hw0 : wrap64 ((N : Int) - 1) = (N : Int) - 1 := by have := hN64.out; unfold wrap64; omega
  go_enter Try.func24, Try.ntmps24
  go_wp2_with fail
  go_loopg [6] (N + 1) (fun kq v6 w' => ∃ (j : Nat) (f : Enc) (v' : Value), v6 = .int .i64 ((j : Int) - 1) ∧ Aside0 (kq = j + 1) ∧ Aside0 (j ≤ 64) ∧ Aside0 (directE V j f = directE V N e) ∧ Aside0 f.ok ∧ Aside0 (f.L + 4 * j ≤ e.L + 4 * N) ∧ Aside0 (EncAt w' B g f v') ∧ Aside0 (Moved g w v w' v'))
  case atStart => exact ⟨N, e, v, by first | rfl | rw [hw0], ⟨rfl⟩, hN64, ⟨rfl⟩, hok, ⟨Nat.le_refl _⟩, hS, ⟨Moved.refl _ _ _⟩⟩
  case round =>
    clear hw0
    obtain ⟨j, f, v', rfl, hk, hj, hd, hfo, hfL, HS, HM⟩ := hrel
    cases gk with
    | zero => exact absurd hk.out (by omega)
    | succ k1 =>
      cases j with
      | zero =>
        go_wp2_with fail
        refine bodyPost_end (results_none rfl _ _ _) rfl ?_
        refine ⟨rfl, v', ?_, HM.out⟩
        rw [← hd.out]
        exact HS.out
      | succ j =>
        have e1 : ((j + 1 : Nat) : Int) - 1 = (j : Int) := by omega
        rw [e1]
        have hj0 := eq_true (show (0 : Int) ≤ (j : Int) by omega)
        have hc2 : wr.cell? ⟨g, 2, none⟩ = some (.int .u64 (f.R : Int)) := blk_cell HS.out.blk 2
        have hf2 := blk_frozen HS.out.blk 2
        obtain ⟨x, hx⟩ : ∃ x, V / 2 ^ j = x := ⟨_, rfl⟩
        have hxl : x < 18446744073709551616 := by rw [← hx]; exact Nat.lt_of_le_of_lt (Nat.div_le_self _ _) hV.out
        have hsh : (V : Int) / 2 ^ min j 64 = (x : Int) := by
          rw [Nat.min_eq_left (by have := hj.out; omega), ← hx]
          norm_cast
        obtain ⟨h, hh⟩ : ∃ h, f.R / 2 = h := ⟨_, rfl⟩
        have hR := hfo.out.2.2.1
        have hR1 := hfo.out.2.1
        have hh1 : (f.R : Int) / 2 = (h : Int) := by omega
        have hh2 : IntKind.u64.wrap (h : Int) = (h : Int) := wrap_u64 _ (by omega) (by omega)
        have hdj : directE V (j + 1) f = directE V j (halfE (x % 2 == 1) f) := by rw [← hx]; rfl
        have hLj : f.L ≤ 900000256 := by have := hfL.out; have := hL.out; have := hN64.out; omega
        by_cases hd1 : x % 2 = 1
        · have hand : Go.bits .and .u64 (x : Int) 1 = 1 := by rw [and1 x hxl, hd1]; rfl
          have hb : (x % 2 == 1) = true := beq_iff_eq.2 hd1
          go_wp2_with fail
          have HS2 := Aside0.mk (HS.out.size h)
          have HM2 := Aside0.mk (HM.out.set (i := 2) (.int .u64 (h : Int)))
          refine (enc_more.calls ⟨f.V, f.L, h⟩ v' B g h _ HS2 ⟨⟨hfo.out.1, by simp only; omega⟩⟩ ⟨by omega⟩ ⟨by have := hfo.out.2.2.2; simp only; omega⟩).mono ?_
          rintro r w3 ⟨rfl, hS3, hm3⟩
          have HM3 := Aside0.mk (HM2.out.trans ⟨hm3, Or.inl rfl⟩)
          go_wp2_with fail
          refine (enc_grow.calls ⟨f.V + h, f.L, h⟩ v' B g _ ⟨hS3⟩ ⟨by have := halfP_pre hfo.out true; unfold halfP at this; rw [if_pos rfl, hh] at this; exact this⟩ ⟨by simp only; omega⟩ ⟨Nat.le_trans hB.out HM3.out.mine.size⟩).mono ?_
          rintro r w4 ⟨rfl, v2, hS4, hm4, hv4⟩
          have hE : growE 4 ⟨f.V + h, f.L, h⟩ = halfE (x % 2 == 1) f := by rw [hb]; unfold halfE halfP; rw [if_pos rfl, hh]
          rw [hE] at hS4
          go_wp2_with fail
          go_roundg k1
          case measure => have := hk.out; omega
          case rel => exact ⟨j, _, v2, first_wrap j (by have := hj.out; omega), ⟨by have := hk.out; omega⟩, ⟨by have := hj.out; omega⟩, ⟨hdj.symm.trans hd.out⟩, ⟨halfE_ok hfo.out _⟩, ⟨by have := halfE_L (x % 2 == 1) f; have := hfL.out; omega⟩, ⟨hS4⟩, ⟨HM3.out.trans ⟨hm4, hv4⟩⟩⟩
        · have hand : Go.bits .and .u64 (x : Int) 1 = 0 := by rw [and1 x hxl, show x % 2 = 0 by omega]; rfl
          have hb : (x % 2 == 1) = false := beq_eq_false_iff_ne.2 hd1
          go_wp2_with fail
          have HS2 := Aside0.mk (HS.out.size h)
          have HM2 := Aside0.mk (HM.out.set (i := 2) (.int .u64 (h : Int)))
          refine (enc_grow.calls ⟨f.V, f.L, h⟩ v' B g _ HS2 ⟨by have := halfP_pre hfo.out false; unfold halfP at this; rw [if_neg Bool.false_ne_true, hh] at this; exact this⟩ ⟨by simp only; omega⟩ ⟨Nat.le_trans hB.out HM2.out.mine.size⟩).mono ?_
          rintro r w4 ⟨rfl, v2, hS4, hm4, hv4⟩
          have hE : growE 4 ⟨f.V, f.L, h⟩ = halfE (x % 2 == 1) f := by rw [hb]; unfold halfE halfP; rw [if_neg Bool.false_ne_true, hh]
          rw [hE] at hS4
          go_wp2_with fail
          go_roundg k1
          case measure => have := hk.out; omega
          case rel => exact ⟨j, _, v2, first_wrap j (by have := hj.out; omega), ⟨by have := hk.out; omega⟩, ⟨by have := hj.out; omega⟩, ⟨hdj.symm.trans hd.out⟩, ⟨halfE_ok hfo.out _⟩, ⟨by have := halfE_L (x % 2 == 1) f; have := hfL.out; omega⟩, ⟨hS4⟩, ⟨HM2.out.trans ⟨hm4, hv4⟩⟩⟩
end Go.Proofs.Ytgldblakdhalkaa
