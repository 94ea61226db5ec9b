/- What the reference's reader comes to (Bit, End). Conditions: as each contract states. -/
import Derived.Test.YtgldblakdhalkaaGRead
namespace Go.Proofs.Ytgldblakdhalkaa
set_option linter.unusedVariables false
open Go.RowKit Go.Proofs.YtgldblakdhalkaaW.PrintWords Go.Proofs.YtgldblakdhalkaaW.PrintLast Go.Proofs.YtgldblakdhalkaaW.PrintMore Go.Proofs.Ytgldblakdhalkaa.PBase
def gotCells (n er : Int) : Array Value := #[.int .u64 n, .int .i64 0, .int .i64 er]
/-- A reader's own step. -/
structure RMoved (g gc : Nat) (w : World) (v : Value) (w' : World) (v' : Value) : Prop where
  mine : Mine (rfoot g gc v) w w'
  own : v'.ownBlock = v.ownBlock ∨ ∃ k, v'.ownBlock = some k ∧ w.heap.size ≤ k
theorem RMoved.refl (g gc : Nat) (w : World) (v : Value) : RMoved g gc w v w v := ⟨Mine.refl _ _, Or.inl rfl⟩
theorem RMoved.trans {g gc : Nat} {w w1 w2 : World} {v v1 v2 : Value} (h : RMoved g gc w v w1 v1) (k : RMoved g gc w1 v1 w2 v2) : RMoved g gc w v w2 v2 := by
  refine ⟨Mine.then_ h.mine k.mine (fun i hi => ?_), ?_⟩
  · rcases hi with hi | hi | hi
    · exact Or.inl (Or.inl hi)
    · exact Or.inl (Or.inr (Or.inl hi))
    · rcases h.own with h1 | ⟨k', h1, h2⟩
      · exact Or.inl (Or.inr (Or.inr (h1.symm.trans hi)))
      · rw [h1] at hi; injection hi with hi; exact Or.inr (hi ▸ h2)
  · rcases k.own with h1 | ⟨k', h1, h2⟩
    · rcases h.own with h3 | ⟨k', h3, h4⟩
      · exact Or.inl (h1.trans h3)
      · exact Or.inr ⟨k', h1.trans h3, h4⟩
    · exact Or.inr ⟨k', h1, Nat.le_trans h.mine.size h2⟩
theorem RMoved.of_g {g gc : Nat} {w w1 : World} {v : Value} (h : Mine (· = g) w w1) : RMoved g gc w v w1 v := ⟨h.mono (fun i hi => Or.inl hi), Or.inl rfl⟩
theorem RMoved.of_moved {g gc : Nat} {w w1 : World} {v v1 : Value} (h : Moved gc w v w1 v1) : RMoved g gc w v w1 v1 := ⟨h.mine.mono (fun i hi => Or.inr hi), h.own⟩
theorem RMoved.below {g gc : Nat} {w w1 w2 : World} {v v1 : Value} (h : RMoved g gc w v w1 v1) (k : Below w1.heap.size w1 w2) : RMoved g gc w v w2 v1 := ⟨h.mine.below k, h.own⟩
theorem RMoved.to_below {g gc B : Nat} {w0 w w1 : World} {v v1 : Value} (h : RMoved g gc w v w1 v1) (hb : Below B w0 w) (hB : B ≤ w.heap.size) (hf : ∀ k, rfoot g gc v k → B ≤ k) : Below B w0 w1 :=
  Mine.to_below h.mine hb hB (fun k hk => hf k hk)
theorem ReadAt.lt {w : World} {B g gc : Nat} {s : ByteArray} {e : Enc} {v : Value} (h : ReadAt w B g gc s e v) : ∀ k, rfoot g gc v k → k < w.heap.size := by
  rintro k (hk | hk | hk)
  · rw [hk]; exact blk_lt h.blk
  · rw [hk]; exact blk_lt h.cod.blk
  · exact (h.cod.own.lt k hk).2
/-- What stays of the foot. -/
theorem RMoved.foot {g gc : Nat} {w w1 : World} {v v1 : Value} (h : RMoved g gc w v w1 v1) : ∀ k, rfoot g gc v1 k → rfoot g gc v k ∨ w.heap.size ≤ k := by
  rintro k (hk | hk | hk)
  · exact Or.inl (Or.inl hk)
  · exact Or.inl (Or.inr (Or.inl hk))
  · rcases h.own with h1 | ⟨k', h1, h2⟩
    · exact Or.inl (Or.inr (Or.inr (h1.symm.trans hk)))
    · rw [h1] at hk; injection hk with hk; exact Or.inr (hk ▸ h2)
set_option maxHeartbeats 2000000 in
set_option maxRecDepth 100000 in
theorem ref_RBit.bad (s : ByteArray) (g : Nat) (p : Int) (w : World) (hS : Aside0 (BadAt w g s)) :
    Calls Try.prog 35 #[.pointer (some ⟨g, 0, none⟩), .int .i64 p] w fun r w' => r = .returned (got 0 3) ∧ Below w.heap.size w w' := by
  have hu3 := Try.underlying56
  have hS1 := hS.out.below (below_alloc (Below.refl _ _) (.cells #[.int .u64 0, .int .i64 0, .int .i64 0] 56))
  have HB0 : Aside0 (Below w.heap.size w (w.alloc (.cells #[.int .u64 0, .int .i64 0, .int .i64 0] 56))) := ⟨below_alloc (Below.refl _ _) _⟩
  have NA : (w.alloc (.cells #[.int .u64 0, .int .i64 0, .int .i64 0] 56)).heap[w.heap.size]? = some (.cells #[.int .u64 0, .int .i64 0, .int .i64 0] 56 (0, 0)) := blk_new _ _
  obtain ⟨w1, hw1⟩ : ∃ w1, w.alloc (.cells #[.int .u64 0, .int .i64 0, .int .i64 0] 56) = w1 := ⟨_, rfl⟩
  rw [hw1] at hS1 NA HB0
  have HS1 := Aside0.mk hS1
  have NA1 := Aside0.mk NA
  clear hS1 NA
  obtain ⟨gr, hgr⟩ : ∃ gr, w.heap.size = gr := ⟨_, rfl⟩
  rw [hgr] at NA1
  go_enter Try.func35, Try.ntmps35
  go_wp2_with fail
  refine (ref_ahead.bad s g w1 HS1).mono ?_
  rintro r w2 ⟨rfl, hb⟩
  have NA2 := Aside0.mk (blk_below NA1.out hb)
  have HB2 : Aside0 (Below w.heap.size w w2) := ⟨below_step HB0.out hb⟩
  have hglt : gr < w2.heap.size := blk_lt NA2.out
  have hne1 : (gr = w2.heap.size) = False := eq_false (by omega)
  have hne2 : (w2.heap.size = gr) = False := eq_false (by omega)
  have hr0 := blk_cell NA2.out 0
  have hr1 := blk_cell NA2.out 1
  have hr2 := blk_cell NA2.out 2
  have hq0 := blk_frozen NA2.out 0
  have hq1 := blk_frozen NA2.out 1
  have hq2 := blk_frozen NA2.out 2
  simp at hr0 hr1 hr2
  unfold got
  clear hb
  go_wp2
  refine bodyPost_ret (results_cell_row rfl _ _ gr 56 _ (0, 0) _ rfl (blk_alloc (blk_set (blk_set (blk_set NA2.out 0 _) 1 _) 2 _) _) hu3 rfl rfl) rfl ⟨rfl, ?_⟩
  exact below_alloc (below_of_set3 HB2.out hgr) _
set_option maxHeartbeats 2000000 in
set_option maxRecDepth 100000 in
theorem ref_RBit.err (s : ByteArray) (e : Enc) (v : Value) (B g gc : Nat) (p : Int) (w : World) (hS : Aside0 (ReadAt w B g gc s e v)) (hok : Aside0 e.ok) (hL : Aside0 (e.L ≤ 1000000000)) (hsz : Aside0 (s.size ≤ 1000000000)) (n : Nat) (hn : Aside0 (errE s e = n)) (h23 : n = 2 ∨ n = 3) :
    Calls Try.prog 35 #[.pointer (some ⟨g, 0, none⟩), .int .i64 p] w fun r w' => r = .returned (got 0 n) ∧ BadAt w' g s ∧ Mine (· = g) w w' := by
  have hu3 := Try.underlying56
  have hS1 := hS.out.below (below_alloc (Below.refl _ _) (.cells #[.int .u64 0, .int .i64 0, .int .i64 0] 56))
  have HB0 : Aside0 (Below w.heap.size w (w.alloc (.cells #[.int .u64 0, .int .i64 0, .int .i64 0] 56))) := ⟨below_alloc (Below.refl _ _) _⟩
  have NA : (w.alloc (.cells #[.int .u64 0, .int .i64 0, .int .i64 0] 56)).heap[w.heap.size]? = some (.cells #[.int .u64 0, .int .i64 0, .int .i64 0] 56 (0, 0)) := blk_new _ _
  have hgl : Aside0 (g < w.heap.size) := ⟨blk_lt hS.out.blk⟩
  obtain ⟨w1, hw1⟩ : ∃ w1, w.alloc (.cells #[.int .u64 0, .int .i64 0, .int .i64 0] 56) = w1 := ⟨_, rfl⟩
  rw [hw1] at hS1 NA HB0
  have HS1 := Aside0.mk hS1
  have NA1 := Aside0.mk NA
  clear hS1 NA
  obtain ⟨gr, hgr⟩ : ∃ gr, w.heap.size = gr := ⟨_, rfl⟩
  rw [hgr] at NA1 hgl
  have HG := Aside0.mk hgr
  rcases h23 with rfl | rfl
  all_goals
    go_enter Try.func35, Try.ntmps35
    go_wp2_with fail
    refine (ref_ahead.calls s e v B g gc w1 HS1.out hok.out hL.out hsz.out).mono ?_
    rintro r w2 ⟨rfl, _, hd, hm⟩
    have hdd := Aside0.mk (hd (by rw [hn.out]; decide))
    rw [hn.out, if_neg (by decide)]
    have NA2 := Aside0.mk (blk_mine NA1.out hm (by have := hgl.out; show ¬ gr = g; omega))
    have HM2 : Aside0 (Mine (· = g) w w2) := ⟨Mine.then_ (Mine.of_below _ HB0.out) hm (fun k hk => Or.inl hk)⟩
    have hglt : gr < w2.heap.size := blk_lt NA2.out
    have hne1 : (gr = w2.heap.size) = False := eq_false (by omega)
    have hne2 : (w2.heap.size = gr) = False := eq_false (by omega)
    have hr0 := blk_cell NA2.out 0
    have hr1 := blk_cell NA2.out 1
    have hr2 := blk_cell NA2.out 2
    have hq0 := blk_frozen NA2.out 0
    have hq1 := blk_frozen NA2.out 1
    have hq2 := blk_frozen NA2.out 2
    simp at hr0 hr1 hr2
    unfold got
    clear hd hm
    go_wp2
    refine bodyPost_ret (results_cell_row rfl _ _ gr 56 _ (0, 0) _ rfl (blk_alloc (blk_set (blk_set (blk_set NA2.out 0 _) 1 _) 2 _) _) hu3 rfl rfl) rfl ⟨rfl, ?_, ?_⟩
    · exact hdd.out.mine (S := (· = gr)) (Mine.alloc (Mine.set (Mine.set (Mine.set (Mine.refl (· = gr) _) (Or.inl rfl) _) (Or.inl rfl) _) (Or.inl rfl) _) _) (by have := hgl.out; show ¬ g = gr; omega)
    · exact Mine.alloc (Mine.set (Mine.set (Mine.set HM2.out (Or.inr (Nat.le_of_eq HG.out)) _) (Or.inr (Nat.le_of_eq HG.out)) _) (Or.inr (Nat.le_of_eq HG.out)) _) _
attribute [local go_sem] max2_mx min2_mn max_two min_two in
set_option maxHeartbeats 2000000 in
set_option maxRecDepth 100000 in
theorem ref_chance.same (p : Int) (c : Nat) (hc : cutN p = c) (w : World) :
    Calls Try.prog 53 #[.int .i64 p] w fun e w' => e = .returned (.int .u64 (c : Int)) ∧ w' = w := by
  have h1 := cutN_range p
  have h2 : mx 1 (mn p 4095) = (c : Int) := by have := refcut_val p; unfold wringerref15_chance.f at this; injection this with this; rw [this, hc]
  have h3 : IntKind.u64.wrap (c : Int) = (c : Int) := wrap_u64 _ (by omega) (by omega)
  clear hc h1
  go_enter Try.func53, Try.ntmps53
  go_wp2
  go_ret
  exact ⟨rfl, rfl⟩
set_option maxHeartbeats 4000000 in
set_option maxRecDepth 100000 in
theorem ref_RBit.ok (s : ByteArray) (e : Enc) (v : Value) (B g gc : Nat) (p : Int) (w : World) (hS : Aside0 (ReadAt w B g gc s e v)) (hok : Aside0 e.ok) (hL : Aside0 (e.L ≤ 900000000)) (hsz : Aside0 (s.size ≤ 1000000000)) (hB : Aside0 (B ≤ w.heap.size)) (he : Aside0 (errE s e = 0)) (bb : Bool) (hbb : Aside0 (decide (dE s e < shareN e.R p) = bb)) :
    Calls Try.prog 35 #[.pointer (some ⟨g, 0, none⟩), .int .i64 p] w fun r w' => r = .returned (got (if bb then 1 else 0) 0) ∧ ∃ v', ReadAt w' B g gc s (bitE p bb e) v' ∧ RMoved g gc w v w' v' := by
  have hu3 := Try.underlying56
  have hu2 := Try.underlying97
  have hu4 := Try.underlying89
  have hS1 := hS.out.below (below_alloc (Below.refl _ _) (.cells #[.int .u64 0, .int .i64 0, .int .i64 0] 56))
  have HB0 : Aside0 (Below w.heap.size w (w.alloc (.cells #[.int .u64 0, .int .i64 0, .int .i64 0] 56))) := ⟨below_alloc (Below.refl _ _) _⟩
  have NA : (w.alloc (.cells #[.int .u64 0, .int .i64 0, .int .i64 0] 56)).heap[w.heap.size]? = some (.cells #[.int .u64 0, .int .i64 0, .int .i64 0] 56 (0, 0)) := blk_new _ _
  have hfl : Aside0 (∀ k, rfoot g gc v k → k < w.heap.size) := ⟨hS.out.lt⟩
  obtain ⟨w1, hw1⟩ : ∃ w1, w.alloc (.cells #[.int .u64 0, .int .i64 0, .int .i64 0] 56) = w1 := ⟨_, rfl⟩
  rw [hw1] at hS1 NA HB0
  have HS1 := Aside0.mk hS1
  have NA1 := Aside0.mk NA
  clear hS1 NA
  obtain ⟨gr, hgr⟩ : ∃ gr, w.heap.size = gr := ⟨_, rfl⟩
  rw [hgr] at NA1 hfl
  have HG := Aside0.mk hgr
  have hR := Aside0.mk hok.out.2.2.1
  have hV := Aside0.mk (refcut_val p)
  have hmul := mul_val e.R p hok.out.2.2.1
  obtain ⟨x, hx⟩ : ∃ x, dE s e = x := ⟨_, rfl⟩
  obtain ⟨z, hz⟩ : ∃ z, shareN e.R p = z := ⟨_, rfl⟩
  have HBB := hbb
  rw [hx, hz] at hbb
  rw [hz] at hmul
  obtain ⟨c, hcc⟩ : ∃ c, cutN p = c := ⟨_, rfl⟩
  rw [hcc] at hV hmul
  obtain ⟨q, hq⟩ : ∃ q, e.R / 4096 = q := ⟨_, rfl⟩
  rw [hq] at hmul
  have hdiv : (e.R : Int) / 4096 = (q : Int) := by omega
  have hlt1 : decide ((x : Int) < (z : Int)) = bb := by rw [← hbb.out]; exact decide_eq_decide.2 (by omega)
  have hlt2 : decide (x < z) = bb := hbb.out
  go_enter Try.func35, Try.ntmps35
  go_wp2_with fail
  refine (ref_ahead.calls s e v B g gc w1 HS1.out hok.out (by have := hL.out; omega) hsz.out).mono ?_
  rintro r w2 ⟨rfl, hgo, _, hm⟩
  obtain ⟨hb2, hxl, hfit, hnum⟩ := hgo he.out
  rw [he.out, if_pos rfl, hx]
  have NA2 := Aside0.mk (blk_below NA1.out hb2)
  have HS2 := Aside0.mk (HS1.out.below hb2)
  have HB2 := Aside0.mk (below_step HB0.out hb2)
  clear hgo hm hb2 hxl hfit hnum hx hz hV
  unfold got
  go_wp2_with fail
  obtain ⟨w3, hw3⟩ : ∃ w3, w2.alloc (.cells #[.int .u64 (x : Int), .int .i64 0, .int .i64 0] 56) = w3 := ⟨_, rfl⟩
  obtain ⟨gd, hgd⟩ : ∃ gd, w2.heap.size = gd := ⟨_, rfl⟩
  have DA3 : Aside0 (w3.heap[gd]? = some (.cells #[.int .u64 (x : Int), .int .i64 0, .int .i64 0] 56 (0, 0))) := ⟨by rw [← hw3, ← hgd]; exact blk_new _ _⟩
  have hb3 : Below w2.heap.size w2 w3 := by rw [← hw3]; exact below_alloc (Below.refl _ _) _
  have NA3 := Aside0.mk (blk_below NA2.out hb3)
  have HS3 := Aside0.mk (HS2.out.below hb3)
  have HB3 := Aside0.mk (below_step HB2.out hb3)
  rw [hw3, hgd]
  clear NA2 HS2 HB2 hw3 hgd hb3
  have hd0 : w3.cell? ⟨gd, 0, none⟩ = some (.int .u64 (x : Int)) := blk_cell DA3.out 0
  have hg1 : w3.cell? ⟨g, 1, none⟩ = some (.pointer (some ⟨gc, 0, none⟩)) := blk_cell HS3.out.blk 1
  have hc1 : w3.cell? ⟨gc, 1, none⟩ = some (.int .u64 (e.R : Int)) := blk_cell HS3.out.cod.blk 1
  go_quiet ((go_at_call 53; exact Calls.quiet_of_same (ref_chance.same p c hcc _)))
  have NA4 := Aside0.mk (blk_drewN NA3.out nq)
  have HS4 : Aside0 (ReadAt (w3.drewN nq) B g gc s e v) := ⟨⟨HS3.out.blk, ⟨HS3.out.cod.blk, HS3.out.cod.own, HS3.out.cod.far⟩, HS3.out.ne, HS3.out.far, HS3.out.told⟩⟩
  have HB4 : Aside0 (Below w.heap.size w (w3.drewN nq)) := ⟨below_drewN HB3.out _⟩
  generalize w3.drewN nq = w4 at *
  clear NA3 HS3 HB3 DA3 hd0 hg1 hc1 hmul
  have hg1 : w4.cell? ⟨g, 1, none⟩ = some (.pointer (some ⟨gc, 0, none⟩)) := blk_cell HS4.out.blk 1
  have HT := Aside0.mk (HS4.out.told.bit hok.out he.out p bb HBB.out)
  have hgl : Aside0 (g < w4.heap.size ∧ gr < w4.heap.size ∧ gc < gr ∧ g < gr) := ⟨blk_lt HS4.out.blk, blk_lt NA4.out, hfl.out gc (Or.inr (Or.inl rfl)), hfl.out g (Or.inl rfl)⟩
  cases bb
  all_goals
    clear hbb HBB
    go_wp2_with fail
    refine (ref_Bit.calls e v B gc p _ _ rfl w4 ⟨HS4.out.cod⟩ hok ⟨by have := hL.out; omega⟩ ⟨Nat.le_trans hB.out HB4.out.size⟩).mono ?_
    rintro r w5 ⟨rfl, v', hc5, hm5⟩
    have NA5 := Aside0.mk (blk_mine NA4.out hm5.mine (fun h => h.elim (fun h => by have := hgl.out; omega) (fun h => by have := hfl.out gr (Or.inr (Or.inr h)); omega)))
    have HR5 : Aside0 (w5.heap[g]? = some (.cells (rdCells s gc false) 97 (0, 0))) := ⟨blk_mine HS4.out.blk hm5.mine (fun h => h.elim HS4.out.ne HS4.out.far)⟩
    have HC5 := Aside0.mk hc5
    have HM5 := Aside0.mk hm5
    have hr0 := blk_cell NA5.out 0
    have hr1 := blk_cell NA5.out 1
    have hr2 := blk_cell NA5.out 2
    have hq0 := blk_frozen NA5.out 0
    have hq1 := blk_frozen NA5.out 1
    have hq2 := blk_frozen NA5.out 2
    simp at hr0 hr1 hr2
    clear hc5 hm5 hg1
    go_wp2
    refine bodyPost_ret (results_cell_row rfl _ _ gr 56 _ (0, 0) _ rfl (blk_set (blk_set (blk_set NA5.out 0 _) 1 _) 2 _) hu3 rfl rfl) rfl ⟨rfl, v', ?_, ?_⟩
    · have hv : v'.ownBlock ≠ some g ∧ v'.ownBlock ≠ some gr := by
        rcases HM5.out.own with h | ⟨k, h, h2⟩
        · exact ⟨fun h3 => HS4.out.far (h.symm.trans h3), fun h3 => by have := hfl.out gr (Or.inr (Or.inr (h.symm.trans h3))); omega⟩
        · exact ⟨fun h3 => by rw [h] at h3; injection h3 with h3; have := hgl.out; omega, fun h3 => by rw [h] at h3; injection h3 with h3; have := hgl.out; omega⟩
      have hh : ReadAt w5 B g gc s _ v' := ⟨HR5.out, HC5.out, HS4.out.ne, hv.1, HT.out⟩
      exact hh.mine (S := (· = gr)) (Mine.set (Mine.set (Mine.set (Mine.refl (· = gr) _) (Or.inl rfl) _) (Or.inl rfl) _) (Or.inl rfl) _) (by
        rintro k (h | h | h) h2
        · have := hgl.out; omega
        · have := hgl.out; omega
        · exact hv.2 (by rw [h, h2]))
    · have h1 : RMoved g gc w v w4 v := ⟨Mine.of_below _ HB4.out, Or.inl rfl⟩
      have h2 := h1.trans (RMoved.of_moved HM5.out)
      exact ⟨Mine.set (Mine.set (Mine.set h2.mine (Or.inr (Nat.le_of_eq HG.out)) _) (Or.inr (Nat.le_of_eq HG.out)) _) (Or.inr (Nat.le_of_eq HG.out)) _, h2.own⟩
end Go.Proofs.Ytgldblakdhalkaa
