/- What the reference's reader comes to (End, Direct). Conditions: as each contract states. -/
import Derived.Test.YtgldblakdhalkaaGRdbit
namespace Go.Proofs.Ytgldblakdhalkaa
set_option linter.unusedVariables false
open Go.RowKit Go.Proofs.YtgldblakdhalkaaW.PrintWords Go.Proofs.YtgldblakdhalkaaW.PrintLast Go.Proofs.YtgldblakdhalkaaW.PrintMore Go.Proofs.Ytgldblakdhalkaa.PBase
set_option maxHeartbeats 2000000 in
set_option maxRecDepth 100000 in
theorem ref_Bytes.same (e : Enc) (v : Value) (B g : Nat) (w : World) (hS : Aside0 (CodAt w B g e v)) (b : ByteArray) (hb : bytesE e = b) :
    Calls Try.prog 29 #[.pointer (some ⟨g, 0, none⟩)] w fun r w' => r = .returned (.string b) ∧ w' = w := by
  have hu2 := Try.underlying89
  have hc0 : w.cell? ⟨g, 0, none⟩ = some v := blk_cell hS.out.blk 0
  obtain ⟨b0, C, rfl, hbB⟩ := own_form hS.out.own (by omega)
  have hcv : (convert 33 9 (.slice (some ⟨b0, 0, none⟩) (e.L + 4) C)).run Try.prog w = .ok (.string b) w := by
    rw [← hb]
    exact conv_ints (P := Try.prog) w 33 5 9 Try.underlying33 Try.underlying5 Try.underlying9 B (.slice (some ⟨b0, 0, none⟩) (e.L + 4) C) (beI (e.L + 4) e.V) (by rw [beI_length]; exact hS.out.own)
  clear hb
  go_enter Try.func29, Try.ntmps29
  go_wp2
  go_ret
  exact ⟨rfl, rfl⟩
set_option maxHeartbeats 2000000 in
set_option maxRecDepth 100000 in
theorem ref_REnd.bad (s : ByteArray) (g : Nat) (w : World) (hS : Aside0 (BadAt w g s)) :
    Calls Try.prog 37 #[.pointer (some ⟨g, 0, none⟩)] w fun r w' => r = .returned (.int .i64 3) ∧ Below w.heap.size w w' := by
  have hu3 := Try.underlying56
  go_enter Try.func37, Try.ntmps37
  go_wp2_with fail
  refine (ref_ahead.bad s g w hS).mono ?_
  rintro r w2 ⟨rfl, hb⟩
  have HB := Aside0.mk hb
  unfold got
  clear hb
  go_wp2
  go_ret
  exact ⟨rfl, below_alloc HB.out _⟩
theorem str_ne {s t : ByteArray} (h : s ≠ t) : (s.toList == t.toList) = false := by
  rw [beq_eq_false_iff_ne]
  intro h2
  rw [ByteArray.toList_eq, ByteArray.toList_eq] at h2
  apply h
  cases s; cases t
  congr 1
  exact Array.toList_inj.1 h2
theorem endE_cases (s : ByteArray) (e : Enc) (hok : e.ok) (hlo : e.L + 4 ≤ s.size → e.V ≤ numB s (e.L + 4)) (he : errE s e = 0) : endE s e = if s = bytesE e then 0 else 3 := by
  by_cases h : s = bytesE e
  · rw [if_pos h, h]
    exact bytesE_end hok
  · rw [if_neg h]
    unfold endE
    rw [if_pos he]
    by_cases h2 : dE s e = 0 ∧ e.L + 4 = s.size
    · exfalso
      apply h
      apply end_only hok hlo
      unfold endE
      rw [if_pos he, if_pos h2]
    · rw [if_neg h2]
theorem endE_err (s : ByteArray) (e : Enc) (he : errE s e ≠ 0) : endE s e = errE s e := by unfold endE; rw [if_neg he]
set_option maxHeartbeats 4000000 in
set_option maxRecDepth 100000 in
theorem ref_REnd.calls (s : ByteArray) (e : Enc) (v : Value) (B g gc : Nat) (w : World) (hS : Aside0 (ReadAt w B g gc s e v)) (hok : Aside0 e.ok) (hL : Aside0 (e.L ≤ 1000000000)) (hsz : Aside0 (s.size ≤ 1000000000)) (n : Nat) (hn : Aside0 (endE s e = n)) :
    Calls Try.prog 37 #[.pointer (some ⟨g, 0, none⟩)] w fun r w' => r = .returned (.int .i64 (n : Int)) ∧ (n = 0 → ReadAt w' B g gc s e v) ∧ (n ≠ 0 → BadAt w' g s) ∧ Mine (· = g) w w' := by
  have hu3 := Try.underlying56
  have hu2 := Try.underlying97
  have hu4 := Try.underlying89
  rcases errE_small s e with he | he
  · have hn2 : Aside0 ((if s = bytesE e then 0 else 3) = n) := ⟨by rw [← endE_cases s e hok.out hS.out.told.lo he]; exact hn.out⟩
    have HE := Aside0.mk he
    obtain ⟨b, hb⟩ : ∃ b, bytesE e = b := ⟨_, rfl⟩
    rw [hb] at hn2
    obtain ⟨x, hx⟩ : ∃ x, dE s e = x := ⟨_, rfl⟩
    have HX := Aside0.mk hx
    clear hx he
    have hcase : (s = b ∧ n = 0) ∨ (s ≠ b ∧ n = 3) := by
      have h := hn2.out
      by_cases c : s = b
      · rw [if_pos c] at h; exact Or.inl ⟨c, h.symm⟩
      · rw [if_neg c] at h; exact Or.inr ⟨c, h.symm⟩
    go_enter Try.func37, Try.ntmps37
    go_wp2_with fail
    refine (ref_ahead.calls s e v B g gc w hS.out hok.out hL.out hsz.out).mono ?_
    rintro r w2 ⟨rfl, hgo, _, hm⟩
    obtain ⟨hb2, _, _, _⟩ := hgo HE.out
    rw [HE.out, if_pos rfl, HX.out]
    have HS2 := Aside0.mk (hS.out.below hb2)
    have HB2 := Aside0.mk hb2
    clear hgo hm hb2
    unfold got
    go_wp2_with fail
    have HS3 := Aside0.mk (HS2.out.below (below_alloc (Below.refl _ _) (.cells #[.int .u64 (x : Int), .int .i64 0, .int .i64 0] 56)))
    have HB3 := Aside0.mk (below_alloc HB2.out (.cells #[.int .u64 (x : Int), .int .i64 0, .int .i64 0] 56))
    generalize w2.alloc (.cells #[.int .u64 (x : Int), .int .i64 0, .int .i64 0] 56) = w3 at *
    have hg0 : w3.cell? ⟨g, 0, none⟩ = some (.string s) := blk_cell HS3.out.blk 0
    have hg1 : w3.cell? ⟨g, 1, none⟩ = some (.pointer (some ⟨gc, 0, none⟩)) := blk_cell HS3.out.blk 1
    rcases hcase with ⟨rfl, rfl⟩ | ⟨hne, rfl⟩
    · have hq : decide (s.data.toList = s.data.toList) = true := decide_eq_true rfl
      have hC : ∀ n, Aside0 (CodAt (w3.drewN n) B gc e v) := fun n => ⟨⟨HS3.out.cod.blk, HS3.out.cod.own, HS3.out.cod.far⟩⟩
      go_quiet ((go_at_call 29; exact Calls.quiet_of_same (ref_Bytes.same e v B gc _ (hC _) s hb)))
      go_wp2
      go_ret
      exact ⟨rfl, HS3.out.mine (S := fun _ => False) (Mine.drewN (Mine.refl _ _) _) (fun _ _ h => h), Mine.drewN (Mine.of_below _ HB3.out) _⟩
    · have hq : (s.toList == b.toList) = false := str_ne hne
      have hC : ∀ n, Aside0 (CodAt (w3.drewN n) B gc e v) := fun n => ⟨⟨HS3.out.cod.blk, HS3.out.cod.own, HS3.out.cod.far⟩⟩
      have hf2 := blk_frozen HS3.out.blk 2
      have hg2 : w3.cell? ⟨g, 2, none⟩ = some (.bool false) := blk_cell HS3.out.blk 2
      have HN := Aside0.mk hne
      clear hne
      go_quiet ((go_at_call 29; exact Calls.quiet_of_same (ref_Bytes.same e v B gc _ (hC _) b hb)))
      go_wp2
      go_ret
      exact ⟨rfl, fun h => by omega, fun _ => ⟨gc, blk_put (cs' := rdCells s gc true) (blk_drewN HS3.out.blk _) 2 (.bool true) rfl⟩, Mine.set (S := (· = g)) (Mine.drewN (Mine.of_below _ HB3.out) _) (Or.inl rfl) _⟩
  · have hE : endE s e = errE s e := endE_err s e (by omega)
    have hn2 : errE s e = n := by rw [← hE]; exact hn.out
    have HN2 := Aside0.mk hn2
    have h23 : n = 2 ∨ n = 3 := by omega
    clear he hE hn2
    rcases h23 with rfl | rfl
    all_goals
      go_enter Try.func37, Try.ntmps37
      go_wp2_with fail
      refine (ref_ahead.calls s e v B g gc w hS.out hok.out hL.out hsz.out).mono ?_
      rintro r w2 ⟨rfl, _, hd, hm⟩
      have hdd := Aside0.mk (hd (by rw [HN2.out]; decide))
      have HM := Aside0.mk hm
      rw [HN2.out, if_neg (by decide)]
      clear hd hm
      unfold got
      go_wp2
      go_ret
      exact ⟨rfl, fun h => by omega, fun _ => hdd.out.mine (S := fun _ => False) (Mine.alloc (Mine.refl _ _) _) (fun h => h), Mine.alloc HM.out _⟩
theorem one_bit (b : Bool) (f : Enc) (V : Nat) (hV : V = if b then 1 else 0) : directE V (lenN 1) f = halfE b f := by
  have h1 : lenN 1 = 1 := lenN_nat 1 (by decide)
  rw [h1, hV]
  cases b <;> rfl
theorem or_bit (v y : Nat) (h : v * 2 = y) (hy : y < 18446744073709551616) : Go.bits .or .u64 (y : Int) 0 = (y : Int) := by
  rw [show (0 : Int) = ((0 : Nat) : Int) from rfl, u64_or_nat _ _ hy (by omega), Nat.or_zero]
attribute [local go_sem ↓] Go.wp_at_zero Go.wp_at_succ
attribute [local go_sem] max2_mx min2_mn max_two min_two
set_option maxHeartbeats 4000000 in
set_option maxRecDepth 100000 in
theorem ref_RDirect.live (s : ByteArray) (e : Enc) (v0 : Value) (B g gc : Nat) (n : Int) (w : World) (V er : Nat) (f' : Enc) (hdir : Aside0 (dirS s (lenN n) e 0 = (V, er, f'))) (hS : Aside0 (ReadAt w B g gc s e v0)) (hok : Aside0 e.ok) (hL : Aside0 (e.L ≤ 800000000)) (hsz : Aside0 (s.size ≤ 1000000000)) (hB : Aside0 (B ≤ w.heap.size)) :
    Calls Try.prog 33 #[.pointer (some ⟨g, 0, none⟩), .int .i64 n] w fun r w' => r = .returned (got V er) ∧ ∃ v', (er = 0 → ReadAt w' B g gc s f' v' ∧ f'.ok ∧ f'.L ≤ e.L + 256) ∧ (er ≠ 0 → BadAt w' g s) ∧ RMoved g gc w v0 w' v' := by
  have hu2 := Try.underlying97
  have hu3 := Try.underlying56
  have hu4 := Try.underlying89
  have hNv := lenN_val n
  have hN64 := Aside0.mk (lenN_le n)
  obtain ⟨N, hN⟩ : ∃ N, lenN n = N := ⟨_, rfl⟩
  rw [hN] at hNv hN64 hdir
  have hS1 := hS.out.below (below_alloc (Below.refl _ _) (.cells #[.int .u64 0, .int .i64 0, .int .i64 0] 56))
  have HB0 : Aside0 (Below w.heap.size w (w.alloc (.cells #[.int .u64 0, .int .i64 0, .int .i64 0] 56))) := ⟨below_alloc (Below.refl _ _) _⟩
  have NA : (w.alloc (.cells #[.int .u64 0, .int .i64 0, .int .i64 0] 56)).heap[w.heap.size]? = some (.cells #[.int .u64 0, .int .i64 0, .int .i64 0] 56 (0, 0)) := blk_new _ _
  have hfl : Aside0 (∀ k, rfoot g gc v0 k → k < w.heap.size) := ⟨hS.out.lt⟩
  obtain ⟨w1, hw1⟩ : ∃ w1, w.alloc (.cells #[.int .u64 0, .int .i64 0, .int .i64 0] 56) = w1 := ⟨_, rfl⟩
  rw [hw1] at hS1 NA HB0
  have HS1 := Aside0.mk hS1
  have NA1 := Aside0.mk NA
  clear hS1 NA
  obtain ⟨gr, hgr⟩ : ∃ gr, w.heap.size = gr := ⟨_, rfl⟩
  rw [hgr] at NA1 hfl
  have HG := Aside0.mk hgr
  have hg1l : Aside0 (gr < w1.heap.size) := ⟨blk_lt NA1.out⟩
  have hB1 : Aside0 (B ≤ w1.heap.size) := ⟨Nat.le_trans hB.out HB0.out.size⟩
  go_enter Try.func33, Try.ntmps33
  go_wp2_with fail
  go_loopg [5, 6] (N + 1) (fun kq v5 v6 w' => ∃ (i v : Nat) (f : Enc) (u : Value), v5 = .int .u64 (v : Int) ∧ v6 = .int .i64 (i : Int) ∧ Aside0 (kq = N - i + 1) ∧ Aside0 (i ≤ N) ∧ Aside0 (v < 2 ^ i) ∧ Aside0 (dirS s (N - i) f v = (V, er, f')) ∧ Aside0 f.ok ∧ Aside0 (f.L ≤ e.L + 4 * i) ∧ Aside0 (ReadAt w' B g gc s f u) ∧ Aside0 (w'.heap[gr]? = some (.cells #[.int .u64 0, .int .i64 0, .int .i64 0] 56 (0, 0))) ∧ Aside0 (RMoved g gc w1 v0 w' u))
  case atStart => exact ⟨0, 0, e, v0, rfl, rfl, ⟨rfl⟩, ⟨Nat.zero_le _⟩, ⟨by decide⟩, hdir, hok, ⟨Nat.le_refl _⟩, HS1, NA1, ⟨RMoved.refl _ _ _ _⟩⟩
  case round =>
    clear hdir hS HS1 NA1
    obtain ⟨i, v, f, u, rfl, rfl, hk, hi, hv, hd, hfo, hfL, HS, NA, HM⟩ := hrel
    cases gk with
    | zero => exact absurd hk.out (by omega)
    | succ k1 =>
      have hi2 := hi.out
      have hfu : Aside0 (∀ k, rfoot g gc u k → k < gr ∨ w1.heap.size ≤ k) := ⟨fun k hk => (HM.out.foot k hk).elim (fun h => Or.inl (hfl.out k h)) Or.inr⟩
      have HWM : Aside0 (RMoved g gc w v0 wr u) := ⟨RMoved.trans ⟨Mine.of_below _ HB0.out, Or.inl rfl⟩ HM.out⟩
      by_cases hiN : i < N
      · have hiN1 : decide ((i : Int) < (N : Int)) = true := decide_eq_true (by omega)
        obtain ⟨m, hm⟩ : ∃ m, N - i = m + 1 := ⟨N - i - 1, by omega⟩
        rw [hm] at hd
        have hfLb : Aside0 (f.L ≤ 800000256) := ⟨by have := hfL.out; have := hL.out; have := hN64.out; omega⟩
        go_wp2_with fail
        refine (ref_ahead.calls s f u B g gc wr HS.out hfo.out (by have := hfLb.out; omega) hsz.out).mono ?_
        rintro r w2 ⟨rfl, hgo, hdead, hmn⟩
        have NA2 := Aside0.mk (blk_mine NA.out hmn (by have := hfl.out g (Or.inl rfl); show ¬ gr = g; omega))
        rcases errE_small s f with he | he
        · obtain ⟨hb2, hlt, hfit, hnum⟩ := hgo he
          rw [he, if_pos rfl]
          have HS2 := Aside0.mk (HS.out.below hb2)
          have HM2 : Aside0 (RMoved g gc w1 v0 w2 u) := ⟨HM.out.below hb2⟩
          clear hgo hdead hmn HM HS NA hb2 hfit hnum HWM
          obtain ⟨x, hx⟩ : ∃ x, dE s f = x := ⟨_, rfl⟩
          rw [hx]
          have hR := hfo.out.2.2.1
          have hR1 := hfo.out.2.1
          obtain ⟨h, hh⟩ : ∃ h, f.R / 2 = h := ⟨_, rfl⟩
          have hh1 : (f.R : Int) / 2 = (h : Int) := by omega
          have hvb : v < 9223372036854775808 := Nat.lt_of_lt_of_le hv.out (by have : 2 ^ i ≤ 2 ^ 63 := Nat.pow_le_pow_right (by decide) (by have := hN64.out; omega); exact this)
          obtain ⟨y, hy⟩ : ∃ y, v * 2 = y := ⟨_, rfl⟩
          have hvy : IntKind.u64.wrap ((v : Int) * 2) = (y : Int) := by rw [IntKind.wrap_u64]; omega
          have hor := or_one v y hy (by omega)
          have hor0 := or_bit v y hy (by omega)
          obtain ⟨y1, hy1⟩ : ∃ y1, v * 2 + 1 = y1 := ⟨_, rfl⟩
          rw [hy1] at hor
          have hp2 : 2 ^ (i + 1) = 2 ^ i * 2 := Nat.pow_succ 2 i
          have hv2 := hv.out
          have hNext := Aside0.mk (And.intro hp2 (And.intro hy hy1))
          have HX := Aside0.mk hx
          have HH := Aside0.mk hh
          have HE := Aside0.mk he
          have hHor := Aside0.mk (And.intro hvy (And.intro hor hor0))
          clear hx hh he hp2 hvy hor hor0 hlt
          unfold got
          go_wp2_with fail
          obtain ⟨w3, hw3⟩ : ∃ w3, w2.alloc (.cells #[.int .u64 (x : Int), .int .i64 0, .int .i64 0] 56) = w3 := ⟨_, rfl⟩
          obtain ⟨gd, hgd⟩ : ∃ gd, w2.heap.size = gd := ⟨_, rfl⟩
          have DA3 : Aside0 (w3.heap[gd]? = some (.cells #[.int .u64 (x : Int), .int .i64 0, .int .i64 0] 56 (0, 0))) := ⟨by rw [← hw3, ← hgd]; exact blk_new _ _⟩
          have hb3 : Below w2.heap.size w2 w3 := by rw [← hw3]; exact below_alloc (Below.refl _ _) _
          have NA3 := Aside0.mk (blk_below NA2.out hb3)
          have HS3 := Aside0.mk (HS2.out.below hb3)
          have HM3 := Aside0.mk (HM2.out.below hb3)
          rw [hw3, hgd]
          clear NA2 HS2 HM2 hw3 hgd hb3
          have hd0 : w3.cell? ⟨gd, 0, none⟩ = some (.int .u64 (x : Int)) := blk_cell DA3.out 0
          have hg1 : w3.cell? ⟨g, 1, none⟩ = some (.pointer (some ⟨gc, 0, none⟩)) := blk_cell HS3.out.blk 1
          have hc1 : w3.cell? ⟨gc, 1, none⟩ = some (.int .u64 (f.R : Int)) := blk_cell HS3.out.cod.blk 1
          by_cases hzx : h ≤ x
          · have hb1 : decide (h ≤ x) = true := decide_eq_true hzx
            have hb2 : decide ((h : Int) ≤ (x : Int)) = true := decide_eq_true (by omega)
            have hb3 : decide ((x : Int) ≥ (h : Int)) = true := decide_eq_true (by omega)
            have HBB := Aside0.mk (show decide (f.R / 2 ≤ dE s f) = true by rw [HH.out, HX.out]; exact hb1)
            clear hzx
            go_quiet (fail)
            have NA4 := Aside0.mk (blk_drewN NA3.out nq)
            have HS4 : Aside0 (ReadAt (w3.drewN nq) B g gc s f u) := ⟨⟨HS3.out.blk, ⟨HS3.out.cod.blk, HS3.out.cod.own, HS3.out.cod.far⟩, HS3.out.ne, HS3.out.far, HS3.out.told⟩⟩
            have HM4 : Aside0 (RMoved g gc w1 v0 (w3.drewN nq) u) := ⟨HM3.out.below ⟨rfl, rfl, rfl, Nat.le_refl _, fun _ _ => rfl⟩⟩
            generalize w3.drewN nq = w4 at *
            clear NA3 HS3 HM3 DA3 hd0 hg1 hc1 hb1 hb2 hb3
            have hg1 : w4.cell? ⟨g, 1, none⟩ = some (.pointer (some ⟨gc, 0, none⟩)) := blk_cell HS4.out.blk 1
            go_wp2_with fail
            refine (ref_Direct.calls f u B gc 1 1 w4 ⟨by decide⟩ ⟨HS4.out.cod⟩ hfo ⟨by have := hfLb.out; omega⟩ ⟨Nat.le_trans hB1.out HM4.out.mine.size⟩).mono ?_
            rintro r w5 ⟨rfl, u', hc5, hm5⟩
            rw [one_bit true f 1 rfl] at hc5
            have hgu := hfu.out
            have NA5 := Aside0.mk (blk_mine NA4.out hm5.mine (fun h => h.elim (fun h => by have := hfl.out gc (Or.inr (Or.inl rfl)); omega) (fun h => by have := hfu.out gr (Or.inr (Or.inr h)); have := hg1l.out; omega)))
            have HR5 : Aside0 (w5.heap[g]? = some (.cells (rdCells s gc false) 97 (0, 0))) := ⟨blk_mine HS4.out.blk hm5.mine (fun h => h.elim HS4.out.ne HS4.out.far)⟩
            have hgl4 := blk_lt HS4.out.blk
            have hv5 : u'.ownBlock ≠ some g := by
              rcases hm5.own with h | ⟨k, h, h2⟩
              · exact fun h3 => HS4.out.far (h.symm.trans h3)
              · exact fun h3 => by rw [h] at h3; injection h3 with h3; omega
            have HS5 : Aside0 (ReadAt w5 B g gc s (halfE true f) u') := ⟨HR5.out, hc5, HS4.out.ne, hv5, HS4.out.told.half hfo.out HE.out true HBB.out⟩
            have HM5 := Aside0.mk (HM4.out.trans (RMoved.of_moved hm5))
            have hLn := halfE_L true f
            have hHd : Aside0 (dirS s (N - (i + 1)) (halfE true f) y1 = (V, er, f')) := ⟨by rw [show N - (i + 1) = m by omega]; have := hd.out; rw [dirS_ok s m f v HE.out true HBB.out, show v * 2 + true.toNat = y1 from hNext.out.2.2] at this; exact this⟩
            have hvn : Aside0 (y1 < 2 ^ (i + 1)) := ⟨by rw [hNext.out.1]; omega⟩
            have hkn : Aside0 (k1 = N - (i + 1) + 1) := ⟨by have := hk.out; omega⟩
            have hfLn : Aside0 ((halfE true f).L ≤ e.L + 4 * (i + 1)) := ⟨by have := hfL.out; omega⟩
            clear hc5 hm5 hg1 hgu hh1 hy hy1 hv5 hgl4
            have hvy := hHor.out.1
            have hor := hHor.out.2.1
            have hi64 : (i : Int) ≤ 64 := by have := hN64.out; omega
            go_wp2_with fail
            go_roundg k1
            case measure => have := hk.out; omega
            case rel => exact ⟨i + 1, y1, _, u', rfl, by first | rfl | exact wrap_one i (by omega), hkn, ⟨hiN⟩, hvn, hHd, ⟨halfE_ok hfo.out _⟩, hfLn, HS5, NA5, HM5⟩
          · have hb1 : decide (h ≤ x) = false := decide_eq_false hzx
            have hb2 : decide ((h : Int) ≤ (x : Int)) = false := decide_eq_false (by omega)
            have hb3 : decide ((x : Int) ≥ (h : Int)) = false := decide_eq_false (by omega)
            have HBB := Aside0.mk (show decide (f.R / 2 ≤ dE s f) = false by rw [HH.out, HX.out]; exact hb1)
            clear hzx
            go_quiet (fail)
            have NA4 := Aside0.mk (blk_drewN NA3.out nq)
            have HS4 : Aside0 (ReadAt (w3.drewN nq) B g gc s f u) := ⟨⟨HS3.out.blk, ⟨HS3.out.cod.blk, HS3.out.cod.own, HS3.out.cod.far⟩, HS3.out.ne, HS3.out.far, HS3.out.told⟩⟩
            have HM4 : Aside0 (RMoved g gc w1 v0 (w3.drewN nq) u) := ⟨HM3.out.below ⟨rfl, rfl, rfl, Nat.le_refl _, fun _ _ => rfl⟩⟩
            generalize w3.drewN nq = w4 at *
            clear NA3 HS3 HM3 DA3 hd0 hg1 hc1 hb1 hb2 hb3
            have hg1 : w4.cell? ⟨g, 1, none⟩ = some (.pointer (some ⟨gc, 0, none⟩)) := blk_cell HS4.out.blk 1
            go_wp2_with fail
            refine (ref_Direct.calls f u B gc 0 1 w4 ⟨by decide⟩ ⟨HS4.out.cod⟩ hfo ⟨by have := hfLb.out; omega⟩ ⟨Nat.le_trans hB1.out HM4.out.mine.size⟩).mono ?_
            rintro r w5 ⟨rfl, u', hc5, hm5⟩
            rw [one_bit false f 0 rfl] at hc5
            have hgu := hfu.out
            have NA5 := Aside0.mk (blk_mine NA4.out hm5.mine (fun h => h.elim (fun h => by have := hfl.out gc (Or.inr (Or.inl rfl)); omega) (fun h => by have := hfu.out gr (Or.inr (Or.inr h)); have := hg1l.out; omega)))
            have HR5 : Aside0 (w5.heap[g]? = some (.cells (rdCells s gc false) 97 (0, 0))) := ⟨blk_mine HS4.out.blk hm5.mine (fun h => h.elim HS4.out.ne HS4.out.far)⟩
            have hgl4 := blk_lt HS4.out.blk
            have hv5 : u'.ownBlock ≠ some g := by
              rcases hm5.own with h | ⟨k, h, h2⟩
              · exact fun h3 => HS4.out.far (h.symm.trans h3)
              · exact fun h3 => by rw [h] at h3; injection h3 with h3; omega
            have HS5 : Aside0 (ReadAt w5 B g gc s (halfE false f) u') := ⟨HR5.out, hc5, HS4.out.ne, hv5, HS4.out.told.half hfo.out HE.out false HBB.out⟩
            have HM5 := Aside0.mk (HM4.out.trans (RMoved.of_moved hm5))
            have hLn := halfE_L false f
            have hHd : Aside0 (dirS s (N - (i + 1)) (halfE false f) y = (V, er, f')) := ⟨by rw [show N - (i + 1) = m by omega]; have := hd.out; rw [dirS_ok s m f v HE.out false HBB.out, show v * 2 + false.toNat = y from (Nat.add_zero _).trans hNext.out.2.1] at this; exact this⟩
            have hvn : Aside0 (y < 2 ^ (i + 1)) := ⟨by rw [hNext.out.1]; omega⟩
            have hkn : Aside0 (k1 = N - (i + 1) + 1) := ⟨by have := hk.out; omega⟩
            have hfLn : Aside0 ((halfE false f).L ≤ e.L + 4 * (i + 1)) := ⟨by have := hfL.out; omega⟩
            clear hc5 hm5 hg1 hgu hh1 hy hy1 hv5 hgl4
            have hvy := hHor.out.1
            have hor := hHor.out.2.2
            have hi64 : (i : Int) ≤ 64 := by have := hN64.out; omega
            go_wp2_with fail
            go_roundg k1
            case measure => have := hk.out; omega
            case rel => exact ⟨i + 1, y, _, u', rfl, by first | rfl | exact wrap_one i (by omega), hkn, ⟨hiN⟩, hvn, hHd, ⟨halfE_ok hfo.out _⟩, hfLn, HS5, NA5, HM5⟩
        · have hen : errE s f ≠ 0 := by omega
          have HD := Aside0.mk (hdead hen)
          have HM2 := Aside0.mk (RMoved.trans HWM.out (RMoved.of_g hmn))
          have hd2 := hd.out
          rw [dirS_err s m f v hen] at hd2
          injection hd2 with e1 e2
          injection e2 with e2 e3
          subst e1
          have her : Aside0 (errE s f = er) := ⟨e2⟩
          rw [if_neg hen, e2]
          have h23 : er = 2 ∨ er = 3 := by omega
          clear hgo hdead hmn HM HS NA HWM hen he e2 e3
          have hglt : gr < w2.heap.size := blk_lt NA2.out
          have hne1 : (gr = w2.heap.size) = False := eq_false (by omega)
          have hne2 : (w2.heap.size = gr) = False := eq_false (by omega)
          have hr0 := blk_cell NA2.out 0
          have hr1 := blk_cell NA2.out 1
          have hr2 := blk_cell NA2.out 2
          have hq0 := blk_frozen NA2.out 0
          have hq1 := blk_frozen NA2.out 1
          have hq2 := blk_frozen NA2.out 2
          simp at hr0 hr1 hr2
          unfold got
          rcases h23 with rfl | rfl
          all_goals
            go_wp2
            refine bodyPost_ret (results_cell_row rfl _ _ gr 56 _ (0, 0) _ rfl (blk_alloc (blk_set (blk_set (blk_set NA2.out 0 _) 1 _) 2 _) _) hu3 rfl rfl) rfl ⟨rfl, u, fun h => by omega, fun _ => ?_, ?_⟩
            · exact HD.out.mine (S := (· = gr)) (Mine.alloc (Mine.set (Mine.set (Mine.set (Mine.refl (· = gr) _) (Or.inl rfl) _) (Or.inl rfl) _) (Or.inl rfl) _) _) (by have := hfl.out g (Or.inl rfl); show ¬ g = gr; omega)
            · exact ⟨Mine.alloc (Mine.set (Mine.set (Mine.set HM2.out.mine (Or.inr (Nat.le_of_eq HG.out)) _) (Or.inr (Nat.le_of_eq HG.out)) _) (Or.inr (Nat.le_of_eq HG.out)) _) _, HM2.out.own⟩
      · have hiN1 : decide ((i : Int) < (N : Int)) = false := decide_eq_false (by omega)
        have hd2 := hd.out
        rw [show N - i = 0 by omega, dirS_zero] at hd2
        injection hd2 with e1 e2
        injection e2 with e2 e3
        subst e1 e2 e3
        have hr0 := blk_cell NA.out 0
        have hr1 := blk_cell NA.out 1
        have hr2 := blk_cell NA.out 2
        have hq0 := blk_frozen NA.out 0
        have hq1 := blk_frozen NA.out 1
        have hq2 := blk_frozen NA.out 2
        simp at hr0 hr1 hr2
        go_wp2
        refine bodyPost_ret (results_cell_row rfl _ _ gr 56 _ (0, 0) _ rfl (blk_set (blk_set (blk_set NA.out 0 _) 1 _) 2 _) hu3 rfl rfl) rfl ⟨rfl, u, ⟨?_, hfo.out, ?_⟩, ?_⟩
        · refine HS.out.mine (S := (· = gr)) (Mine.set (Mine.set (Mine.set (Mine.refl (· = gr) _) (Or.inl rfl) _) (Or.inl rfl) _) (Or.inl rfl) _) ?_
          intro k hkf (hkg : k = gr)
          have := hfu.out k hkf
          have := hg1l.out
          omega
        · have := hfL.out; have := hN64.out; omega
        · exact ⟨Mine.set (Mine.set (Mine.set HWM.out.mine (Or.inr (Nat.le_of_eq HG.out)) _) (Or.inr (Nat.le_of_eq HG.out)) _) (Or.inr (Nat.le_of_eq HG.out)) _, HWM.out.own⟩
set_option maxHeartbeats 4000000 in
set_option maxRecDepth 100000 in
theorem ref_RDirect.bad (s : ByteArray) (g : Nat) (n : Int) (w : World) (hS : Aside0 (BadAt w g s)) (er : Nat) (her : er = if lenN n = 0 then 0 else 3) :
    Calls Try.prog 33 #[.pointer (some ⟨g, 0, none⟩), .int .i64 n] w fun r w' => r = .returned (got 0 er) ∧ Below w.heap.size w w' := by
  have hu3 := Try.underlying56
  have hNv := lenN_val n
  obtain ⟨N, hN⟩ : ∃ N, lenN n = N := ⟨_, rfl⟩
  rw [hN] at hNv her
  have hS1 := hS.out.below (below_alloc (Below.refl _ _) (.cells #[.int .u64 0, .int .i64 0, .int .i64 0] 56))
  have HB0 : Aside0 (Below w.heap.size w (w.alloc (.cells #[.int .u64 0, .int .i64 0, .int .i64 0] 56))) := ⟨below_alloc (Below.refl _ _) _⟩
  have NA : (w.alloc (.cells #[.int .u64 0, .int .i64 0, .int .i64 0] 56)).heap[w.heap.size]? = some (.cells #[.int .u64 0, .int .i64 0, .int .i64 0] 56 (0, 0)) := blk_new _ _
  obtain ⟨w1, hw1⟩ : ∃ w1, w.alloc (.cells #[.int .u64 0, .int .i64 0, .int .i64 0] 56) = w1 := ⟨_, rfl⟩
  rw [hw1] at hS1 NA HB0
  have HS1 := Aside0.mk hS1
  have NA1 := Aside0.mk NA
  clear hS1 NA
  obtain ⟨gr, hgr⟩ : ∃ gr, w.heap.size = gr := ⟨_, rfl⟩
  rw [hgr] at NA1
  have HG := Aside0.mk hgr
  have NN := Aside0.mk hN
  clear hN
  by_cases hN0 : N = 0
  · rw [if_pos hN0] at her
    subst her hN0
    have hr0 := blk_cell NA1.out 0
    have hr1 := blk_cell NA1.out 1
    have hr2 := blk_cell NA1.out 2
    have hq0 := blk_frozen NA1.out 0
    have hq1 := blk_frozen NA1.out 1
    have hq2 := blk_frozen NA1.out 2
    simp at hr0 hr1 hr2
    go_enter Try.func33, Try.ntmps33
    go_wp2_with fail
    go_loopg [5, 6] 1 (fun kq v5 v6 w' => v5 = .int .u64 0 ∧ v6 = .int .i64 0 ∧ Aside0 (kq = 1) ∧ w' = w1)
    case atStart => exact ⟨rfl, rfl, ⟨rfl⟩, rfl⟩
    case round =>
    obtain ⟨rfl, rfl, hk, rfl⟩ := hrel
    go_wp2
    refine bodyPost_ret (results_cell_row rfl _ _ gr 56 _ (0, 0) _ rfl (blk_set (blk_set (blk_set NA1.out 0 _) 1 _) 2 _) hu3 rfl rfl) rfl ⟨rfl, ?_⟩
    exact below_of_set3 HB0.out HG.out
  · rw [if_neg hN0] at her
    subst her
    have hN1 : decide ((0 : Int) < (N : Int)) = true := decide_eq_true (by omega)
    have hN2 : decide (0 < N) = true := decide_eq_true (by omega)
    go_enter Try.func33, Try.ntmps33
    go_wp2_with fail
    go_loopg [5, 6] 1 (fun kq v5 v6 w' => v5 = .int .u64 0 ∧ v6 = .int .i64 0 ∧ Aside0 (kq = 1) ∧ w' = w1)
    case atStart => exact ⟨rfl, rfl, ⟨rfl⟩, rfl⟩
    case round =>
    obtain ⟨rfl, rfl, hk, rfl⟩ := hrel
    go_wp2_with fail
    refine (ref_ahead.bad s g _ HS1).mono ?_
    rintro r w2 ⟨rfl, hb⟩
    have NA2 := Aside0.mk (blk_below NA1.out hb)
    have HB2 : Aside0 (Below w.heap.size w w2) := ⟨below_step HB0.out hb⟩
    have hglt : gr < w2.heap.size := blk_lt NA2.out
    have hne1 : (gr = w2.heap.size) = False := eq_false (by omega)
    have hne2 : (w2.heap.size = gr) = False := eq_false (by omega)
    have hr0 := blk_cell NA2.out 0
    have hr1 := blk_cell NA2.out 1
    have hr2 := blk_cell NA2.out 2
    have hq0 := blk_frozen NA2.out 0
    have hq1 := blk_frozen NA2.out 1
    have hq2 := blk_frozen NA2.out 2
    simp at hr0 hr1 hr2
    unfold got
    clear hb
    go_wp2
    refine bodyPost_ret (results_cell_row rfl _ _ gr 56 _ (0, 0) _ rfl (blk_alloc (blk_set (blk_set (blk_set NA2.out 0 _) 1 _) 2 _) _) hu3 rfl rfl) rfl ⟨rfl, ?_⟩
    exact below_alloc (below_of_set3 HB2.out HG.out) _
end Go.Proofs.Ytgldblakdhalkaa
