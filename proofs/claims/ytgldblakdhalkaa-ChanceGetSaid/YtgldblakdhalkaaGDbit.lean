/- What the decoder's Bit, Direct and End come to. Conditions: as each contract states. -/
import Derived.Test.YtgldblakdhalkaaGGate
namespace Go.Proofs.Ytgldblakdhalkaa
set_option linter.unusedVariables false
open Go.RowKit Go.Proofs.YtgldblakdhalkaaW.PrintWords Go.Proofs.YtgldblakdhalkaaW.PrintLast Go.Proofs.YtgldblakdhalkaaW.PrintMore Go.Proofs.Ytgldblakdhalkaa.PBase
/-- A decoder that tells bits, in memory. -/
def LiveAt (w : World) (g : Nat) (s : ByteArray) (e : Enc) : Prop := ∃ a v, DecAt w g s e a v ∧ DecIn s e a v
theorem dec_blk {w : World} {g : Nat} {s : ByteArray} {e : Enc} (h : LiveAt w g s e) : g < w.heap.size := by
  obtain ⟨a, v, h1, _⟩ := h
  exact blk_lt (show w.heap[g]? = some _ from h1)
theorem LiveAt.mine {S : Nat → Prop} {w w' : World} {g : Nat} {s : ByteArray} {e : Enc} (h : LiveAt w g s e) (hm : Mine S w w') (hg : ¬ S g) : LiveAt w' g s e := by
  obtain ⟨a, v, h1, h2⟩ := h
  exact ⟨a, v, blk_mine h1 hm hg, h2⟩
theorem LiveAt.below {w w' : World} {g : Nat} {s : ByteArray} {e : Enc} (h : LiveAt w g s e) (hb : Below w.heap.size w w') : LiveAt w' g s e := h.mine (Mine.of_below (fun _ => False) hb) (fun h => h)
theorem DeadAt.mine {S : Nat → Prop} {w w' : World} {g : Nat} {s : ByteArray} (h : DeadAt w g s) (hm : Mine S w w') (hg : ¬ S g) : DeadAt w' g s := by
  obtain ⟨a, n, v, z, h1⟩ := h
  exact ⟨a, n, v, z, blk_mine h1 hm hg⟩
theorem DeadAt.below {w w' : World} {g : Nat} {s : ByteArray} (h : DeadAt w g s) (hb : Below w.heap.size w w') : DeadAt w' g s := h.mine (Mine.of_below (fun _ => False) hb) (fun h => h)
theorem dec_gate.calls (s : ByteArray) (e : Enc) (g : Nat) (w : World) (hS : LiveAt w g s e) (hok : e.ok) (hL : e.L ≤ 1000000000) (hsz : s.size ≤ 1000000000) :
    Calls Try.prog 54 #[.pointer (some ⟨g, 0, none⟩)] w fun r w' => r = .returned (.int .i64 (errE s e : Int)) ∧ (errE s e = 0 → DecAt w' g s e (e.L + 4) (dE s e) ∧ dE s e < e.R ∧ e.L + 4 ≤ s.size ∧ numB s (e.L + 4) = dE s e + e.V) ∧ (errE s e ≠ 0 → DeadAt w' g s) ∧ Mine (· = g) w w' := by
  obtain ⟨a, v, h1, h2⟩ := hS
  by_cases hm : s.size < e.L + 4
  · have he : errE s e = 2 := by unfold errE; rw [if_pos hm]
    rw [he]
    refine (dec_gate.more s e a v g w ⟨h1⟩ hm).mono ?_
    rintro r w' ⟨rfl, hd, hmn⟩
    exact ⟨rfl, fun h => by omega, fun _ => hd, hmn⟩
  · have hop := h2.open_ (by omega)
    have hx : numB s (e.L + 4) = dE s e + e.V := by unfold dE; omega
    refine (dec_gate.read s e a v g w ⟨h1⟩ ⟨h2⟩ ⟨hok⟩ ⟨hL⟩ (by omega) ⟨hsz⟩ (dE s e) hx).mono ?_
    rintro r w' ⟨h | h, hmn⟩
    · obtain ⟨hlt, rfl, hd⟩ := h
      have he : errE s e = 0 := by unfold errE; rw [if_neg hm, if_neg (by omega)]
      rw [he]
      exact ⟨rfl, fun _ => ⟨hd, hlt, by omega, hx⟩, fun h => absurd rfl h, hmn⟩
    · obtain ⟨hlt, rfl, hd⟩ := h
      have he : errE s e = 3 := by unfold errE; rw [if_neg hm, if_pos (by omega)]
      rw [he]
      exact ⟨rfl, fun h => by omega, fun _ => hd, hmn⟩
theorem errE_small (s : ByteArray) (e : Enc) : errE s e = 0 ∨ errE s e = 2 ∨ errE s e = 3 := by
  unfold errE
  split
  · exact Or.inr (Or.inl rfl)
  · split
    · exact Or.inr (Or.inr rfl)
    · exact Or.inl rfl
attribute [local go_sem ↓] Go.wp_at_zero Go.wp_at_succ
set_option maxHeartbeats 4000000 in
set_option maxRecDepth 100000 in
theorem dec_Bit.dead (s : ByteArray) (g : Nat) (p : Int) (w : World) (hS : Aside0 (DeadAt w g s)) :
    Calls Try.prog 34 #[.pointer (some ⟨g, 0, none⟩), .int .i64 p] w fun r w' => r = .returned (.tuple #[.int .i64 0, .int .i64 3]) ∧ Below w.heap.size w w' := by
  go_enter Try.func34, Try.ntmps34
  go_wp2_with fail
  refine (dec_gate.dead s g w hS).mono ?_
  rintro r w' ⟨rfl, hb⟩
  go_wp2
  go_ret2
  exact ⟨rfl, hb⟩
set_option maxHeartbeats 4000000 in
set_option maxRecDepth 100000 in
theorem dec_Bit.err (s : ByteArray) (e : Enc) (g : Nat) (p : Int) (w : World) (hS : Aside0 (LiveAt w g s e)) (hok : Aside0 e.ok) (hL : Aside0 (e.L ≤ 1000000000)) (hsz : Aside0 (s.size ≤ 1000000000)) (n : Nat) (hn : Aside0 (errE s e = n)) (h23 : n = 2 ∨ n = 3) :
    Calls Try.prog 34 #[.pointer (some ⟨g, 0, none⟩), .int .i64 p] w fun r w' => r = .returned (.tuple #[.int .i64 0, .int .i64 (n : Int)]) ∧ DeadAt w' g s ∧ Mine (· = g) w w' := by
  rcases h23 with rfl | rfl
  · go_enter Try.func34, Try.ntmps34
    go_wp2_with fail
    refine (dec_gate.calls s e g w hS.out hok.out hL.out hsz.out).mono ?_
    rintro r w' ⟨rfl, _, hd, hm⟩
    have hdd := hd (by rw [hn.out]; decide)
    rw [hn.out]
    clear hd
    go_wp2
    go_ret2
    exact ⟨rfl, hdd, hm⟩
  · go_enter Try.func34, Try.ntmps34
    go_wp2_with fail
    refine (dec_gate.calls s e g w hS.out hok.out hL.out hsz.out).mono ?_
    rintro r w' ⟨rfl, _, hd, hm⟩
    have hdd := hd (by rw [hn.out]; decide)
    rw [hn.out]
    clear hd
    go_wp2
    go_ret2
    exact ⟨rfl, hdd, hm⟩
set_option maxHeartbeats 4000000 in
set_option maxRecDepth 100000 in
theorem dec_Bit.ok (s : ByteArray) (e : Enc) (g : Nat) (p : Int) (w : World) (hS : Aside0 (LiveAt w g s e)) (hok : Aside0 e.ok) (hL : Aside0 (e.L ≤ 1000000000)) (hsz : Aside0 (s.size ≤ 1000000000)) (he : Aside0 (errE s e = 0)) (bb : Bool) (hbb : decide (dE s e < shareN e.R p) = bb) :
    Calls Try.prog 34 #[.pointer (some ⟨g, 0, none⟩), .int .i64 p] w fun r w' => r = .returned (.tuple #[.int .i64 (if bb then 1 else 0), .int .i64 0]) ∧ LiveAt w' g s (bitE p bb e) ∧ Mine (· = g) w w' := by
  have hu2 := Try.underlying95
  obtain ⟨h1, h2, h3, h4⟩ := hok.out
  have hs := shareN_range e.R p (by omega)
  have hV := Aside0.mk (share_val e.R p h3)
  obtain ⟨z, hz⟩ : ∃ z, shareN e.R p = z := ⟨_, rfl⟩
  obtain ⟨x, hx⟩ : ∃ x, dE s e = x := ⟨_, rfl⟩
  rw [hz] at hs hV hbb
  rw [hx] at hbb
  go_enter Try.func34, Try.ntmps34
  go_wp2_with fail
  refine (dec_gate.calls s e g w hS.out hok.out hL.out hsz.out).mono ?_
  rintro r w1 ⟨rfl, hgo, _, hm⟩
  obtain ⟨hD, hlt, hfit, hnum⟩ := hgo he.out
  rw [he.out]
  rw [hx] at hD hlt hnum
  have HD := Aside0.mk hD
  have HM := Aside0.mk hm
  have hc4 : w1.cell? ⟨g, 4, none⟩ = some (.int .u64 (e.R : Int)) := blk_cell (show w1.heap[g]? = some _ from hD) 4
  clear hgo hD hm
  go_wp2_with fail
  refine (chance_share.calls _ _ _ _ hV.out).mono ?_
  rintro r w2 ⟨rfl, hb⟩
  have HD2 : Aside0 (DecAt w2 g s e (e.L + 4) x) := ⟨blk_below HD.out hb⟩
  have HM2 := Aside0.mk (Mine.below HM.out hb)
  clear hb HD HM hc4 hV
  go_wp2_with fail
  refine (dec_part.calls s e (e.L + 4) x g z w2 HD2 (by omega) (by omega)).mono ?_
  rintro r w3 ⟨rfl, hD3, hm3⟩
  have HD3 := Aside0.mk hD3
  have HM3 := Aside0.mk (Mine.then_ HM2.out hm3 (fun k hk => Or.inl hk))
  clear HD2 HM2 hm3 hD3
  have hc4 : w3.cell? ⟨g, 4, none⟩ = some (.int .u64 (e.R : Int)) := blk_cell (show w3.heap[g]? = some _ from HD3.out) 4
  have hf4 := blk_frozen (show w3.heap[g]? = some (.cells (decCells s _ _ _ _ false) 95 (0, 0)) from HD3.out) 4
  cases bb
  · have hzx : z ≤ x := by have := of_decide_eq_false hbb; omega
    rw [if_pos hzx] at HD3
    have hb1 : decide (z ≤ x) = true := decide_eq_true hzx
    obtain ⟨q, hq⟩ : ∃ q, e.R - z = q := ⟨_, rfl⟩
    have hw : IntKind.u64.wrap ((e.R : Int) - (z : Int)) = (q : Int) := by rw [IntKind.wrap_u64]; omega
    go_wp2_with fail
    have HD4 : Aside0 (DecAt (w3.setCell ⟨g, 4, none⟩ (.int .u64 (q : Int))) g s ⟨e.V + z, e.L, q⟩ (e.L + 4) (x - z)) := ⟨blk_put (show w3.heap[g]? = some _ from HD3.out) 4 _ rfl⟩
    have HM4 := Aside0.mk (Mine.set (S := (· = g)) (i := 4) HM3.out (Or.inl rfl) (.int .u64 (q : Int)))
    have hpre : Enc.pre ⟨e.V + z, e.L, q⟩ := by have := bitP_pre hok.out p false; unfold bitP at this; rw [if_neg Bool.false_ne_true, hz, hq] at this; exact this
    refine (dec_grow.calls s ⟨e.V + z, e.L, q⟩ (e.L + 4) (x - z) g _ HD4 ⟨hpre⟩ hL).mono ?_
    rintro r w5 ⟨rfl, hD5, hm5⟩
    go_wp2
    go_ret2
    refine ⟨rfl, ⟨e.L + 4, x - z, ?_, ?_⟩, Mine.then_ HM4.out hm5 (fun k hk => Or.inl hk)⟩
    · unfold bitE bitP
      rw [if_neg Bool.false_ne_true, hz, hq]
      exact hD5
    · unfold bitE bitP
      rw [if_neg Bool.false_ne_true, hz, hq]
      exact DecIn.grow 4 _ (DecIn.all (e := ⟨e.V + z, e.L, q⟩) hfit (by simp only; omega) (by simp only; omega)) (by simp only; omega)
  · have hzx : ¬ z ≤ x := by have := of_decide_eq_true hbb; omega
    rw [if_neg hzx] at HD3
    have hb1 : decide (z ≤ x) = false := decide_eq_false hzx
    go_wp2_with fail
    have HD4 : Aside0 (DecAt (w3.setCell ⟨g, 4, none⟩ (.int .u64 (z : Int))) g s ⟨e.V, e.L, z⟩ (e.L + 4) x) := ⟨blk_put (show w3.heap[g]? = some _ from HD3.out) 4 _ rfl⟩
    have HM4 := Aside0.mk (Mine.set (S := (· = g)) (i := 4) HM3.out (Or.inl rfl) (.int .u64 (z : Int)))
    have hpre : Enc.pre ⟨e.V, e.L, z⟩ := by have := bitP_pre hok.out p true; unfold bitP at this; rw [if_pos rfl, hz] at this; exact this
    refine (dec_grow.calls s ⟨e.V, e.L, z⟩ (e.L + 4) x g _ HD4 ⟨hpre⟩ hL).mono ?_
    rintro r w5 ⟨rfl, hD5, hm5⟩
    go_wp2
    go_ret2
    refine ⟨rfl, ⟨e.L + 4, x, ?_, ?_⟩, Mine.then_ HM4.out hm5 (fun k hk => Or.inl hk)⟩
    · unfold bitE bitP
      rw [if_pos rfl, hz]
      exact hD5
    · unfold bitE bitP
      rw [if_pos rfl, hz]
      exact DecIn.grow 4 _ (DecIn.all (e := ⟨e.V, e.L, z⟩) hfit (by simp only; omega) (by simp only; omega)) (by simp only; omega)
end Go.Proofs.Ytgldblakdhalkaa
