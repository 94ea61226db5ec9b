/- What the decoder's gate comes to: an error, or the number of all bytes that are needed, less low. Conditions: as each contract states. -/
import Derived.Test.YtgldblakdhalkaaGDec
namespace Go.Proofs.Ytgldblakdhalkaa
set_option linter.unusedVariables false
open Go.RowKit Go.Proofs.YtgldblakdhalkaaW.PrintWords Go.Proofs.YtgldblakdhalkaaW.PrintLast Go.Proofs.YtgldblakdhalkaaW.PrintMore Go.Proofs.Ytgldblakdhalkaa.PBase
theorem Mine.drewN {S : Nat → Prop} {w W : World} (h : Mine S w W) (n : Nat) : Mine S w (W.drewN n) := ⟨h.os, h.tape, h.output, h.size, h.block⟩
theorem or_byte (v c : Nat) (hv : v < 72057594037927936) (hc : c < 256) : Go.bits .or .u64 ((v * 256 : Nat) : Int) (c : Int) = ((v * 256 + c : Nat) : Int) := by
  rw [u64_or_nat _ _ (by omega) (by omega)]
  have h := or_nat c v 8 hc
  rw [Nat.or_comm]
  have e : (2 : Nat) ^ 8 = 256 := by decide
  rw [e] at h
  rw [h, Nat.add_comm]
attribute [local go_sem ↓] Go.wp_at_zero Go.wp_at_succ
set_option maxHeartbeats 4000000 in
set_option maxRecDepth 100000 in
theorem dec_gate.dead (s : ByteArray) (g : Nat) (w : World) (hS : Aside0 (DeadAt w g s)) :
    Calls Try.prog 54 #[.pointer (some ⟨g, 0, none⟩)] w fun r w' => r = .returned (.int .i64 3) ∧ Below w.heap.size w w' := by
  have hu2 := Try.underlying95
  obtain ⟨a, need, v, size, hb⟩ := hS.out
  have hc5 : w.cell? ⟨g, 5, none⟩ = some (.bool true) := blk_cell hb 5
  clear hb
  go_enter Try.func54, Try.ntmps54
  go_wp2
  go_ret
  exact ⟨rfl, Below.refl _ _⟩
set_option maxHeartbeats 4000000 in
set_option maxRecDepth 100000 in
theorem dec_gate.more (s : ByteArray) (e : Enc) (a v g : Nat) (w : World) (hS : Aside0 (DecAt w g s e a v)) (hm : s.size < e.L + 4) :
    Calls Try.prog 54 #[.pointer (some ⟨g, 0, none⟩)] w fun r w' => r = .returned (.int .i64 2) ∧ DeadAt w' g s ∧ Mine (· = g) w w' := by
  have hu2 := Try.underlying95
  have BA := Aside0.mk hS.out
  unfold DecAt at BA
  obtain ⟨n, hn⟩ : ∃ n, e.L + 4 = n := ⟨_, rfl⟩
  rw [hn] at BA hm
  have hc5 : w.cell? ⟨g, 5, none⟩ = some (.bool false) := blk_cell BA.out 5
  have hf5 := blk_frozen BA.out 5
  have hc2 : w.cell? ⟨g, 2, none⟩ = some (.int .i64 (n : Int)) := blk_cell BA.out 2
  have hc0 : w.cell? ⟨g, 0, none⟩ = some (.string s) := blk_cell BA.out 0
  have hb1 : decide ((n : Int) > (s.size : Int)) = true := decide_eq_true (by omega)
  have hb2 : decide ((s.size : Int) < (n : Int)) = true := decide_eq_true (by omega)
  have hb3 : decide (s.size < n) = true := decide_eq_true hm
  go_enter Try.func54, Try.ntmps54
  go_wp2_with fail
  go_quiet (fail)
  go_wp2
  go_ret
  exact ⟨rfl, ⟨_, _, _, _, blk_put (cs' := decCells s (a : Int) (n : Int) (v : Int) (e.R : Int) true) (blk_drewN BA.out _) 5 (.bool true) rfl⟩, Mine.set (S := (· = g)) (i := 5) (Mine.drewN (Mine.refl _ w) _) (Or.inl rfl) _⟩
set_option maxHeartbeats 4000000 in
set_option maxRecDepth 100000 in
theorem dec_gate.read (s : ByteArray) (e : Enc) (a0 v0 g : Nat) (w : World) (hS : Aside0 (DecAt w g s e a0 v0)) (hI : Aside0 (DecIn s e a0 v0)) (hok : Aside0 e.ok) (hL : Aside0 (e.L ≤ 1000000000)) (hm : e.L + 4 ≤ s.size) (hsz : Aside0 (s.size ≤ 1000000000)) (x : Nat) (hx : numB s (e.L + 4) = x + e.V) :
    Calls Try.prog 54 #[.pointer (some ⟨g, 0, none⟩)] w fun r w' => (x < e.R ∧ r = .returned (.int .i64 0) ∧ DecAt w' g s e (e.L + 4) x ∨ e.R ≤ x ∧ r = .returned (.int .i64 3) ∧ DeadAt w' g s) ∧ Mine (· = g) w w' := by
  have hu2 := Try.underlying95
  have BA := Aside0.mk hS.out
  unfold DecAt at BA
  obtain ⟨n, hn⟩ : ∃ n, e.L + 4 = n := ⟨_, rfl⟩
  rw [hn] at BA hm hx ⊢
  have hc5 : w.cell? ⟨g, 5, none⟩ = some (.bool false) := blk_cell BA.out 5
  have hc2 : w.cell? ⟨g, 2, none⟩ = some (.int .i64 (n : Int)) := blk_cell BA.out 2
  have hc0 : w.cell? ⟨g, 0, none⟩ = some (.string s) := blk_cell BA.out 0
  have hb1 : decide ((n : Int) > (s.size : Int)) = false := decide_eq_false (by omega)
  have hb2 : decide ((s.size : Int) < (n : Int)) = false := decide_eq_false (by omega)
  have hb3 : decide (s.size < n) = false := decide_eq_false (by omega)
  have HM : Aside0 (Mine (· = g) w w) := ⟨Mine.refl _ _⟩
  have hR32 : Aside0 (e.R < 4294967296) := ⟨hok.out.2.2.1⟩
  go_enter Try.func54, Try.ntmps54
  go_wp2_with fail
  go_quiet (fail)
  have BA1 := Aside0.mk (blk_drewN BA.out nq)
  have HM1 := Aside0.mk (HM.out.drewN nq)
  clear BA HM hc5 hc2 hc0
  generalize w.drewN nq = W1 at *
  go_wp2_with fail
  go_loopg [] (n - a0 + 1) (fun kq w' => ∃ (a v : Nat), Aside0 (kq = n - a + 1) ∧ Aside0 (a ≤ n ∧ n ≤ a + 5) ∧ Aside0 (numB s a = v + e.V / 256 ^ (n - a)) ∧ Aside0 (e.V / 256 ^ (n - a) * 256 ^ (n - a) = e.V) ∧ Aside0 ((v + 1) * 256 ^ (n - a) ≤ e.R + 256 ^ 5) ∧ Aside0 (w'.heap[g]? = some (.cells (decCells s (a : Int) (n : Int) (v : Int) (e.R : Int) false) 95 (0, 0))) ∧ Aside0 (Mine (· = g) w w'))
  case atStart =>
    have h := hI.out
    have h5 := h.near
    have h6 := h.need
    rw [hn] at h5 h6
    refine ⟨a0, v0, ⟨rfl⟩, ⟨h6, h5⟩, ⟨by have := h.num; rw [hn] at this; exact this⟩, ⟨by have := h.dvd; rw [hn] at this; exact this⟩, ⟨?_⟩, BA1, HM1⟩
    have h7 := h.lt
    rw [hn] at h7
    have h8 : 256 ^ (n - a0) ≤ 256 ^ 5 := Nat.pow_le_pow_right (by decide) (by omega)
    rw [Nat.add_mul]
    omega
  case round =>
    clear BA1 HM1
    obtain ⟨a, v, hk, hd, hnum, hdvd, hlt, BA, HM⟩ := hrel
    cases gk with
    | zero => exact absurd hk.out (by omega)
    | succ k1 =>
      have hc0 : wr.cell? ⟨g, 0, none⟩ = some (.string s) := blk_cell BA.out 0
      have hc1 : wr.cell? ⟨g, 1, none⟩ = some (.int .i64 (a : Int)) := blk_cell BA.out 1
      have hc2 : wr.cell? ⟨g, 2, none⟩ = some (.int .i64 (n : Int)) := blk_cell BA.out 2
      have hc3 : wr.cell? ⟨g, 3, none⟩ = some (.int .u64 (v : Int)) := blk_cell BA.out 3
      have hc4 : wr.cell? ⟨g, 4, none⟩ = some (.int .u64 (e.R : Int)) := blk_cell BA.out 4
      have hf1 := blk_frozen BA.out 1
      have hf3 := blk_frozen BA.out 3
      have hf5 := blk_frozen BA.out 5
      by_cases han : a < n
      · have han1 : decide ((a : Int) < (n : Int)) = true := decide_eq_true (by omega)
        have has : a < s.size := by omega
        have ha0 := eq_true (show (0 : Int) ≤ (a : Int) by omega)
        have ha1 := eq_true (show (a : Int) < (s.size : Int) by omega)
        have ha2 := eq_true has
        obtain ⟨c, hcb, hc256⟩ : ∃ c : Nat, bn s a = c ∧ c < 256 := ⟨_, rfl, bn_lt s a⟩
        have hx0 : ∀ h : a < s.size, ((s[a]'h).toNat : Int) = (c : Int) := fun h => by rw [← hcb, ← bt_bn]; exact bt_at s (a : Int) h
        have hwc : IntKind.u64.wrap (c : Int) = (c : Int) := wrap_u64 _ (by omega) (by omega)
        obtain ⟨d, hdd⟩ : ∃ d, n - a = d + 1 := ⟨n - a - 1, by omega⟩
        have hvb : v < 72057594037927936 := by
          have h1 := hlt.out
          have h2 := hR32.out
          have h3 : v + 1 ≤ (v + 1) * 256 ^ (n - a) := Nat.le_mul_of_pos_right _ (Nat.pow_pos (by decide))
          have h4 : (256 : Nat) ^ 5 = 1099511627776 := by decide
          omega
        obtain ⟨y, hy⟩ : ∃ y, v * 256 = y := ⟨_, rfl⟩
        obtain ⟨v2, hv2⟩ : ∃ v2, v * 256 + c = v2 := ⟨_, rfl⟩
        have hwv : IntKind.u64.wrap ((v : Int) * 256) = (y : Int) := by rw [IntKind.wrap_u64]; omega
        have hor : Go.bits .or .u64 (y : Int) (c : Int) = (v2 : Int) := by rw [← hy, or_byte v c hvb hc256, hv2]
        have hab : (a : Int) ≤ 1000000004 := by have := hL.out; omega
        obtain ⟨q, hq⟩ : ∃ q, e.V / 256 ^ (d + 1) = q := ⟨_, rfl⟩
        rw [hdd] at hnum hdvd hlt hk
        rw [hq] at hnum hdvd
        have hdn : n - (a + 1) = d := by omega
        have hq2 : e.V / 256 ^ d = q * 256 := by
          rw [← hdvd.out, Nat.pow_succ, Nat.mul_comm (256 ^ d) 256, ← Nat.mul_assoc]
          exact Nat.mul_div_cancel _ (Nat.pow_pos (by decide))
        have hnum2 : numB s (a + 1) = v2 + e.V / 256 ^ (n - (a + 1)) := by
          rw [hdn, hq2]
          show numB s a * 256 + bn s a = _
          rw [hnum.out, hcb]
          omega
        have hdvd2 : e.V / 256 ^ (n - (a + 1)) * 256 ^ (n - (a + 1)) = e.V := by
          rw [hdn, hq2, Nat.mul_assoc, Nat.mul_comm 256, ← Nat.pow_succ]
          exact hdvd.out
        have hlt2 : (v2 + 1) * 256 ^ (n - (a + 1)) ≤ e.R + 256 ^ 5 := by
          rw [hdn]
          have h1 := hlt.out
          rw [Nat.pow_succ, Nat.mul_comm (256 ^ d) 256, ← Nat.mul_assoc] at h1
          exact Nat.le_trans (Nat.mul_le_mul_right _ (by omega)) h1
        have hnx := Aside0.mk (And.intro hnum2 (And.intro hdvd2 hlt2))
        clear hnum2 hdvd2 hlt2 hq2 hdn hvb hy hv2 hq
        go_wp2_with fail
        go_quiet (fail)
        have BAq := Aside0.mk (blk_drewN BA.out nq)
        have HMq := Aside0.mk (HM.out.drewN nq)
        clear BA HM hc0 hc1 hc2 hc3 hc4 hf1 hf3 hf5
        generalize wr.drewN nq = Wq at *
        have hc0 : Wq.cell? ⟨g, 0, none⟩ = some (.string s) := blk_cell BAq.out 0
        have hc1 : Wq.cell? ⟨g, 1, none⟩ = some (.int .i64 (a : Int)) := blk_cell BAq.out 1
        have hc3 : Wq.cell? ⟨g, 3, none⟩ = some (.int .u64 (v : Int)) := blk_cell BAq.out 3
        have hf3 := blk_frozen BAq.out 3
        go_wp2_with fail
        go_region
        all_goals
          have BA2 := Aside0.mk (blk_drew (blk_put (cs' := decCells s (a : Int) (n : Int) (v2 : Int) (e.R : Int) false) BAq.out 3 (.int .u64 (v2 : Int)) rfl))
          have HM2 := Aside0.mk (Mine.drew (Mine.set (S := (· = g)) (i := 3) HMq.out (Or.inl rfl) (.int .u64 (v2 : Int))))
          generalize (Wq.setCell ⟨g, 3, none⟩ (.int .u64 (v2 : Int))).drew = W2 at *
          clear BAq HMq hc0 hc1 hc3 hf3
          have hc1 : W2.cell? ⟨g, 1, none⟩ = some (.int .i64 (a : Int)) := blk_cell BA2.out 1
          have hf1 := blk_frozen BA2.out 1
          go_wp2_with fail
          have BA3 := Aside0.mk (blk_put (cs' := decCells s ((a : Int) + 1) (n : Int) (v2 : Int) (e.R : Int) false) BA2.out 1 (.int .i64 ((a : Int) + 1)) rfl)
          have HM3 := Aside0.mk (Mine.set (S := (· = g)) (i := 1) HM2.out (Or.inl rfl) (.int .i64 ((a : Int) + 1)))
          go_roundg k1
          case measure => omega
          case rel => exact ⟨a + 1, v2, ⟨by have := hk.out; omega⟩, ⟨by have := hd.out; omega⟩, ⟨hnx.out.1⟩, ⟨hnx.out.2.1⟩, ⟨hnx.out.2.2⟩, BA3, HM3⟩
      · have han1 : decide ((a : Int) < (n : Int)) = false := decide_eq_false (by omega)
        go_wp2_with fail
        go_quiet (fail)
        go_wp2_with fail
        have hna : a = n := by have := hd.out; omega
        have hvx : v = x := by
          have h := hnum.out
          rw [hna, Nat.sub_self, Nat.pow_zero, Nat.div_one, hx] at h
          omega
        subst hvx
        have BAq := Aside0.mk (blk_drewN BA.out nq)
        have HMq := Aside0.mk (HM.out.drewN nq)
        rw [hna] at BAq
        clear BA HM hc0 hc1 hc2 hc3 hc4 hf1 hf3 hf5
        generalize wr.drewN nq = Wq at *
        have hc3 : Wq.cell? ⟨g, 3, none⟩ = some (.int .u64 (v : Int)) := blk_cell BAq.out 3
        have hc4 : Wq.cell? ⟨g, 4, none⟩ = some (.int .u64 (e.R : Int)) := blk_cell BAq.out 4
        have hf5 := blk_frozen BAq.out 5
        have hc5 : Wq.cell? ⟨g, 5, none⟩ = some (.bool false) := blk_cell BAq.out 5
        by_cases hxR : v < e.R
        · have hb : decide ((v : Int) ≥ (e.R : Int)) = false := decide_eq_false (by omega)
          have hb' : decide ((e.R : Int) ≤ (v : Int)) = false := decide_eq_false (by omega)
          go_quiet (fail)
          go_wp2
          go_ret
          refine ⟨Or.inl ⟨hxR, rfl, ?_⟩, Mine.set (S := (· = g)) (i := 5) (HMq.out.drewN _) (Or.inl rfl) _⟩
          unfold DecAt
          rw [hn]
          exact blk_put (cs' := decCells s (n : Int) (n : Int) (v : Int) (e.R : Int) false) (blk_drewN BAq.out _) 5 (.bool false) rfl
        · have hb : decide ((v : Int) ≥ (e.R : Int)) = true := decide_eq_true (by omega)
          have hb' : decide ((e.R : Int) ≤ (v : Int)) = true := decide_eq_true (by omega)
          go_quiet (fail)
          go_wp2
          go_ret
          exact ⟨Or.inr ⟨by omega, rfl, ⟨_, _, _, _, blk_put (cs' := decCells s (n : Int) (n : Int) (v : Int) (e.R : Int) true) (blk_drewN BAq.out _) 5 (.bool true) rfl⟩⟩, Mine.set (S := (· = g)) (i := 5) (HMq.out.drewN _) (Or.inl rfl) _⟩
end Go.Proofs.Ytgldblakdhalkaa
