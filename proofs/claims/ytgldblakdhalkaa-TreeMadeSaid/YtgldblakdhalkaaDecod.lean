/- The decoder as numbers; rows; what was put is told. Conditions: as each contract states. -/
import Derived.Test.YtgldblakdhalkaaCoder
import Derived.Deep.Upon
import Derived.Maps.AppendAt
import Derived.Lib.ConvBytes
/- What a decoder knows: the number of the bytes that were taken, less low. Conditions: as stated. -/
namespace Go.Proofs.Ytgldblakdhalkaa
set_option linter.unusedVariables false
open Go.RowKit Go.Proofs.YtgldblakdhalkaaW.PrintWords Go.Proofs.YtgldblakdhalkaaW.PrintLast Go.Proofs.YtgldblakdhalkaaW.PrintMore
/-- The number of the first n bytes, the highest first. -/
def numB (s : ByteArray) : Nat → Nat
  | 0 => 0
  | n + 1 => numB s n * 256 + bn s n
/-- What keeps bits from being told: 2, 3, or nothing. -/
def errE (s : ByteArray) (e : Enc) : Nat := if s.size < e.L + 4 then 2 else if e.V + e.R ≤ numB s (e.L + 4) then 3 else 0
/-- The number that stands. -/
def dE (s : ByteArray) (e : Enc) : Nat := numB s (e.L + 4) - e.V
structure DecIn (s : ByteArray) (e : Enc) (a v : Nat) : Prop where
  need : a ≤ e.L + 4
  has : a ≤ s.size
  near : e.L + 4 ≤ a + 5
  dvd : e.V / 256 ^ (e.L + 4 - a) * 256 ^ (e.L + 4 - a) = e.V
  num : numB s a = v + e.V / 256 ^ (e.L + 4 - a)
  lt : v * 256 ^ (e.L + 4 - a) ≤ e.R
theorem DecIn.start (s : ByteArray) : DecIn s Enc.new 0 0 := ⟨by decide, Nat.zero_le _, by decide, by decide, by rfl, by decide⟩
theorem numB_lt (s : ByteArray) : ∀ n, numB s n < 256 ^ n
  | 0 => by show 0 < 1; decide
  | n + 1 => by
    have := numB_lt s n
    have := bn_lt s n
    unfold numB
    rw [Nat.pow_succ]
    omega
/-- The bytes between two places. -/
theorem numB_split (s : ByteArray) (a : Nat) : ∀ d, numB s a * 256 ^ d ≤ numB s (a + d) ∧ numB s (a + d) < (numB s a + 1) * 256 ^ d
  | 0 => by simp
  | d + 1 => by
    obtain ⟨h1, h2⟩ := numB_split s a d
    have hb := bn_lt s (a + d)
    have e : numB s (a + (d + 1)) = numB s (a + d) * 256 + bn s (a + d) := rfl
    rw [e, Nat.pow_succ, ← Nat.mul_assoc, ← Nat.mul_assoc]
    omega
/-- With one byte more the range is passed by one. -/
theorem DecIn.up {s : ByteArray} {e : Enc} {a v : Nat} (h : DecIn s e a v) (hn : e.L + 4 ≤ a + 4) : DecIn s e.up a v := by
  have e1 : e.up.L + 4 - a = (e.L + 4 - a) + 1 := by have := h.need; unfold Enc.up; simp only; omega
  have hp : 0 < 256 ^ (e.L + 4 - a) := Nat.pow_pos (by decide)
  have e2 : e.up.V / 256 ^ (e.L + 4 - a + 1) = e.V / 256 ^ (e.L + 4 - a) := by
    unfold Enc.up
    simp only
    rw [Nat.pow_succ, Nat.mul_div_mul_right _ _ (by decide)]
  refine ⟨by have := h.need; unfold Enc.up; simp only; omega, h.has, by unfold Enc.up; simp only; omega, ?_, ?_, ?_⟩
  · rw [e1, e2, Nat.pow_succ, ← Nat.mul_assoc, h.dvd]
    rfl
  · rw [e1, e2]
    exact h.num
  · rw [e1, Nat.pow_succ, ← Nat.mul_assoc]
    have := h.lt
    unfold Enc.up
    simp only
    omega
theorem DecIn.grow {s : ByteArray} {a v : Nat} : ∀ (k : Nat) (e : Enc), DecIn s e a v → e.L + k ≤ a → DecIn s (growE k e) a v
  | 0, e, h, _ => h
  | k + 1, e, h, hk => by
    unfold growE
    by_cases c : e.R < 16777216
    · rw [if_pos c]
      exact DecIn.grow k e.up (h.up (by omega)) (by unfold Enc.up; simp only; omega)
    · rw [if_neg c]
      exact h
/-- What stands behind the gate. -/
theorem DecIn.open_ {s : ByteArray} {e : Enc} {a v : Nat} (h : DecIn s e a v) (hs : e.L + 4 ≤ s.size) : e.V ≤ numB s (e.L + 4) := by
  obtain ⟨h1, _⟩ := numB_split s a (e.L + 4 - a)
  rw [show a + (e.L + 4 - a) = e.L + 4 by have := h.need; omega, h.num, Nat.add_mul, h.dvd] at h1
  omega
/-- All is read. -/
theorem DecIn.all {s : ByteArray} {e : Enc} {d : Nat} (hs : e.L + 4 ≤ s.size) (hn : numB s (e.L + 4) = d + e.V) (hd : d ≤ e.R) : DecIn s e (e.L + 4) d := by
  refine ⟨Nat.le_refl _, hs, by omega, ?_, ?_, ?_⟩
  · rw [Nat.sub_self, Nat.pow_zero]; omega
  · rw [Nat.sub_self, Nat.pow_zero, Nat.div_one]; exact hn
  · rw [Nat.sub_self, Nat.pow_zero]; omega
end Go.Proofs.Ytgldblakdhalkaa
/- What the decoder's inner functions come to. Conditions: as each contract states. -/
namespace Go.Proofs.Ytgldblakdhalkaa
set_option linter.unusedVariables false
open Go.RowKit Go.Proofs.YtgldblakdhalkaaW.PrintWords Go.Proofs.YtgldblakdhalkaaW.PrintLast Go.Proofs.YtgldblakdhalkaaW.PrintMore Go.Proofs.Ytgldblakdhalkaa.PBase
def decCells (s : ByteArray) (a need v size : Int) (dead : Bool) : Array Value := #[.string s, .int .i64 a, .int .i64 need, .int .u64 v, .int .u64 size, .bool dead]
/-- A decoder in memory that tells bits. -/
def DecAt (w : World) (g : Nat) (s : ByteArray) (e : Enc) (a v : Nat) : Prop := w.heap[g]? = some (.cells (decCells s (a : Int) ((e.L + 4 : Nat) : Int) (v : Int) (e.R : Int) false) 95 (0, 0))
/-- One that says nothing any more. -/
def DeadAt (w : World) (g : Nat) (s : ByteArray) : Prop := ∃ a need v size : Int, w.heap[g]? = some (.cells (decCells s a need v size true) 95 (0, 0))
set_option maxHeartbeats 2000000 in
set_option maxRecDepth 100000 in
theorem chance_From.calls (s : ByteArray) (w : World) :
    Calls Try.prog 30 #[.string s] w fun e w' => e = .returned (.pointer (some ⟨w.heap.size, 0, none⟩)) ∧ DecAt w' w.heap.size s Enc.new 0 0 ∧ Below w.heap.size w w' := by
  have hu2 := Try.underlying95
  go_enter Try.func30, Try.ntmps30
  go_wp2
  go_ret
  exact ⟨rfl, heap_alloc_new _ _, (Below.refl _ _).alloc (Nat.le_refl _) _⟩
attribute [local go_sem ↓] Go.wp_at_zero Go.wp_at_succ
set_option maxHeartbeats 4000000 in
set_option maxRecDepth 100000 in
theorem dec_grow.calls (s : ByteArray) (e : Enc) (a v g : Nat) (w : World) (hS : Aside0 (DecAt w g s e a v)) (hp : Aside0 e.pre) (hL : Aside0 (e.L ≤ 1000000000)) :
    Calls Try.prog 56 #[.pointer (some ⟨g, 0, none⟩)] w fun r w' => r = .returned (.tuple #[]) ∧ DecAt w' g s (growE 4 e) a v ∧ Mine (· = g) w w' := by
  have hu2 := Try.underlying95
  have hR4 : Aside0 (16777216 ≤ e.R * 256 ^ 4) := ⟨by rw [p4]; have := hp.out.2.1; omega⟩
  go_enter Try.func56, Try.ntmps56
  go_wp2_with fail
  go_loopg [] 5 (fun kq w' => ∃ (k : Nat) (f : Enc), Aside0 (kq = k + 1) ∧ Aside0 (growE k f = growE 4 e) ∧ Aside0 (f.L + k ≤ e.L + 4) ∧ Aside0 (16777216 ≤ f.R * 256 ^ k) ∧ Aside0 (DecAt w' g s f a v) ∧ Aside0 (Mine (· = g) w w'))
  case atStart => exact ⟨4, e, ⟨rfl⟩, ⟨rfl⟩, ⟨by omega⟩, hR4, hS, ⟨Mine.refl _ _⟩⟩
  case round =>
    obtain ⟨k, f, hk, hgr, hLf, hRk, hSf, HM⟩ := hrel
    cases gk with
    | zero => exact absurd hk.out (by omega)
    | succ k1 =>
      have BA := Aside0.mk hSf.out
      unfold DecAt at BA
      have hc4 : wr.cell? ⟨g, 4, none⟩ = some (.int .u64 (f.R : Int)) := blk_cell BA.out 4
      have hf4 := blk_frozen BA.out 4
      have hc2 : wr.cell? ⟨g, 2, none⟩ = some (.int .i64 ((f.L + 4 : Nat) : Int)) := blk_cell BA.out 2
      have hf2 := blk_frozen BA.out 2
      obtain ⟨n, hn⟩ : ∃ n, f.L + 4 = n := ⟨_, rfl⟩
      rw [hn] at hc2 BA
      obtain ⟨R, hR⟩ : ∃ R, f.R = R := ⟨_, rfl⟩
      rw [hR] at hc4 BA
      by_cases hc : R < 16777216
      · have hcb : decide ((R : Int) < 16777216) = true := decide_eq_true (by omega)
        have hnb : (n : Int) ≤ 1000000008 := by have := hLf.out; have := hL.out; omega
        obtain ⟨R2, hR2⟩ : ∃ R2 : Nat, R * 256 = R2 := ⟨_, rfl⟩
        have hw2 : IntKind.u64.wrap ((R : Int) * 256) = (R2 : Int) := by rw [IntKind.wrap_u64]; omega
        go_wp2_with fail
        have BA2 := Aside0.mk (blk_put (cs' := decCells s (a : Int) ((n : Int) + 1) (v : Int) (R2 : Int) false) (blk_put (cs' := decCells s (a : Int) (n : Int) (v : Int) (R2 : Int) false) BA.out 4 (.int .u64 (R2 : Int)) rfl) 2 (.int .i64 ((n : Int) + 1)) rfl)
        have HM2 := Aside0.mk (Mine.set (i := 2) (Mine.set (i := 4) HM.out (Or.inl rfl) (.int .u64 (R2 : Int))) (Or.inl rfl) (.int .i64 ((n : Int) + 1)))
        go_roundg k1
        case measure => omega
        case rel =>
          cases k with
          | zero => exact absurd hRk.out (by rw [Nat.pow_zero, hR]; omega)
          | succ k =>
            refine ⟨k, f.up, ⟨by have := hk.out; omega⟩, ⟨?_⟩, ⟨?_⟩, ⟨?_⟩, ⟨?_⟩, HM2⟩
            · have h := hgr.out
              unfold growE at h
              rw [if_pos (by rw [hR]; exact hc)] at h
              exact h
            · have := hLf.out; unfold Enc.up; simp only; omega
            · have h := hRk.out
              unfold Enc.up
              simp only
              rw [Nat.mul_assoc, Nat.mul_comm 256, ← Nat.pow_succ]
              exact h
            · unfold DecAt
              have e3 : f.up.R = R2 := by unfold Enc.up; simp only; rw [hR]; exact hR2
              have e4 : ((f.up.L + 4 : Nat) : Int) = (n : Int) + 1 := by show ((f.L + 1 + 4 : Nat) : Int) = _; omega
              rw [e3, e4]
              exact BA2.out
      · have hcb : decide ((R : Int) < 16777216) = false := decide_eq_false (by omega)
        go_wp2_with fail
        refine bodyPost_end (results_none rfl _ _ _) rfl ?_
        have hgf : growE k f = f := by cases k with
          | zero => rfl
          | succ k => unfold growE; rw [if_neg (by omega)]
        rw [← hgr.out, hgf]
        exact ⟨rfl, hSf.out, HM.out⟩
set_option maxHeartbeats 4000000 in
set_option maxRecDepth 100000 in
theorem dec_part.calls (s : ByteArray) (e : Enc) (a v g n : Nat) (w : World) (hS : Aside0 (DecAt w g s e a v)) (hv : v < 18446744073709551616) (hn : n < 18446744073709551616) :
    Calls Try.prog 55 #[.pointer (some ⟨g, 0, none⟩), .int .u64 (n : Int)] w fun r w' => r = .returned (.bool (decide (n ≤ v))) ∧ DecAt w' g s e a (if n ≤ v then v - n else v) ∧ Mine (· = g) w w' := by
  have hu2 := Try.underlying95
  have BA := Aside0.mk hS.out
  unfold DecAt at BA
  have hc3 : w.cell? ⟨g, 3, none⟩ = some (.int .u64 (v : Int)) := blk_cell BA.out 3
  have hf3 := blk_frozen BA.out 3
  by_cases h : n ≤ v
  · have hb : decide ((v : Int) < (n : Int)) = false := decide_eq_false (by omega)
    have hw : IntKind.u64.wrap ((v : Int) - (n : Int)) = ((v - n : Nat) : Int) := by rw [IntKind.wrap_u64]; omega
    obtain ⟨q, hq⟩ : ∃ q, v - n = q := ⟨_, rfl⟩
    rw [hq] at hw
    rw [if_pos h, decide_eq_true h, hq]
    go_enter Try.func55, Try.ntmps55
    go_wp2
    go_ret
    exact ⟨rfl, blk_put (cs' := decCells s (a : Int) ((e.L + 4 : Nat) : Int) (q : Int) (e.R : Int) false) BA.out 3 (.int .u64 (q : Int)) rfl, Mine.set (S := (· = g)) (i := 3) (Mine.refl _ _) (Or.inl rfl) _⟩
  · have hb : decide ((v : Int) < (n : Int)) = true := decide_eq_true (by omega)
    rw [if_neg h, decide_eq_false h]
    go_enter Try.func55, Try.ntmps55
    go_wp2
    go_ret
    exact ⟨rfl, hS.out, Mine.refl _ _⟩
end Go.Proofs.Ytgldblakdhalkaa
/- What the decoder's gate comes to: an error, or the number of all bytes that are needed, less low. Conditions: as each contract states. -/
namespace Go.Proofs.Ytgldblakdhalkaa
set_option linter.unusedVariables false
open Go.RowKit Go.Proofs.YtgldblakdhalkaaW.PrintWords Go.Proofs.YtgldblakdhalkaaW.PrintLast Go.Proofs.YtgldblakdhalkaaW.PrintMore Go.Proofs.Ytgldblakdhalkaa.PBase
theorem Mine.drewN {S : Nat → Prop} {w W : World} (h : Mine S w W) (n : Nat) : Mine S w (W.drewN n) := ⟨h.os, h.tape, h.output, h.size, h.block⟩
theorem or_byte (v c : Nat) (hv : v < 72057594037927936) (hc : c < 256) : Go.bits .or .u64 ((v * 256 : Nat) : Int) (c : Int) = ((v * 256 + c : Nat) : Int) := by
  rw [u64_or_nat _ _ (by omega) (by omega)]
  have h := or_nat c v 8 hc
  rw [Nat.or_comm]
  have e : (2 : Nat) ^ 8 = 256 := by decide
  rw [e] at h
  rw [h, Nat.add_comm]
attribute [local go_sem ↓] Go.wp_at_zero Go.wp_at_succ
set_option maxHeartbeats 4000000 in
set_option maxRecDepth 100000 in
theorem dec_gate.dead (s : ByteArray) (g : Nat) (w : World) (hS : Aside0 (DeadAt w g s)) :
    Calls Try.prog 54 #[.pointer (some ⟨g, 0, none⟩)] w fun r w' => r = .returned (.int .i64 3) ∧ Below w.heap.size w w' := by
  have hu2 := Try.underlying95
  obtain ⟨a, need, v, size, hb⟩ := hS.out
  have hc5 : w.cell? ⟨g, 5, none⟩ = some (.bool true) := blk_cell hb 5
  clear hb
  go_enter Try.func54, Try.ntmps54
  go_wp2
  go_ret
  exact ⟨rfl, Below.refl _ _⟩
set_option maxHeartbeats 4000000 in
set_option maxRecDepth 100000 in
theorem dec_gate.more (s : ByteArray) (e : Enc) (a v g : Nat) (w : World) (hS : Aside0 (DecAt w g s e a v)) (hm : s.size < e.L + 4) :
    Calls Try.prog 54 #[.pointer (some ⟨g, 0, none⟩)] w fun r w' => r = .returned (.int .i64 2) ∧ DeadAt w' g s ∧ Mine (· = g) w w' := by
  have hu2 := Try.underlying95
  have BA := Aside0.mk hS.out
  unfold DecAt at BA
  obtain ⟨n, hn⟩ : ∃ n, e.L + 4 = n := ⟨_, rfl⟩
  rw [hn] at BA hm
  have hc5 : w.cell? ⟨g, 5, none⟩ = some (.bool false) := blk_cell BA.out 5
  have hf5 := blk_frozen BA.out 5
  have hc2 : w.cell? ⟨g, 2, none⟩ = some (.int .i64 (n : Int)) := blk_cell BA.out 2
  have hc0 : w.cell? ⟨g, 0, none⟩ = some (.string s) := blk_cell BA.out 0
  have hb1 : decide ((n : Int) > (s.size : Int)) = true := decide_eq_true (by omega)
  have hb2 : decide ((s.size : Int) < (n : Int)) = true := decide_eq_true (by omega)
  have hb3 : decide (s.size < n) = true := decide_eq_true hm
  go_enter Try.func54, Try.ntmps54
  go_wp2_with fail
  go_quiet (fail)
  go_wp2
  go_ret
  exact ⟨rfl, ⟨_, _, _, _, blk_put (cs' := decCells s (a : Int) (n : Int) (v : Int) (e.R : Int) true) (blk_drewN BA.out _) 5 (.bool true) rfl⟩, Mine.set (S := (· = g)) (i := 5) (Mine.drewN (Mine.refl _ w) _) (Or.inl rfl) _⟩
set_option maxHeartbeats 4000000 in
set_option maxRecDepth 100000 in
theorem dec_gate.read (s : ByteArray) (e : Enc) (a0 v0 g : Nat) (w : World) (hS : Aside0 (DecAt w g s e a0 v0)) (hI : Aside0 (DecIn s e a0 v0)) (hok : Aside0 e.ok) (hL : Aside0 (e.L ≤ 1000000000)) (hm : e.L + 4 ≤ s.size) (hsz : Aside0 (s.size ≤ 1000000000)) (x : Nat) (hx : numB s (e.L + 4) = x + e.V) :
    Calls Try.prog 54 #[.pointer (some ⟨g, 0, none⟩)] w fun r w' => (x < e.R ∧ r = .returned (.int .i64 0) ∧ DecAt w' g s e (e.L + 4) x ∨ e.R ≤ x ∧ r = .returned (.int .i64 3) ∧ DeadAt w' g s) ∧ Mine (· = g) w w' := by
  have hu2 := Try.underlying95
  have BA := Aside0.mk hS.out
  unfold DecAt at BA
  obtain ⟨n, hn⟩ : ∃ n, e.L + 4 = n := ⟨_, rfl⟩
  rw [hn] at BA hm hx ⊢
  have hc5 : w.cell? ⟨g, 5, none⟩ = some (.bool false) := blk_cell BA.out 5
  have hc2 : w.cell? ⟨g, 2, none⟩ = some (.int .i64 (n : Int)) := blk_cell BA.out 2
  have hc0 : w.cell? ⟨g, 0, none⟩ = some (.string s) := blk_cell BA.out 0
  have hb1 : decide ((n : Int) > (s.size : Int)) = false := decide_eq_false (by omega)
  have hb2 : decide ((s.size : Int) < (n : Int)) = false := decide_eq_false (by omega)
  have hb3 : decide (s.size < n) = false := decide_eq_false (by omega)
  have HM : Aside0 (Mine (· = g) w w) := ⟨Mine.refl _ _⟩
  have hR32 : Aside0 (e.R < 4294967296) := ⟨hok.out.2.2.1⟩
  go_enter Try.func54, Try.ntmps54
  go_wp2_with fail
  go_quiet (fail)
  have BA1 := Aside0.mk (blk_drewN BA.out nq)
  have HM1 := Aside0.mk (HM.out.drewN nq)
  clear BA HM hc5 hc2 hc0
  generalize w.drewN nq = W1 at *
  go_wp2_with fail
  go_loopg [] (n - a0 + 1) (fun kq w' => ∃ (a v : Nat), Aside0 (kq = n - a + 1) ∧ Aside0 (a ≤ n ∧ n ≤ a + 5) ∧ Aside0 (numB s a = v + e.V / 256 ^ (n - a)) ∧ Aside0 (e.V / 256 ^ (n - a) * 256 ^ (n - a) = e.V) ∧ Aside0 ((v + 1) * 256 ^ (n - a) ≤ e.R + 256 ^ 5) ∧ Aside0 (w'.heap[g]? = some (.cells (decCells s (a : Int) (n : Int) (v : Int) (e.R : Int) false) 95 (0, 0))) ∧ Aside0 (Mine (· = g) w w'))
  case atStart =>
    have h := hI.out
    have h5 := h.near
    have h6 := h.need
    rw [hn] at h5 h6
    refine ⟨a0, v0, ⟨rfl⟩, ⟨h6, h5⟩, ⟨by have := h.num; rw [hn] at this; exact this⟩, ⟨by have := h.dvd; rw [hn] at this; exact this⟩, ⟨?_⟩, BA1, HM1⟩
    have h7 := h.lt
    rw [hn] at h7
    have h8 : 256 ^ (n - a0) ≤ 256 ^ 5 := Nat.pow_le_pow_right (by decide) (by omega)
    rw [Nat.add_mul]
    omega
  case round =>
    clear BA1 HM1
    obtain ⟨a, v, hk, hd, hnum, hdvd, hlt, BA, HM⟩ := hrel
    cases gk with
    | zero => exact absurd hk.out (by omega)
    | succ k1 =>
      have hc0 : wr.cell? ⟨g, 0, none⟩ = some (.string s) := blk_cell BA.out 0
      have hc1 : wr.cell? ⟨g, 1, none⟩ = some (.int .i64 (a : Int)) := blk_cell BA.out 1
      have hc2 : wr.cell? ⟨g, 2, none⟩ = some (.int .i64 (n : Int)) := blk_cell BA.out 2
      have hc3 : wr.cell? ⟨g, 3, none⟩ = some (.int .u64 (v : Int)) := blk_cell BA.out 3
      have hc4 : wr.cell? ⟨g, 4, none⟩ = some (.int .u64 (e.R : Int)) := blk_cell BA.out 4
      have hf1 := blk_frozen BA.out 1
      have hf3 := blk_frozen BA.out 3
      have hf5 := blk_frozen BA.out 5
      by_cases han : a < n
      · have han1 : decide ((a : Int) < (n : Int)) = true := decide_eq_true (by omega)
        have has : a < s.size := by omega
        have ha0 := eq_true (show (0 : Int) ≤ (a : Int) by omega)
        have ha1 := eq_true (show (a : Int) < (s.size : Int) by omega)
        have ha2 := eq_true has
        obtain ⟨c, hcb, hc256⟩ : ∃ c : Nat, bn s a = c ∧ c < 256 := ⟨_, rfl, bn_lt s a⟩
        have hx0 : ∀ h : a < s.size, ((s[a]'h).toNat : Int) = (c : Int) := fun h => by rw [← hcb, ← bt_bn]; exact bt_at s (a : Int) h
        have hwc : IntKind.u64.wrap (c : Int) = (c : Int) := wrap_u64 _ (by omega) (by omega)
        obtain ⟨d, hdd⟩ : ∃ d, n - a = d + 1 := ⟨n - a - 1, by omega⟩
        have hvb : v < 72057594037927936 := by
          have h1 := hlt.out
          have h2 := hR32.out
          have h3 : v + 1 ≤ (v + 1) * 256 ^ (n - a) := Nat.le_mul_of_pos_right _ (Nat.pow_pos (by decide))
          have h4 : (256 : Nat) ^ 5 = 1099511627776 := by decide
          omega
        obtain ⟨y, hy⟩ : ∃ y, v * 256 = y := ⟨_, rfl⟩
        obtain ⟨v2, hv2⟩ : ∃ v2, v * 256 + c = v2 := ⟨_, rfl⟩
        have hwv : IntKind.u64.wrap ((v : Int) * 256) = (y : Int) := by rw [IntKind.wrap_u64]; omega
        have hor : Go.bits .or .u64 (y : Int) (c : Int) = (v2 : Int) := by rw [← hy, or_byte v c hvb hc256, hv2]
        have hab : (a : Int) ≤ 1000000004 := by have := hL.out; omega
        obtain ⟨q, hq⟩ : ∃ q, e.V / 256 ^ (d + 1) = q := ⟨_, rfl⟩
        rw [hdd] at hnum hdvd hlt hk
        rw [hq] at hnum hdvd
        have hdn : n - (a + 1) = d := by omega
        have hq2 : e.V / 256 ^ d = q * 256 := by
          rw [← hdvd.out, Nat.pow_succ, Nat.mul_comm (256 ^ d) 256, ← Nat.mul_assoc]
          exact Nat.mul_div_cancel _ (Nat.pow_pos (by decide))
        have hnum2 : numB s (a + 1) = v2 + e.V / 256 ^ (n - (a + 1)) := by
          rw [hdn, hq2]
          show numB s a * 256 + bn s a = _
          rw [hnum.out, hcb]
          omega
        have hdvd2 : e.V / 256 ^ (n - (a + 1)) * 256 ^ (n - (a + 1)) = e.V := by
          rw [hdn, hq2, Nat.mul_assoc, Nat.mul_comm 256, ← Nat.pow_succ]
          exact hdvd.out
        have hlt2 : (v2 + 1) * 256 ^ (n - (a + 1)) ≤ e.R + 256 ^ 5 := by
          rw [hdn]
          have h1 := hlt.out
          rw [Nat.pow_succ, Nat.mul_comm (256 ^ d) 256, ← Nat.mul_assoc] at h1
          exact Nat.le_trans (Nat.mul_le_mul_right _ (by omega)) h1
        have hnx := Aside0.mk (And.intro hnum2 (And.intro hdvd2 hlt2))
        clear hnum2 hdvd2 hlt2 hq2 hdn hvb hy hv2 hq
        go_wp2_with fail
        go_quiet (fail)
        have BAq := Aside0.mk (blk_drewN BA.out nq)
        have HMq := Aside0.mk (HM.out.drewN nq)
        clear BA HM hc0 hc1 hc2 hc3 hc4 hf1 hf3 hf5
        generalize wr.drewN nq = Wq at *
        have hc0 : Wq.cell? ⟨g, 0, none⟩ = some (.string s) := blk_cell BAq.out 0
        have hc1 : Wq.cell? ⟨g, 1, none⟩ = some (.int .i64 (a : Int)) := blk_cell BAq.out 1
        have hc3 : Wq.cell? ⟨g, 3, none⟩ = some (.int .u64 (v : Int)) := blk_cell BAq.out 3
        have hf3 := blk_frozen BAq.out 3
        go_wp2_with fail
        go_region
        all_goals
          have BA2 := Aside0.mk (blk_drew (blk_put (cs' := decCells s (a : Int) (n : Int) (v2 : Int) (e.R : Int) false) BAq.out 3 (.int .u64 (v2 : Int)) rfl))
          have HM2 := Aside0.mk (Mine.drew (Mine.set (S := (· = g)) (i := 3) HMq.out (Or.inl rfl) (.int .u64 (v2 : Int))))
          generalize (Wq.setCell ⟨g, 3, none⟩ (.int .u64 (v2 : Int))).drew = W2 at *
          clear BAq HMq hc0 hc1 hc3 hf3
          have hc1 : W2.cell? ⟨g, 1, none⟩ = some (.int .i64 (a : Int)) := blk_cell BA2.out 1
          have hf1 := blk_frozen BA2.out 1
          go_wp2_with fail
          have BA3 := Aside0.mk (blk_put (cs' := decCells s ((a : Int) + 1) (n : Int) (v2 : Int) (e.R : Int) false) BA2.out 1 (.int .i64 ((a : Int) + 1)) rfl)
          have HM3 := Aside0.mk (Mine.set (S := (· = g)) (i := 1) HM2.out (Or.inl rfl) (.int .i64 ((a : Int) + 1)))
          go_roundg k1
          case measure => omega
          case rel => exact ⟨a + 1, v2, ⟨by have := hk.out; omega⟩, ⟨by have := hd.out; omega⟩, ⟨hnx.out.1⟩, ⟨hnx.out.2.1⟩, ⟨hnx.out.2.2⟩, BA3, HM3⟩
      · have han1 : decide ((a : Int) < (n : Int)) = false := decide_eq_false (by omega)
        go_wp2_with fail
        go_quiet (fail)
        go_wp2_with fail
        have hna : a = n := by have := hd.out; omega
        have hvx : v = x := by
          have h := hnum.out
          rw [hna, Nat.sub_self, Nat.pow_zero, Nat.div_one, hx] at h
          omega
        subst hvx
        have BAq := Aside0.mk (blk_drewN BA.out nq)
        have HMq := Aside0.mk (HM.out.drewN nq)
        rw [hna] at BAq
        clear BA HM hc0 hc1 hc2 hc3 hc4 hf1 hf3 hf5
        generalize wr.drewN nq = Wq at *
        have hc3 : Wq.cell? ⟨g, 3, none⟩ = some (.int .u64 (v : Int)) := blk_cell BAq.out 3
        have hc4 : Wq.cell? ⟨g, 4, none⟩ = some (.int .u64 (e.R : Int)) := blk_cell BAq.out 4
        have hf5 := blk_frozen BAq.out 5
        have hc5 : Wq.cell? ⟨g, 5, none⟩ = some (.bool false) := blk_cell BAq.out 5
        by_cases hxR : v < e.R
        · have hb : decide ((v : Int) ≥ (e.R : Int)) = false := decide_eq_false (by omega)
          have hb' : decide ((e.R : Int) ≤ (v : Int)) = false := decide_eq_false (by omega)
          go_quiet (fail)
          go_wp2
          go_ret
          refine ⟨Or.inl ⟨hxR, rfl, ?_⟩, Mine.set (S := (· = g)) (i := 5) (HMq.out.drewN _) (Or.inl rfl) _⟩
          unfold DecAt
          rw [hn]
          exact blk_put (cs' := decCells s (n : Int) (n : Int) (v : Int) (e.R : Int) false) (blk_drewN BAq.out _) 5 (.bool false) rfl
        · have hb : decide ((v : Int) ≥ (e.R : Int)) = true := decide_eq_true (by omega)
          have hb' : decide ((e.R : Int) ≤ (v : Int)) = true := decide_eq_true (by omega)
          go_quiet (fail)
          go_wp2
          go_ret
          exact ⟨Or.inr ⟨by omega, rfl, ⟨_, _, _, _, blk_put (cs' := decCells s (n : Int) (n : Int) (v : Int) (e.R : Int) true) (blk_drewN BAq.out _) 5 (.bool true) rfl⟩⟩, Mine.set (S := (· = g)) (i := 5) (HMq.out.drewN _) (Or.inl rfl) _⟩
end Go.Proofs.Ytgldblakdhalkaa
/- What the decoder's Bit, Direct and End come to. Conditions: as each contract states. -/
namespace Go.Proofs.Ytgldblakdhalkaa
set_option linter.unusedVariables false
open Go.RowKit Go.Proofs.YtgldblakdhalkaaW.PrintWords Go.Proofs.YtgldblakdhalkaaW.PrintLast Go.Proofs.YtgldblakdhalkaaW.PrintMore Go.Proofs.Ytgldblakdhalkaa.PBase
/-- A decoder that tells bits, in memory. -/
def LiveAt (w : World) (g : Nat) (s : ByteArray) (e : Enc) : Prop := ∃ a v, DecAt w g s e a v ∧ DecIn s e a v
theorem dec_blk {w : World} {g : Nat} {s : ByteArray} {e : Enc} (h : LiveAt w g s e) : g < w.heap.size := by
  obtain ⟨a, v, h1, _⟩ := h
  exact blk_lt (show w.heap[g]? = some _ from h1)
theorem LiveAt.mine {S : Nat → Prop} {w w' : World} {g : Nat} {s : ByteArray} {e : Enc} (h : LiveAt w g s e) (hm : Mine S w w') (hg : ¬ S g) : LiveAt w' g s e := by
  obtain ⟨a, v, h1, h2⟩ := h
  exact ⟨a, v, blk_mine h1 hm hg, h2⟩
theorem LiveAt.below {w w' : World} {g : Nat} {s : ByteArray} {e : Enc} (h : LiveAt w g s e) (hb : Below w.heap.size w w') : LiveAt w' g s e := h.mine (Mine.of_below (fun _ => False) hb) (fun h => h)
theorem DeadAt.mine {S : Nat → Prop} {w w' : World} {g : Nat} {s : ByteArray} (h : DeadAt w g s) (hm : Mine S w w') (hg : ¬ S g) : DeadAt w' g s := by
  obtain ⟨a, n, v, z, h1⟩ := h
  exact ⟨a, n, v, z, blk_mine h1 hm hg⟩
theorem DeadAt.below {w w' : World} {g : Nat} {s : ByteArray} (h : DeadAt w g s) (hb : Below w.heap.size w w') : DeadAt w' g s := h.mine (Mine.of_below (fun _ => False) hb) (fun h => h)
theorem dec_gate.calls (s : ByteArray) (e : Enc) (g : Nat) (w : World) (hS : LiveAt w g s e) (hok : e.ok) (hL : e.L ≤ 1000000000) (hsz : s.size ≤ 1000000000) :
    Calls Try.prog 54 #[.pointer (some ⟨g, 0, none⟩)] w fun r w' => r = .returned (.int .i64 (errE s e : Int)) ∧ (errE s e = 0 → DecAt w' g s e (e.L + 4) (dE s e) ∧ dE s e < e.R ∧ e.L + 4 ≤ s.size ∧ numB s (e.L + 4) = dE s e + e.V) ∧ (errE s e ≠ 0 → DeadAt w' g s) ∧ Mine (· = g) w w' := by
  obtain ⟨a, v, h1, h2⟩ := hS
  by_cases hm : s.size < e.L + 4
  · have he : errE s e = 2 := by unfold errE; rw [if_pos hm]
    rw [he]
    refine (dec_gate.more s e a v g w ⟨h1⟩ hm).mono ?_
    rintro r w' ⟨rfl, hd, hmn⟩
    exact ⟨rfl, fun h => by omega, fun _ => hd, hmn⟩
  · have hop := h2.open_ (by omega)
    have hx : numB s (e.L + 4) = dE s e + e.V := by unfold dE; omega
    refine (dec_gate.read s e a v g w ⟨h1⟩ ⟨h2⟩ ⟨hok⟩ ⟨hL⟩ (by omega) ⟨hsz⟩ (dE s e) hx).mono ?_
    rintro r w' ⟨h | h, hmn⟩
    · obtain ⟨hlt, rfl, hd⟩ := h
      have he : errE s e = 0 := by unfold errE; rw [if_neg hm, if_neg (by omega)]
      rw [he]
      exact ⟨rfl, fun _ => ⟨hd, hlt, by omega, hx⟩, fun h => absurd rfl h, hmn⟩
    · obtain ⟨hlt, rfl, hd⟩ := h
      have he : errE s e = 3 := by unfold errE; rw [if_neg hm, if_pos (by omega)]
      rw [he]
      exact ⟨rfl, fun h => by omega, fun _ => hd, hmn⟩
theorem errE_small (s : ByteArray) (e : Enc) : errE s e = 0 ∨ errE s e = 2 ∨ errE s e = 3 := by
  unfold errE
  split
  · exact Or.inr (Or.inl rfl)
  · split
    · exact Or.inr (Or.inr rfl)
    · exact Or.inl rfl
attribute [local go_sem ↓] Go.wp_at_zero Go.wp_at_succ
set_option maxHeartbeats 4000000 in
set_option maxRecDepth 100000 in
theorem dec_Bit.dead (s : ByteArray) (g : Nat) (p : Int) (w : World) (hS : Aside0 (DeadAt w g s)) :
    Calls Try.prog 34 #[.pointer (some ⟨g, 0, none⟩), .int .i64 p] w fun r w' => r = .returned (.tuple #[.int .i64 0, .int .i64 3]) ∧ Below w.heap.size w w' := by
  go_enter Try.func34, Try.ntmps34
  go_wp2_with fail
  refine (dec_gate.dead s g w hS).mono ?_
  rintro r w' ⟨rfl, hb⟩
  go_wp2
  go_ret2
  exact ⟨rfl, hb⟩
set_option maxHeartbeats 4000000 in
set_option maxRecDepth 100000 in
theorem dec_Bit.err (s : ByteArray) (e : Enc) (g : Nat) (p : Int) (w : World) (hS : Aside0 (LiveAt w g s e)) (hok : Aside0 e.ok) (hL : Aside0 (e.L ≤ 1000000000)) (hsz : Aside0 (s.size ≤ 1000000000)) (n : Nat) (hn : Aside0 (errE s e = n)) (h23 : n = 2 ∨ n = 3) :
    Calls Try.prog 34 #[.pointer (some ⟨g, 0, none⟩), .int .i64 p] w fun r w' => r = .returned (.tuple #[.int .i64 0, .int .i64 (n : Int)]) ∧ DeadAt w' g s ∧ Mine (· = g) w w' := by
  rcases h23 with rfl | rfl
  · go_enter Try.func34, Try.ntmps34
    go_wp2_with fail
    refine (dec_gate.calls s e g w hS.out hok.out hL.out hsz.out).mono ?_
    rintro r w' ⟨rfl, _, hd, hm⟩
    have hdd := hd (by rw [hn.out]; decide)
    rw [hn.out]
    clear hd
    go_wp2
    go_ret2
    exact ⟨rfl, hdd, hm⟩
  · go_enter Try.func34, Try.ntmps34
    go_wp2_with fail
    refine (dec_gate.calls s e g w hS.out hok.out hL.out hsz.out).mono ?_
    rintro r w' ⟨rfl, _, hd, hm⟩
    have hdd := hd (by rw [hn.out]; decide)
    rw [hn.out]
    clear hd
    go_wp2
    go_ret2
    exact ⟨rfl, hdd, hm⟩
set_option maxHeartbeats 4000000 in
set_option maxRecDepth 100000 in
theorem dec_Bit.ok (s : ByteArray) (e : Enc) (g : Nat) (p : Int) (w : World) (hS : Aside0 (LiveAt w g s e)) (hok : Aside0 e.ok) (hL : Aside0 (e.L ≤ 1000000000)) (hsz : Aside0 (s.size ≤ 1000000000)) (he : Aside0 (errE s e = 0)) (bb : Bool) (hbb : decide (dE s e < shareN e.R p) = bb) :
    Calls Try.prog 34 #[.pointer (some ⟨g, 0, none⟩), .int .i64 p] w fun r w' => r = .returned (.tuple #[.int .i64 (if bb then 1 else 0), .int .i64 0]) ∧ LiveAt w' g s (bitE p bb e) ∧ Mine (· = g) w w' := by
  have hu2 := Try.underlying95
  obtain ⟨h1, h2, h3, h4⟩ := hok.out
  have hs := shareN_range e.R p (by omega)
  have hV := Aside0.mk (share_val e.R p h3)
  obtain ⟨z, hz⟩ : ∃ z, shareN e.R p = z := ⟨_, rfl⟩
  obtain ⟨x, hx⟩ : ∃ x, dE s e = x := ⟨_, rfl⟩
  rw [hz] at hs hV hbb
  rw [hx] at hbb
  go_enter Try.func34, Try.ntmps34
  go_wp2_with fail
  refine (dec_gate.calls s e g w hS.out hok.out hL.out hsz.out).mono ?_
  rintro r w1 ⟨rfl, hgo, _, hm⟩
  obtain ⟨hD, hlt, hfit, hnum⟩ := hgo he.out
  rw [he.out]
  rw [hx] at hD hlt hnum
  have HD := Aside0.mk hD
  have HM := Aside0.mk hm
  have hc4 : w1.cell? ⟨g, 4, none⟩ = some (.int .u64 (e.R : Int)) := blk_cell (show w1.heap[g]? = some _ from hD) 4
  clear hgo hD hm
  go_wp2_with fail
  refine (chance_share.calls _ _ _ _ hV.out).mono ?_
  rintro r w2 ⟨rfl, hb⟩
  have HD2 : Aside0 (DecAt w2 g s e (e.L + 4) x) := ⟨blk_below HD.out hb⟩
  have HM2 := Aside0.mk (Mine.below HM.out hb)
  clear hb HD HM hc4 hV
  go_wp2_with fail
  refine (dec_part.calls s e (e.L + 4) x g z w2 HD2 (by omega) (by omega)).mono ?_
  rintro r w3 ⟨rfl, hD3, hm3⟩
  have HD3 := Aside0.mk hD3
  have HM3 := Aside0.mk (Mine.then_ HM2.out hm3 (fun k hk => Or.inl hk))
  clear HD2 HM2 hm3 hD3
  have hc4 : w3.cell? ⟨g, 4, none⟩ = some (.int .u64 (e.R : Int)) := blk_cell (show w3.heap[g]? = some _ from HD3.out) 4
  have hf4 := blk_frozen (show w3.heap[g]? = some (.cells (decCells s _ _ _ _ false) 95 (0, 0)) from HD3.out) 4
  cases bb
  · have hzx : z ≤ x := by have := of_decide_eq_false hbb; omega
    rw [if_pos hzx] at HD3
    have hb1 : decide (z ≤ x) = true := decide_eq_true hzx
    obtain ⟨q, hq⟩ : ∃ q, e.R - z = q := ⟨_, rfl⟩
    have hw : IntKind.u64.wrap ((e.R : Int) - (z : Int)) = (q : Int) := by rw [IntKind.wrap_u64]; omega
    go_wp2_with fail
    have HD4 : Aside0 (DecAt (w3.setCell ⟨g, 4, none⟩ (.int .u64 (q : Int))) g s ⟨e.V + z, e.L, q⟩ (e.L + 4) (x - z)) := ⟨blk_put (show w3.heap[g]? = some _ from HD3.out) 4 _ rfl⟩
    have HM4 := Aside0.mk (Mine.set (S := (· = g)) (i := 4) HM3.out (Or.inl rfl) (.int .u64 (q : Int)))
    have hpre : Enc.pre ⟨e.V + z, e.L, q⟩ := by have := bitP_pre hok.out p false; unfold bitP at this; rw [if_neg Bool.false_ne_true, hz, hq] at this; exact this
    refine (dec_grow.calls s ⟨e.V + z, e.L, q⟩ (e.L + 4) (x - z) g _ HD4 ⟨hpre⟩ hL).mono ?_
    rintro r w5 ⟨rfl, hD5, hm5⟩
    go_wp2
    go_ret2
    refine ⟨rfl, ⟨e.L + 4, x - z, ?_, ?_⟩, Mine.then_ HM4.out hm5 (fun k hk => Or.inl hk)⟩
    · unfold bitE bitP
      rw [if_neg Bool.false_ne_true, hz, hq]
      exact hD5
    · unfold bitE bitP
      rw [if_neg Bool.false_ne_true, hz, hq]
      exact DecIn.grow 4 _ (DecIn.all (e := ⟨e.V + z, e.L, q⟩) hfit (by simp only; omega) (by simp only; omega)) (by simp only; omega)
  · have hzx : ¬ z ≤ x := by have := of_decide_eq_true hbb; omega
    rw [if_neg hzx] at HD3
    have hb1 : decide (z ≤ x) = false := decide_eq_false hzx
    go_wp2_with fail
    have HD4 : Aside0 (DecAt (w3.setCell ⟨g, 4, none⟩ (.int .u64 (z : Int))) g s ⟨e.V, e.L, z⟩ (e.L + 4) x) := ⟨blk_put (show w3.heap[g]? = some _ from HD3.out) 4 _ rfl⟩
    have HM4 := Aside0.mk (Mine.set (S := (· = g)) (i := 4) HM3.out (Or.inl rfl) (.int .u64 (z : Int)))
    have hpre : Enc.pre ⟨e.V, e.L, z⟩ := by have := bitP_pre hok.out p true; unfold bitP at this; rw [if_pos rfl, hz] at this; exact this
    refine (dec_grow.calls s ⟨e.V, e.L, z⟩ (e.L + 4) x g _ HD4 ⟨hpre⟩ hL).mono ?_
    rintro r w5 ⟨rfl, hD5, hm5⟩
    go_wp2
    go_ret2
    refine ⟨rfl, ⟨e.L + 4, x, ?_, ?_⟩, Mine.then_ HM4.out hm5 (fun k hk => Or.inl hk)⟩
    · unfold bitE bitP
      rw [if_pos rfl, hz]
      exact hD5
    · unfold bitE bitP
      rw [if_pos rfl, hz]
      exact DecIn.grow 4 _ (DecIn.all (e := ⟨e.V, e.L, z⟩) hfit (by simp only; omega) (by simp only; omega)) (by simp only; omega)
end Go.Proofs.Ytgldblakdhalkaa
/- What the decoder's Direct and End come to. Conditions: as each contract states. -/
namespace Go.Proofs.Ytgldblakdhalkaa
set_option linter.unusedVariables false
open Go.RowKit Go.Proofs.YtgldblakdhalkaaW.PrintWords Go.Proofs.YtgldblakdhalkaaW.PrintLast Go.Proofs.YtgldblakdhalkaaW.PrintMore Go.Proofs.Ytgldblakdhalkaa.PBase
/-- i direct bits of a string: the number, the error, what stands behind them. -/
def dirS (s : ByteArray) : Nat → Enc → Nat → Nat × Nat × Enc
  | 0, e, v => (v, 0, e)
  | i + 1, e, v => if errE s e = 0 then dirS s i (halfE (decide (e.R / 2 ≤ dE s e)) e) (v * 2 + (decide (e.R / 2 ≤ dE s e)).toNat) else (0, errE s e, e)
theorem dirS_zero (s : ByteArray) (e : Enc) (v : Nat) : dirS s 0 e v = (v, 0, e) := rfl
theorem dirS_err (s : ByteArray) (i : Nat) (e : Enc) (v : Nat) (h : errE s e ≠ 0) : dirS s (i + 1) e v = (0, errE s e, e) := by
  show (if errE s e = 0 then _ else _) = _
  rw [if_neg h]
theorem dirS_ok (s : ByteArray) (i : Nat) (e : Enc) (v : Nat) (h : errE s e = 0) (b : Bool) (hb : decide (e.R / 2 ≤ dE s e) = b) : dirS s (i + 1) e v = dirS s i (halfE b e) (v * 2 + b.toNat) := by
  show (if errE s e = 0 then _ else _) = _
  rw [if_pos h, hb]
theorem or_one (v y : Nat) (h : v * 2 = y) (hy : y < 18446744073709551616) : Go.bits .or .u64 (y : Int) 1 = ((v * 2 + 1 : Nat) : Int) := by
  rw [show (1 : Int) = ((1 : Nat) : Int) from rfl, u64_or_nat _ _ hy (by omega)]
  have h2 := or_nat 1 v 1 (by decide)
  rw [Nat.pow_one] at h2
  rw [← h, Nat.or_comm, h2, Nat.add_comm]
attribute [local go_sem ↓] Go.wp_at_zero Go.wp_at_succ
attribute [local go_sem] max2_mx min2_mn max_two min_two
set_option maxHeartbeats 4000000 in
set_option maxRecDepth 100000 in
theorem dec_Direct.live (s : ByteArray) (e : Enc) (g : Nat) (n : Int) (w : World) (V er : Nat) (f' : Enc) (hdir : Aside0 (dirS s (lenN n) e 0 = (V, er, f'))) (hS : Aside0 (LiveAt w g s e)) (hok : Aside0 e.ok) (hL : Aside0 (e.L ≤ 900000000)) (hsz : Aside0 (s.size ≤ 1000000000)) :
    Calls Try.prog 32 #[.pointer (some ⟨g, 0, none⟩), .int .i64 n] w fun r w' => r = .returned (.tuple #[.int .u64 (V : Int), .int .i64 (er : Int)]) ∧ (er = 0 → LiveAt w' g s f' ∧ f'.ok ∧ f'.L ≤ e.L + 256) ∧ (er ≠ 0 → DeadAt w' g s) ∧ Mine (· = g) w w' := by
  have hu2 := Try.underlying95
  have hNv := lenN_val n
  have hN64 := Aside0.mk (lenN_le n)
  obtain ⟨N, hN⟩ : ∃ N, lenN n = N := ⟨_, rfl⟩
  rw [hN] at hNv hN64 hdir
  go_enter Try.func32, Try.ntmps32
  go_wp2_with fail
  go_loopg [6, 13] (N + 1) (fun kq v6 v13 w' => ∃ (i v : Nat) (f : Enc), v6 = .int .u64 (v : Int) ∧ v13 = .int .i64 (i : Int) ∧ Aside0 (kq = N - i + 1) ∧ Aside0 (i ≤ N) ∧ Aside0 (v < 2 ^ i) ∧ Aside0 (dirS s (N - i) f v = (V, er, f')) ∧ Aside0 f.ok ∧ Aside0 (f.L ≤ e.L + 4 * i) ∧ Aside0 (LiveAt w' g s f) ∧ Aside0 (Mine (· = g) w w'))
  case atStart => exact ⟨0, 0, e, rfl, rfl, ⟨rfl⟩, ⟨Nat.zero_le _⟩, ⟨by decide⟩, hdir, hok, ⟨Nat.le_refl _⟩, hS, ⟨Mine.refl _ _⟩⟩
  case round =>
    clear hdir hS
    obtain ⟨i, v, f, rfl, rfl, hk, hi, hv, hd, hfo, hfL, HS, HM⟩ := hrel
    cases gk with
    | zero => exact absurd hk.out (by omega)
    | succ k1 =>
      have hi2 := hi.out
      by_cases hiN : i < N
      · have hiN1 : decide ((i : Int) < (N : Int)) = true := decide_eq_true (by omega)
        obtain ⟨m, hm⟩ : ∃ m, N - i = m + 1 := ⟨N - i - 1, by omega⟩
        rw [hm] at hd
        have hfLb : Aside0 (f.L ≤ 1000000000) := ⟨by have := hfL.out; have := hL.out; have := hN64.out; omega⟩
        go_wp2_with fail
        refine (dec_gate.calls s f g wr HS.out hfo.out hfLb.out hsz.out).mono ?_
        rintro r w1 ⟨rfl, hgo, hdead, hmn⟩
        rcases errE_small s f with he | he
        · obtain ⟨hD, hlt, hfit, hnum⟩ := hgo he
          rw [he]
          have HD := Aside0.mk hD
          have HM1 := Aside0.mk (Mine.then_ HM.out hmn (fun k hk => Or.inl hk))
          have hc4 : w1.cell? ⟨g, 4, none⟩ = some (.int .u64 (f.R : Int)) := blk_cell (show w1.heap[g]? = some _ from hD) 4
          have hf4 := blk_frozen (show w1.heap[g]? = some (.cells (decCells s _ _ _ _ false) 95 (0, 0)) from hD) 4
          clear hgo hdead hmn hD HM HS
          obtain ⟨x, hx⟩ : ∃ x, dE s f = x := ⟨_, rfl⟩
          rw [hx] at HD hlt hnum
          have hR := hfo.out.2.2.1
          have hR1 := hfo.out.2.1
          obtain ⟨h, hh⟩ : ∃ h, f.R / 2 = h := ⟨_, rfl⟩
          have hh1 : (f.R : Int) / 2 = (h : Int) := by omega
          have hh2 : IntKind.u64.wrap (h : Int) = (h : Int) := wrap_u64 _ (by omega) (by omega)
          have hvb : v < 9223372036854775808 := Nat.lt_of_lt_of_le hv.out (by have : 2 ^ i ≤ 2 ^ 63 := Nat.pow_le_pow_right (by decide) (by have := hN64.out; omega); exact this)
          obtain ⟨y, hy⟩ : ∃ y, v * 2 = y := ⟨_, rfl⟩
          have hvy : IntKind.u64.wrap ((v : Int) * 2) = (y : Int) := by rw [IntKind.wrap_u64]; omega
          have hor := or_one v y hy (by omega)
          obtain ⟨y1, hy1⟩ : ∃ y1, v * 2 + 1 = y1 := ⟨_, rfl⟩
          rw [hy1] at hor
          have hp2 : 2 ^ (i + 1) = 2 ^ i * 2 := Nat.pow_succ 2 i
          have hv2 := hv.out
          have hNext := Aside0.mk (And.intro hp2 (And.intro hy hy1))
          go_wp2_with fail
          have HD2 : Aside0 (DecAt (w1.setCell ⟨g, 4, none⟩ (.int .u64 (h : Int))) g s ⟨f.V, f.L, h⟩ (f.L + 4) x) := ⟨blk_put (show w1.heap[g]? = some _ from HD.out) 4 _ rfl⟩
          have HM2 := Aside0.mk (Mine.set (S := (· = g)) (i := 4) HM1.out (Or.inl rfl) (.int .u64 (h : Int)))
          refine (dec_part.calls s ⟨f.V, f.L, h⟩ (f.L + 4) x g h _ HD2 (by omega) (by omega)).mono ?_
          rintro r w3 ⟨rfl, hD3, hm3⟩
          have HD3 := Aside0.mk hD3
          have HM3 := Aside0.mk (Mine.then_ HM2.out hm3 (fun k hk => Or.inl hk))
          clear HD2 HM2 hm3 hD3 HD HM1 hc4 hf4
          by_cases hzx : h ≤ x
          · rw [if_pos hzx] at HD3
            have hb1 : decide (h ≤ x) = true := decide_eq_true hzx
            have hdr := dirS_ok s m f v he true (by rw [hh, hx]; exact hb1)
            rw [hdr] at hd
            go_wp2_with fail
            have HD3x : DecAt w3 g s ⟨f.V + h, f.L, h⟩ (f.L + 4) (x - h) := HD3.out
            refine (dec_grow.calls s ⟨f.V + h, f.L, h⟩ (f.L + 4) (x - h) g w3 ⟨HD3x⟩ ⟨by have := halfP_pre hfo.out true; unfold halfP at this; rw [if_pos rfl, hh] at this; exact this⟩ hfLb).mono ?_
            rintro r w5 ⟨rfl, hD5, hm5⟩
            have hE : growE 4 ⟨f.V + h, f.L, h⟩ = halfE true f := by unfold halfE halfP; rw [if_pos rfl, hh]
            have hIn : DecIn s (halfE true f) (f.L + 4) (x - h) := by
              rw [← hE]
              exact DecIn.grow 4 _ (DecIn.all (e := ⟨f.V + h, f.L, h⟩) hfit (by simp only; omega) (by simp only; omega)) (by simp only; omega)
            rw [hE] at hD5
            have hLv : LiveAt w5 g s (halfE true f) := ⟨f.L + 4, (x - h), hD5, hIn⟩
            have hLn := halfE_L true f
            have hHM := Aside0.mk (Mine.then_ HM3.out hm5 (fun k hk => Or.inl hk))
            have hHd : Aside0 (dirS s (N - (i + 1)) (halfE true f) y1 = (V, er, f')) := ⟨by rw [show N - (i + 1) = m by omega]; have := hd.out; rw [show v * 2 + true.toNat = y1 from hy1] at this; exact this⟩
            have hvn : Aside0 (y1 < 2 ^ (i + 1)) := ⟨by rw [hNext.out.1]; omega⟩
            have hkn : Aside0 (k1 = N - (i + 1) + 1) := ⟨by have := hk.out; omega⟩
            have hfLn : Aside0 ((halfE true f).L ≤ e.L + 4 * (i + 1)) := ⟨by have := hfL.out; omega⟩
            clear hvy hor hh1 hh2 hp2
            have hi64 : (i : Int) ≤ 64 := by have := hN64.out; omega
            go_wp2_with fail
            go_roundg k1
            case measure => have := hk.out; omega
            case rel => exact ⟨i + 1, y1, _, rfl, rfl, hkn, ⟨hiN⟩, hvn, hHd, ⟨halfE_ok hfo.out _⟩, hfLn, ⟨hLv⟩, hHM⟩
          · rw [if_neg hzx] at HD3
            have hb1 : decide (h ≤ x) = false := decide_eq_false hzx
            have hdr := dirS_ok s m f v he false (by rw [hh, hx]; exact hb1)
            rw [hdr] at hd
            go_wp2_with fail
            refine (dec_grow.calls s ⟨f.V, f.L, h⟩ (f.L + 4) x g w3 HD3 ⟨by have := halfP_pre hfo.out false; unfold halfP at this; rw [if_neg Bool.false_ne_true, hh] at this; exact this⟩ hfLb).mono ?_
            rintro r w5 ⟨rfl, hD5, hm5⟩
            have hE : growE 4 ⟨f.V, f.L, h⟩ = halfE false f := by unfold halfE halfP; rw [if_neg Bool.false_ne_true, hh]
            have hIn : DecIn s (halfE false f) (f.L + 4) x := by
              rw [← hE]
              exact DecIn.grow 4 _ (DecIn.all (e := ⟨f.V, f.L, h⟩) hfit (by simp only; omega) (by simp only; omega)) (by simp only; omega)
            rw [hE] at hD5
            have hLv : LiveAt w5 g s (halfE false f) := ⟨f.L + 4, x, hD5, hIn⟩
            have hLn := halfE_L false f
            have hHM := Aside0.mk (Mine.then_ HM3.out hm5 (fun k hk => Or.inl hk))
            have hHd : Aside0 (dirS s (N - (i + 1)) (halfE false f) y = (V, er, f')) := ⟨by rw [show N - (i + 1) = m by omega]; have := hd.out; rw [show v * 2 + false.toNat = y from hy] at this; exact this⟩
            have hvn : Aside0 (y < 2 ^ (i + 1)) := ⟨by rw [hNext.out.1]; omega⟩
            have hkn : Aside0 (k1 = N - (i + 1) + 1) := ⟨by have := hk.out; omega⟩
            have hfLn : Aside0 ((halfE false f).L ≤ e.L + 4 * (i + 1)) := ⟨by have := hfL.out; omega⟩
            clear hvy hor hh1 hh2 hp2
            have hi64 : (i : Int) ≤ 64 := by have := hN64.out; omega
            go_wp2_with fail
            go_roundg k1
            case measure => have := hk.out; omega
            case rel => exact ⟨i + 1, y, _, rfl, rfl, hkn, ⟨hiN⟩, hvn, hHd, ⟨halfE_ok hfo.out _⟩, hfLn, ⟨hLv⟩, hHM⟩
        · have hdd := hdead (by omega)
          rw [dirS_err s m f v (by omega)] at hd
          have hd3 := hd.out
          injection hd3 with e1 e2
          injection e2 with e2 e3
          subst e1 e3
          rcases he with he | he
          · rw [he] at e2 ⊢
            subst e2
            go_wp2
            go_ret2
            exact ⟨rfl, fun h => absurd h (by decide), fun _ => hdd, Mine.then_ HM.out hmn (fun k hk => Or.inl hk)⟩
          · rw [he] at e2 ⊢
            subst e2
            go_wp2
            go_ret2
            exact ⟨rfl, fun h => absurd h (by decide), fun _ => hdd, Mine.then_ HM.out hmn (fun k hk => Or.inl hk)⟩
      · have hiN1 : decide ((i : Int) < (N : Int)) = false := decide_eq_false (by omega)
        have hd3 := hd.out
        rw [show N - i = 0 by omega, dirS_zero] at hd3
        injection hd3 with e1 e2
        injection e2 with e2 e3
        subst e1 e2 e3
        go_wp2
        go_ret2
        exact ⟨rfl, ⟨HS.out, hfo.out, by have := hfL.out; have := hN64.out; omega⟩, HM.out⟩
set_option maxHeartbeats 4000000 in
set_option maxRecDepth 100000 in
theorem dec_Direct.dead (s : ByteArray) (g : Nat) (n : Int) (w : World) (hS : Aside0 (DeadAt w g s)) (er : Nat) (her : er = if lenN n = 0 then 0 else 3) :
    Calls Try.prog 32 #[.pointer (some ⟨g, 0, none⟩), .int .i64 n] w fun r w' => r = .returned (.tuple #[.int .u64 0, .int .i64 (er : Int)]) ∧ Below w.heap.size w w' := by
  have hNv := lenN_val n
  by_cases hN : lenN n = 0
  · rw [if_pos hN] at her
    subst her
    rw [hN] at hNv
    go_enter Try.func32, Try.ntmps32
    go_wp2_with fail
    refine wp_loop_rounds 1 ?_
    rw [rounds_succ]
    go_wp2
    go_ret2
    exact ⟨rfl, Below.refl _ _⟩
  · rw [if_neg hN] at her
    subst her
    obtain ⟨m, hm⟩ : ∃ m, lenN n = m := ⟨_, rfl⟩
    rw [hm] at hNv hN
    have h0 : decide (0 < (m : Int)) = true := decide_eq_true (by omega)
    have h1 : decide (0 < m) = true := decide_eq_true (by omega)
    go_enter Try.func32, Try.ntmps32
    go_wp2_with fail
    refine wp_loop_rounds 1 ?_
    rw [rounds_succ]
    go_wp2_with fail
    refine (dec_gate.dead s g w hS).mono ?_
    rintro r w' ⟨rfl, hb⟩
    go_wp2
    go_ret2
    exact ⟨rfl, hb⟩
/-- What the end says. -/
def endE (s : ByteArray) (e : Enc) : Nat := if errE s e = 0 then (if dE s e = 0 ∧ e.L + 4 = s.size then 0 else 3) else errE s e
set_option maxHeartbeats 4000000 in
set_option maxRecDepth 100000 in
theorem dec_End.dead (s : ByteArray) (g : Nat) (w : World) (hS : Aside0 (DeadAt w g s)) :
    Calls Try.prog 36 #[.pointer (some ⟨g, 0, none⟩)] w fun r w' => r = .returned (.int .i64 3) ∧ Below w.heap.size w w' := by
  go_enter Try.func36, Try.ntmps36
  go_wp2_with fail
  refine (dec_gate.dead s g w hS).mono ?_
  rintro r w' ⟨rfl, hb⟩
  go_wp2
  go_ret
  exact ⟨rfl, hb⟩
set_option maxHeartbeats 4000000 in
set_option maxRecDepth 100000 in
theorem dec_End.live (s : ByteArray) (e : Enc) (g : Nat) (w : World) (hS : Aside0 (LiveAt w g s e)) (hok : Aside0 e.ok) (hL : Aside0 (e.L ≤ 1000000000)) (hsz : Aside0 (s.size ≤ 1000000000)) (n : Nat) (hn : Aside0 (endE s e = n)) :
    Calls Try.prog 36 #[.pointer (some ⟨g, 0, none⟩)] w fun r w' => r = .returned (.int .i64 (n : Int)) ∧ (n = 0 → LiveAt w' g s e) ∧ (n ≠ 0 → DeadAt w' g s) ∧ Mine (· = g) w w' := by
  have hu2 := Try.underlying95
  rcases errE_small s e with he | he
  · have hn2 : Aside0 ((if dE s e = 0 ∧ e.L + 4 = s.size then 0 else 3) = n) := ⟨by have := hn.out; unfold endE at this; rw [if_pos he] at this; exact this⟩
    obtain ⟨x, hx⟩ : ∃ x, dE s e = x := ⟨_, rfl⟩
    obtain ⟨q, hq⟩ : ∃ q, e.L + 4 = q := ⟨_, rfl⟩
    rw [hx, hq] at hn2
    by_cases hx0 : x = 0
    · by_cases hqs : q = s.size
      · have hn3 := hn2.out
        rw [if_pos ⟨hx0, hqs⟩] at hn3
        subst hn3
        have hb1 : ((x : Int) != 0) = false := by rw [hx0]; rfl
        have hb2 : ((q : Int) != (s.size : Int)) = false := by rw [hqs]; exact bne_self_eq_false _
        go_enter Try.func36, Try.ntmps36
        go_wp2_with fail
        refine (dec_gate.calls s e g w hS.out hok.out hL.out hsz.out).mono ?_
        rintro r w1 ⟨rfl, hgo, _, hm⟩
        obtain ⟨hD, hlt, hfit, hnum⟩ := hgo he
        rw [he]
        have hD2 := hD
        unfold DecAt at hD2
        rw [hx, hq] at hD2
        have hc3 : w1.cell? ⟨g, 3, none⟩ = some (.int .u64 (x : Int)) := blk_cell hD2 3
        have hc2 : w1.cell? ⟨g, 2, none⟩ = some (.int .i64 (q : Int)) := blk_cell hD2 2
        have hc0 : w1.cell? ⟨g, 0, none⟩ = some (.string s) := blk_cell hD2 0
        have hk := Aside0.mk (And.intro hD (And.intro hlt (And.intro hfit hnum)))
        clear hgo hD hlt hfit hnum hD2
        go_wp2_with fail
        go_quiet (fail)
        go_wp2
        go_ret
        obtain ⟨hD, hlt, hfit, hnum⟩ := hk.out
        refine ⟨rfl, fun _ => ⟨e.L + 4, dE s e, hD, DecIn.all hfit hnum (Nat.le_of_lt hlt)⟩, ?_⟩
        first
          | exact hm.drewN _
          | exact ⟨fun h => absurd rfl h, hm.drewN _⟩
          | exact ⟨fun h => absurd trivial h, hm.drewN _⟩
          | exact ⟨fun h => h.elim, hm.drewN _⟩
      · have hn3 := hn2.out
        rw [if_neg (fun h => hqs h.2)] at hn3
        subst hn3
        have hb1 : ((x : Int) != 0) = false := by rw [hx0]; rfl
        have hb2 : ((q : Int) != (s.size : Int)) = true := bne_iff_ne.2 (by omega)
        go_enter Try.func36, Try.ntmps36
        go_wp2_with fail
        refine (dec_gate.calls s e g w hS.out hok.out hL.out hsz.out).mono ?_
        rintro r w1 ⟨rfl, hgo, _, hm⟩
        obtain ⟨hD, _, _, _⟩ := hgo he
        rw [he]
        have hD2 := hD
        unfold DecAt at hD2
        rw [hx, hq] at hD2
        have hc3 : w1.cell? ⟨g, 3, none⟩ = some (.int .u64 (x : Int)) := blk_cell hD2 3
        have hc2 : w1.cell? ⟨g, 2, none⟩ = some (.int .i64 (q : Int)) := blk_cell hD2 2
        have hc0 : w1.cell? ⟨g, 0, none⟩ = some (.string s) := blk_cell hD2 0
        have hf5 := blk_frozen hD2 5
        have hc5 : w1.cell? ⟨g, 5, none⟩ = some (.bool false) := blk_cell hD2 5
        have hk := Aside0.mk hD2
        clear hgo hD hD2
        go_wp2_with fail
        go_quiet (fail)
        go_wp2
        go_ret
        exact ⟨rfl, fun h => absurd h (by decide), fun _ => ⟨_, _, _, _, blk_put (cs' := decCells s (q : Int) (q : Int) (x : Int) (e.R : Int) true) (blk_drewN hk.out _) 5 (.bool true) rfl⟩, Mine.set (S := (· = g)) (i := 5) (hm.drewN _) (Or.inl rfl) _⟩
    · have hn3 := hn2.out
      rw [if_neg (fun h => hx0 h.1)] at hn3
      subst hn3
      have hb1 : ((x : Int) != 0) = true := bne_iff_ne.2 (by omega)
      go_enter Try.func36, Try.ntmps36
      go_wp2_with fail
      refine (dec_gate.calls s e g w hS.out hok.out hL.out hsz.out).mono ?_
      rintro r w1 ⟨rfl, hgo, _, hm⟩
      obtain ⟨hD, _, _, _⟩ := hgo he
      rw [he]
      have hD2 := hD
      unfold DecAt at hD2
      rw [hx, hq] at hD2
      have hc3 : w1.cell? ⟨g, 3, none⟩ = some (.int .u64 (x : Int)) := blk_cell hD2 3
      have hc2 : w1.cell? ⟨g, 2, none⟩ = some (.int .i64 (q : Int)) := blk_cell hD2 2
      have hc0 : w1.cell? ⟨g, 0, none⟩ = some (.string s) := blk_cell hD2 0
      have hf5 := blk_frozen hD2 5
      have hc5 : w1.cell? ⟨g, 5, none⟩ = some (.bool false) := blk_cell hD2 5
      have hk := Aside0.mk hD2
      clear hgo hD hD2
      go_wp2_with fail
      go_quiet (fail)
      go_wp2
      go_ret
      exact ⟨rfl, fun h => absurd h (by decide), fun _ => ⟨_, _, _, _, blk_put (cs' := decCells s (q : Int) (q : Int) (x : Int) (e.R : Int) true) (blk_drewN hk.out _) 5 (.bool true) rfl⟩, Mine.set (S := (· = g)) (i := 5) (hm.drewN _) (Or.inl rfl) _⟩
  · have hn2 := hn.out
    unfold endE at hn2
    rw [if_neg (by omega)] at hn2
    have hdn : Aside0 (errE s e ≠ 0) := ⟨by omega⟩
    rcases he with he | he
    · rw [he] at hn2
      subst hn2
      go_enter Try.func36, Try.ntmps36
      go_wp2_with fail
      refine (dec_gate.calls s e g w hS.out hok.out hL.out hsz.out).mono ?_
      rintro r w1 ⟨rfl, _, hd, hm⟩
      have hdd := hd hdn.out
      rw [he]
      clear hd
      go_wp2
      go_ret
      exact ⟨rfl, fun h => absurd h (by decide), fun _ => hdd, hm⟩
    · rw [he] at hn2
      subst hn2
      go_enter Try.func36, Try.ntmps36
      go_wp2_with fail
      refine (dec_gate.calls s e g w hS.out hok.out hL.out hsz.out).mono ?_
      rintro r w1 ⟨rfl, _, hd, hm⟩
      have hdd := hd hdn.out
      rw [he]
      clear hd
      go_wp2
      go_ret
      exact ⟨rfl, fun h => absurd h (by decide), fun _ => hdd, hm⟩
end Go.Proofs.Ytgldblakdhalkaa
/- The law of the example: the call returns true. -/
namespace Go.Proofs.Ytgldblakdhalkaa
set_option linter.unusedVariables false
open Go.RowKit Go.Proofs.YtgldblakdhalkaaW.PrintWords Go.Proofs.YtgldblakdhalkaaW.PrintLast Go.Proofs.YtgldblakdhalkaaW.PrintMore Go.Proofs.Ytgldblakdhalkaa.PBase
theorem beI_new : strOfNums (beI (Enc.new.L + 4) Enc.new.V) = ⟨#[0, 0, 0, 0, 0]⟩ := by decide +kernel
theorem ex1 : bitE 2048 true Enc.new = ⟨0, 1, 2147481600⟩ := by kernel_rfl
theorem ex2 : bitE 100 false ⟨0, 1, 2147481600⟩ = ⟨52428700, 1, 2095052900⟩ := by kernel_rfl
def exS : ByteArray := ⟨#[0, 3, 31, 255, 156]⟩
theorem exB : strOfNums (beI (1 + 4) 52428700) = exS := by decide +kernel
theorem exe1 : errE exS Enc.new = 0 := by decide +kernel
theorem exe2 : errE exS ⟨0, 1, 2147481600⟩ = 0 := by decide +kernel
theorem exb1 : decide (dE exS Enc.new < shareN Enc.new.R 2048) = true := by decide +kernel
theorem exb2 : decide (dE exS ⟨0, 1, 2147481600⟩ < shareN 2147481600 100) = false := by decide +kernel
theorem exend : endE exS ⟨52428700, 1, 2095052900⟩ = 0 := by decide +kernel
theorem exok1 : Enc.ok ⟨0, 1, 2147481600⟩ := by rw [← ex1]; exact bitE_ok Enc.new_ok _ _
theorem exok2 : Enc.ok ⟨52428700, 1, 2095052900⟩ := by rw [← ex2]; exact bitE_ok exok1 _ _
set_option maxHeartbeats 4000000 in
set_option maxRecDepth 100000 in
theorem awake15.calls (w : World) : Calls Try.prog 22 #[] w fun e w' => e = .returned (.bool true) ∧ Below w.heap.size w w' := by
  go_enter Try.func22, Try.ntmps22
  go_wp2_with fail
  refine (chance_New.calls _).mono ?_
  rintro r w1 ⟨g, v, rfl, hS, hg, hb⟩
  have HS := Aside0.mk hS
  have HB := Aside0.mk hb
  have hgg := Aside0.mk hg
  have hv := Aside0.mk hS.ge
  clear hS hb hg
  go_wp2_with fail
  refine (enc_Bytes.calls Enc.new v _ g w1 HS ⟨⟨by decide, by decide⟩⟩).mono ?_
  rintro r w2 ⟨rfl, hb⟩
  rw [beI_new]
  have HS2 := Aside0.mk (HS.out.below hb)
  have HB2 := Aside0.mk (below_step HB.out hb)
  clear hb HS HB
  go_wp2_with fail
  refine (enc_Bit.calls Enc.new v _ g 2048 1 true rfl w2 HS2 ⟨Enc.new_ok⟩ ⟨by decide⟩ ⟨HB2.out.size⟩).mono ?_
  rintro r w3 ⟨rfl, v3, hS3, hm3⟩
  rw [ex1] at hS3
  have HS3 := Aside0.mk hS3
  have HB3 := Aside0.mk (hm3.to_below HB2.out HB2.out.size hgg.out HS2.out.ge)
  clear hS3 hm3 HS2 HB2
  go_wp2_with fail
  refine (enc_Bit.calls ⟨0, 1, 2147481600⟩ v3 _ g 100 0 false rfl w3 HS3 ⟨exok1⟩ ⟨by decide⟩ ⟨HB3.out.size⟩).mono ?_
  rintro r w4 ⟨rfl, v4, hS4, hm4⟩
  rw [ex2] at hS4
  have HS4 := Aside0.mk hS4
  have HB4 := Aside0.mk (hm4.to_below HB3.out HB3.out.size hgg.out HS3.out.ge)
  clear hS4 hm4 HS3 HB3
  go_wp2_with fail
  refine (enc_Bytes.calls ⟨52428700, 1, 2095052900⟩ v4 _ g w4 HS4 ⟨⟨by decide, by decide⟩⟩).mono ?_
  rintro r w5 ⟨rfl, hb⟩
  rw [exB]
  have HB5 := Aside0.mk (below_step HB4.out hb)
  clear hb HS4 HB4
  go_wp2_with fail
  refine (chance_From.calls exS w5).mono ?_
  rintro r w6 ⟨rfl, hD, hb⟩
  have HD : Aside0 (LiveAt w6 w5.heap.size exS Enc.new) := ⟨0, 0, hD, DecIn.start _⟩
  have HB6 := Aside0.mk (below_step HB5.out hb)
  have hgd : Aside0 (w.heap.size ≤ w5.heap.size) := ⟨HB5.out.size⟩
  clear hD hb HB5
  generalize w5.heap.size = gd at *
  go_wp2_with fail
  refine (dec_Bit.ok exS Enc.new gd 2048 w6 HD ⟨Enc.new_ok⟩ ⟨by decide⟩ ⟨by decide⟩ ⟨exe1⟩ true exb1).mono ?_
  rintro r w7 ⟨rfl, hD, hm⟩
  rw [ex1] at hD
  have HD7 := Aside0.mk hD
  have HB7 := Aside0.mk (Mine.to_below hm HB6.out HB6.out.size (fun k hk => by rw [hk]; exact hgd.out))
  clear hD hm HB6 HD
  go_wp2_with fail
  refine (dec_Bit.ok exS ⟨0, 1, 2147481600⟩ gd 100 w7 HD7 ⟨exok1⟩ ⟨by decide⟩ ⟨by decide⟩ ⟨exe2⟩ false exb2).mono ?_
  rintro r w8 ⟨rfl, hD, hm⟩
  rw [ex2] at hD
  have HD8 := Aside0.mk hD
  have HB8 := Aside0.mk (Mine.to_below hm HB7.out HB7.out.size (fun k hk => by rw [hk]; exact hgd.out))
  clear hD hm HB7 HD7
  go_wp2_with fail
  refine (wringerlaw1_Err.calls 0 0 _ rfl).mono ?_
  rintro r w9 ⟨rfl, hd⟩
  have HB9 := Aside0.mk (below_step HB8.out hd.below)
  have HD9 := Aside0.mk (HD8.out.below hd.below)
  clear hd HB8 HD8
  go_wp2_with fail
  refine (wringerlaw1_Err.calls 0 0 _ rfl).mono ?_
  rintro r w10 ⟨rfl, hd⟩
  have HB10 := Aside0.mk (below_step HB9.out hd.below)
  have HD10 := Aside0.mk (HD9.out.below hd.below)
  clear hd HB9 HD9
  go_wp2_with fail
  refine (dec_End.live exS ⟨52428700, 1, 2095052900⟩ gd w10 HD10 ⟨exok2⟩ ⟨by decide⟩ ⟨by decide⟩ 0 ⟨exend⟩).mono ?_
  rintro r w11 ⟨rfl, _, _, hm⟩
  have HB11 := Aside0.mk (Mine.to_below hm HB10.out HB10.out.size (fun k hk => by rw [hk]; exact hgd.out))
  clear hm HB10 HD10
  go_wp2_with fail
  refine (wringerlaw1_Err.calls 0 0 _ rfl).mono ?_
  rintro r w12 ⟨rfl, hd⟩
  have HB12 := Aside0.mk (below_step HB11.out hd.below)
  clear hd HB11
  go_wp2
  go_ret
  exact ⟨rfl, HB12.out⟩
end Go.Proofs.Ytgldblakdhalkaa
/- Asks in memory; an encoder and the reference's coder side by side. Conditions: as stated. -/
namespace Go.Proofs.Ytgldblakdhalkaa
set_option linter.unusedVariables false
open Go.RowKit Go.Proofs.YtgldblakdhalkaaW.PrintWords Go.Proofs.YtgldblakdhalkaaW.PrintLast Go.Proofs.YtgldblakdhalkaaW.PrintMore Go.Proofs.Ytgldblakdhalkaa.PBase
/-- One of the asks in memory: the chance, the bit, how many bits, the number. -/
structure AskAt (w : World) (x : Addr) (i : Nat) (p bit n : Int) (v : Nat) : Prop where
  cp : w.cell? (x.add (i * 4)) = some (.int .i64 p)
  cbit : w.cell? ⟨(x.add (i * 4)).block, (x.add (i * 4)).off + 1, none⟩ = some (.int .i64 bit)
  cn : w.cell? ⟨(x.add (i * 4)).block, (x.add (i * 4)).off + 2, none⟩ = some (.int .i64 n)
  cv : w.cell? ⟨(x.add (i * 4)).block, (x.add (i * 4)).off + 3, none⟩ = some (.int .u64 (v : Int))
  lt : v < 18446744073709551616
/-- A slice of asks in memory. -/
def IsAsks (w : World) (a : Option Addr) (len : Nat) : Prop := ∀ i, i < len → ∃ x p bit n v, a = some x ∧ AskAt w x i p bit n v
theorem AskAt.below {w w' : World} {x : Addr} {i : Nat} {p bit n : Int} {v : Nat} (h : AskAt w x i p bit n v) (hb : Below w.heap.size w w') : AskAt w' x i p bit n v :=
  ⟨by rw [hb.cell (World.block_lt_of_cell? _ _ h.cp)]; exact h.cp, by rw [hb.cell (World.block_lt_of_cell? _ _ h.cbit)]; exact h.cbit, by rw [hb.cell (World.block_lt_of_cell? _ _ h.cn)]; exact h.cn, by rw [hb.cell (World.block_lt_of_cell? _ _ h.cv)]; exact h.cv, h.lt⟩
/-- What an object stands on: its block and its row. -/
def foot (g : Nat) (v : Value) (k : Nat) : Prop := k = g ∨ v.ownBlock = some k
/-- Two objects stand apart. -/
def Apart (g1 : Nat) (v1 : Value) (g2 : Nat) (v2 : Value) : Prop := ∀ k, foot g1 v1 k → ¬ foot g2 v2 k
theorem Apart.symm {g1 g2 : Nat} {v1 v2 : Value} (h : Apart g1 v1 g2 v2) : Apart g2 v2 g1 v1 := fun k h1 h2 => h k h2 h1
theorem Apart.moved {g1 g2 : Nat} {v1 v2 v3 : Value} {w w' : World} (h : Apart g1 v1 g2 v2) (hl : ∀ k, foot g1 v1 k → k < w.heap.size) (hm : Moved g2 w v2 w' v3) : Apart g1 v1 g2 v3 := by
  intro k h1 h2
  rcases h2 with h2 | h2
  · exact h k h1 (Or.inl h2)
  · rcases hm.own with h3 | ⟨k', h3, h4⟩
    · exact h k h1 (Or.inr (h3.symm.trans h2))
    · rw [h3] at h2; injection h2 with h2; have := hl k h1; omega
theorem Moved.keep {g1 g2 : Nat} {v1 v2 v3 : Value} {w w' : World} (h : Apart g1 v1 g2 v2) (hm : Moved g2 w v2 w' v3) : ¬ (g1 = g2 ∨ v2.ownBlock = some g1) ∧ ∀ k, v1.ownBlock = some k → ¬ (k = g2 ∨ v2.ownBlock = some k) :=
  ⟨fun hk => h g1 (Or.inl rfl) hk, fun k hk h2 => h k (Or.inr hk) h2⟩
theorem EncAt.lt2 {w : World} {B g : Nat} {e : Enc} {v : Value} (h : EncAt w B g e v) : ∀ k, foot g v k → k < w.heap.size := fun k hk => by
  rcases hk with rfl | hk
  · exact blk_lt h.blk
  · exact (h.own.lt k hk).2
theorem CodAt.lt2 {w : World} {B g : Nat} {e : Enc} {v : Value} (h : CodAt w B g e v) : ∀ k, foot g v k → k < w.heap.size := fun k hk => by
  rcases hk with rfl | hk
  · exact blk_lt h.blk
  · exact (h.own.lt k hk).2
theorem EncAt.other {w w' : World} {B g g2 : Nat} {e : Enc} {v v2 v3 : Value} (h : EncAt w B g e v) (ha : Apart g v g2 v2) (hm : Moved g2 w v2 w' v3) : EncAt w' B g e v := h.mine hm.mine (Moved.keep ha hm).1 (Moved.keep ha hm).2
theorem CodAt.other {w w' : World} {B g g2 : Nat} {e : Enc} {v v2 v3 : Value} (h : CodAt w B g e v) (ha : Apart g v g2 v2) (hm : Moved g2 w v2 w' v3) : CodAt w' B g e v := h.mine hm.mine (Moved.keep ha hm).1 (Moved.keep ha hm).2
/-- An encoder and the reference's coder, at one state. -/
structure Pair (w : World) (B g1 g2 : Nat) (e : Enc) (v1 v2 : Value) : Prop where
  a : EncAt w B g1 e v1
  b : CodAt w B g2 e v2
  ab : Apart g1 v1 g2 v2
theorem EncAt.drew {w : World} {B g : Nat} {e : Enc} {v : Value} (h : EncAt w B g e v) : EncAt w.drew B g e v := ⟨h.blk, h.own, h.far⟩
theorem CodAt.drew {w : World} {B g : Nat} {e : Enc} {v : Value} (h : CodAt w B g e v) : CodAt w.drew B g e v := ⟨h.blk, h.own, h.far⟩
theorem Pair.drew {w : World} {B g1 g2 : Nat} {e : Enc} {v1 v2 : Value} (h : Pair w B g1 g2 e v1 v2) : Pair w.drew B g1 g2 e v1 v2 := ⟨h.a.drew, h.b.drew, h.ab⟩
/-- First the one takes a step, then the other. -/
structure Half (w : World) (B g1 g2 : Nat) (f e : Enc) (v1 v2 : Value) : Prop where
  a : EncAt w B g1 f v1
  b : CodAt w B g2 e v2
  ab : Apart g1 v1 g2 v2
theorem Pair.first {w w' : World} {B g1 g2 : Nat} {e f : Enc} {v1 v2 v3 : Value} (h : Pair w B g1 g2 e v1 v2) (hs : EncAt w' B g1 f v3) (hm : Moved g1 w v1 w' v3) : Half w' B g1 g2 f e v3 v2 :=
  ⟨hs, h.b.other h.ab.symm hm, (h.ab.symm.moved h.b.lt2 hm).symm⟩
theorem Half.drew {w : World} {B g1 g2 : Nat} {f e : Enc} {v1 v2 : Value} (h : Half w B g1 g2 f e v1 v2) : Half w.drew B g1 g2 f e v1 v2 := ⟨h.a.drew, h.b.drew, h.ab⟩
theorem Half.second {w w' : World} {B g1 g2 : Nat} {e f : Enc} {v1 v2 v3 : Value} (h : Half w B g1 g2 f e v1 v2) (hs : CodAt w' B g2 f v3) (hm : Moved g2 w v2 w' v3) : Pair w' B g1 g2 f v1 v3 :=
  ⟨h.a.other h.ab hm, hs, h.ab.moved h.a.lt2 hm⟩
theorem Pair.below {w w' : World} {B g1 g2 : Nat} {e : Enc} {v1 v2 : Value} (h : Pair w B g1 g2 e v1 v2) (hb : Below w.heap.size w w') : Pair w' B g1 g2 e v1 v2 := ⟨h.a.below hb, h.b.below hb, h.ab⟩
theorem directE_L (v : Nat) : ∀ (i : Nat) (e : Enc), (directE v i e).L ≤ e.L + 4 * i
  | 0, e => Nat.le_refl _
  | i + 1, e => by
    have h1 := directE_L v i (halfE (v / 2 ^ i % 2 == 1) e)
    have h2 := halfE_L (v / 2 ^ i % 2 == 1) e
    unfold directE
    omega
end Go.Proofs.Ytgldblakdhalkaa
namespace Go.Proofs.Ytgldblakdhalkaa
set_option linter.unusedVariables false
open Go.RowKit Go.Proofs.YtgldblakdhalkaaW.PrintWords Go.Proofs.YtgldblakdhalkaaW.PrintLast Go.Proofs.YtgldblakdhalkaaW.PrintMore
/-! ### What was put is told -/
/-- One ask: direct bits where n is not 0. -/
structure Ask where
  p : Int
  b : Bool
  n : Nat
  v : Nat
def stepE (a : Ask) (e : Enc) : Enc := if a.n = 0 then bitE a.p a.b e else directE a.v a.n e
def runE : List Ask → Enc → Enc
  | [], e => e
  | a :: l, e => runE l (stepE a e)
theorem stepE_ok (a : Ask) {e : Enc} (h : e.ok) : (stepE a e).ok := by
  unfold stepE
  split
  · exact bitE_ok h _ _
  · exact directE_ok _ _ _ h
theorem stepE_sub (a : Ask) {e : Enc} (h : e.ok) : e.sub (stepE a e) := by
  unfold stepE
  split
  · exact bitE_sub h _ _
  · exact directE_sub _ _ _
theorem runE_ok : ∀ (l : List Ask) {e : Enc}, e.ok → (runE l e).ok
  | [], _, h => h
  | a :: l, _, h => runE_ok l (stepE_ok a h)
theorem runE_sub : ∀ (l : List Ask) {e : Enc}, e.ok → e.sub (runE l e)
  | [], e, _ => e.sub_refl
  | a :: l, _, h => Enc.sub_trans (stepE_sub a h) (runE_sub l (stepE_ok a h))
/-- The first m bytes of n. -/
theorem numB_take (s : ByteArray) (m d : Nat) : numB s m = numB s (m + d) / 256 ^ d := by
  obtain ⟨h1, h2⟩ := numB_split s m d
  have hp : 0 < 256 ^ d := Nat.pow_pos (by decide)
  have h3 : numB s (m + d) / 256 ^ d < numB s m + 1 := (Nat.div_lt_iff_lt_mul hp).2 h2
  have h4 : numB s m ≤ numB s (m + d) / 256 ^ d := (Nat.le_div_iff_mul_le hp).2 h1
  omega
/-- The string says e's end state's number: each state on the way is met. -/
structure Says (s : ByteArray) (f : Enc) : Prop where
  size : f.L + 4 ≤ s.size
  lo : f.V ≤ numB s (f.L + 4)
  hi : numB s (f.L + 4) < f.V + f.R
theorem Says.ahead {s : ByteArray} {e f : Enc} (h : Says s f) (hs : e.sub f) : Says s e := by
  obtain ⟨h1, h2, h3⟩ := hs
  have hp : 0 < 256 ^ (f.L - e.L) := Nat.pow_pos (by decide)
  have he := numB_take s (e.L + 4) (f.L - e.L)
  rw [show e.L + 4 + (f.L - e.L) = f.L + 4 by omega] at he
  refine ⟨by have := h.size; omega, ?_, ?_⟩
  · rw [he]
    exact (Nat.le_div_iff_mul_le hp).2 (Nat.le_trans h2 h.lo)
  · rw [he]
    exact (Nat.div_lt_iff_lt_mul hp).2 (Nat.lt_of_lt_of_le h.hi h3)
theorem Says.err {s : ByteArray} {e : Enc} (h : Says s e) : errE s e = 0 := by
  unfold errE
  rw [if_neg (by have := h.size; omega), if_neg (by have := h.hi; omega)]
/-- A bit is told. -/
theorem Says.bit {s : ByteArray} {e : Enc} (h : e.ok) (p : Int) (b : Bool) (hs : Says s (bitP p b e)) : decide (dE s e < shareN e.R p) = b := by
  have h1 := hs.lo
  have h2 := hs.hi
  unfold dE
  cases b
  · unfold bitP at h1 h2
    rw [if_neg Bool.false_ne_true] at h1 h2
    simp only at h1 h2
    exact decide_eq_false (by omega)
  · unfold bitP at h1 h2
    rw [if_pos rfl] at h1 h2
    simp only at h1 h2
    exact decide_eq_true (by omega)
theorem Says.half {s : ByteArray} {e : Enc} (b : Bool) (hs : Says s (halfP b e)) : decide (e.R / 2 ≤ dE s e) = b := by
  have h1 := hs.lo
  have h2 := hs.hi
  unfold dE
  cases b
  · unfold halfP at h1 h2
    rw [if_neg Bool.false_ne_true] at h1 h2
    simp only at h1 h2
    exact decide_eq_false (by omega)
  · unfold halfP at h1 h2
    rw [if_pos rfl] at h1 h2
    simp only at h1 h2
    exact decide_eq_true (by omega)
/-- Direct bits are told. -/
theorem Says.direct {s : ByteArray} (v : Nat) : ∀ (i : Nat) (e : Enc) (acc : Nat), e.ok → Says s (directE v i e) → dirS s i e acc = (acc * 2 ^ i + v % 2 ^ i, 0, directE v i e)
  | 0, e, acc, _, _ => by simp [dirS_zero, directE, Nat.mod_one]
  | i + 1, e, acc, h, hs => by
    have hb : Says s (halfE (v / 2 ^ i % 2 == 1) e) := hs.ahead (directE_sub v i _)
    have h0 : Says s e := hb.ahead (halfE_sub e _)
    have hd := Says.half (v / 2 ^ i % 2 == 1) (hb.ahead (grow_sub 4 _))
    rw [dirS_ok s i e acc h0.err _ hd, Says.direct v i _ _ (halfE_ok h _) hs]
    have e1 : v % 2 ^ (i + 1) = v % 2 ^ i + 2 ^ i * (v / 2 ^ i % 2) := by rw [Nat.pow_succ, Nat.mod_mul]
    have e2 : (v / 2 ^ i % 2 == 1).toNat = v / 2 ^ i % 2 := by
      rcases Nat.mod_two_eq_zero_or_one (v / 2 ^ i) with h | h <;> rw [h] <;> rfl
    rw [e2, e1, Nat.pow_succ]
    congr 1
    rw [Nat.add_mul, Nat.mul_assoc, Nat.mul_comm 2 (2 ^ i), Nat.mul_comm (v / 2 ^ i % 2)]
    omega
/-! ### The bytes of a state -/
theorem be_size (n V : Nat) : (strOfNums (beI n V)).size = n := by rw [strOfNums_size, beI_length]
theorem bn_be (n V j : Nat) (h : j < n) : bn (strOfNums (beI n V)) j = dg V (n - 1 - j) := by
  unfold bn
  rw [lst_nums]
  unfold nat8
  rw [List.getD_eq_getElem?_getD, List.getElem?_map, beI_get _ _ _ h]
  have := dg_lt V (n - 1 - j)
  simp only [Option.map_some, Option.getD_some, Int.toNat_natCast]
  exact Nat.mod_eq_of_lt this
theorem numB_be (n V : Nat) (hV : V < 256 ^ n) : ∀ m, m ≤ n → numB (strOfNums (beI n V)) m = V / 256 ^ (n - m)
  | 0, _ => by rw [Nat.sub_zero]; exact (Nat.div_eq_of_lt hV).symm
  | m + 1, h => by
    show numB _ m * 256 + bn _ m = _
    rw [numB_be n V hV m (by omega), bn_be n V m (by omega), show n - m = n - 1 - m + 1 by omega, show n - (m + 1) = n - 1 - m by omega, Nat.pow_succ, ← Nat.div_div_eq_div_mul]
    unfold dg
    omega
theorem ok_fits {e : Enc} (h : e.ok) : e.V < 256 ^ (e.L + 4) := by
  obtain ⟨h1, h2, h3, h4⟩ := h
  have : 256 ^ (e.L + 3) ≤ 256 ^ (e.L + 4) := Nat.pow_le_pow_right (by decide) (by omega)
  omega
/-- The bytes of a state. -/
def bytesE (e : Enc) : ByteArray := strOfNums (beI (e.L + 4) e.V)
theorem bytesE_size (e : Enc) : (bytesE e).size = e.L + 4 := be_size _ _
theorem bytesE_num {e : Enc} (h : e.ok) : numB (bytesE e) (e.L + 4) = e.V := by
  unfold bytesE
  rw [numB_be _ _ (ok_fits h) _ (Nat.le_refl _), Nat.sub_self, Nat.pow_zero, Nat.div_one]
theorem bytesE_says {e : Enc} (h : e.ok) : Says (bytesE e) e := ⟨by rw [bytesE_size]; exact Nat.le_refl _, by rw [bytesE_num h]; exact Nat.le_refl _, by rw [bytesE_num h]; have := h.2.1; omega⟩
theorem bytesE_end {e : Enc} (h : e.ok) : endE (bytesE e) e = 0 := by
  unfold endE
  rw [if_pos (bytesE_says h).err, if_pos]
  refine ⟨?_, by rw [bytesE_size]⟩
  unfold dE
  rw [bytesE_num h, Nat.sub_self]
/-- A string of that length and number is these bytes. -/
theorem numB_inj {s t : ByteArray} (n : Nat) (hs : s.size = n) (ht : t.size = n) (h : numB s n = numB t n) : s = t := by
  have hb : ∀ j, j < n → bn s j = bn t j := fun j hj => by
    have h1 := numB_take s (j + 1) (n - (j + 1))
    have h2 := numB_take t (j + 1) (n - (j + 1))
    rw [show j + 1 + (n - (j + 1)) = n by omega] at h1 h2
    have h3 := numB_take s j (n - j)
    have h4 := numB_take t j (n - j)
    rw [show j + (n - j) = n by omega] at h3 h4
    have e1 : numB s (j + 1) = numB s j * 256 + bn s j := rfl
    have e2 : numB t (j + 1) = numB t j * 256 + bn t j := rfl
    rw [h] at h1 h3
    omega
  apply lst_inj
  apply List.ext_getElem?
  intro j
  by_cases hj : j < n
  · have h1 := hb j hj
    unfold bn at h1
    rw [List.getD_eq_getElem?_getD, List.getD_eq_getElem?_getD, List.getElem?_eq_getElem (by rw [lst_length]; omega), List.getElem?_eq_getElem (by rw [lst_length]; omega)] at h1
    rw [List.getElem?_eq_getElem (by rw [lst_length]; omega), List.getElem?_eq_getElem (by rw [lst_length]; omega)]
    exact congrArg some h1
  · rw [List.getElem?_eq_none (by rw [lst_length]; omega), List.getElem?_eq_none (by rw [lst_length]; omega)]
/-- The end is told of these bytes alone. -/
theorem end_only {s : ByteArray} {e : Enc} (h : e.ok) (hlo : e.L + 4 ≤ s.size → e.V ≤ numB s (e.L + 4)) (he : endE s e = 0) : s = bytesE e := by
  unfold endE at he
  by_cases h0 : errE s e = 0
  · rw [if_pos h0] at he
    by_cases h1 : dE s e = 0 ∧ e.L + 4 = s.size
    · refine numB_inj (e.L + 4) h1.2.symm (bytesE_size e) ?_
      rw [bytesE_num h]
      have h2 := hlo (by omega)
      have h3 := h1.1
      unfold dE at h3
      omega
    · rw [if_neg h1] at he
      exact absurd he (by decide)
  · rw [if_neg h0] at he
    exact absurd he h0
/-- Direct bits that were told lead on by themselves. -/
theorem directE_mod (v w : Nat) : ∀ (i : Nat) (e : Enc), v % 2 ^ i = w % 2 ^ i → directE v i e = directE w i e
  | 0, _, _ => rfl
  | i + 1, e, h => by
    have hp : 0 < 2 ^ i := Nat.pow_pos (by decide)
    have e1 : v % 2 ^ (i + 1) = v % 2 ^ i + 2 ^ i * (v / 2 ^ i % 2) := by rw [Nat.pow_succ, Nat.mod_mul]
    have e2 : w % 2 ^ (i + 1) = w % 2 ^ i + 2 ^ i * (w / 2 ^ i % 2) := by rw [Nat.pow_succ, Nat.mod_mul]
    have h1 : v % 2 ^ i = w % 2 ^ i := by
      have a1 : v % 2 ^ (i + 1) % 2 ^ i = v % 2 ^ i := by rw [Nat.pow_succ]; exact Nat.mod_mul_right_mod _ _ _
      have a2 : w % 2 ^ (i + 1) % 2 ^ i = w % 2 ^ i := by rw [Nat.pow_succ]; exact Nat.mod_mul_right_mod _ _ _
      rw [← a1, ← a2, h]
    have h2 : v / 2 ^ i % 2 = w / 2 ^ i % 2 := by
      have h3 : 2 ^ i * (v / 2 ^ i % 2) = 2 ^ i * (w / 2 ^ i % 2) := by omega
      exact Nat.eq_of_mul_eq_mul_left hp h3
    unfold directE
    rw [h2, directE_mod v w i _ h1]
theorem dirS_told (s : ByteArray) : ∀ (i : Nat) (e : Enc) (acc r : Nat) (f : Enc), dirS s i e acc = (r, 0, f) → ∃ w, w < 2 ^ i ∧ r = acc * 2 ^ i + w ∧ f = directE w i e
  | 0, e, acc, r, f, h => by
    rw [dirS_zero] at h
    injection h with h1 h2
    injection h2 with _ h3
    exact ⟨0, by decide, by rw [Nat.pow_zero, Nat.mul_one, Nat.add_zero]; exact h1.symm, h3.symm⟩
  | i + 1, e, acc, r, f, h => by
    by_cases he : errE s e = 0
    · rw [dirS_ok s i e acc he _ rfl] at h
      obtain ⟨w, hw, hr, hf⟩ := dirS_told s i _ _ r f h
      generalize decide (e.R / 2 ≤ dE s e) = b at *
      have hp : 0 < 2 ^ i := Nat.pow_pos (by decide)
      have hbl : b.toNat < 2 := by cases b <;> decide
      have hdv : (b.toNat * 2 ^ i + w) / 2 ^ i = b.toNat := by
        rw [Nat.add_comm, Nat.add_mul_div_right _ _ hp, Nat.div_eq_of_lt hw, Nat.zero_add]
      refine ⟨b.toNat * 2 ^ i + w, ?_, ?_, ?_⟩
      · have : b.toNat * 2 ^ i ≤ 1 * 2 ^ i := Nat.mul_le_mul_right _ (by omega)
        rw [Nat.pow_succ]
        omega
      · rw [hr, Nat.add_mul, Nat.pow_succ, Nat.mul_assoc, Nat.mul_comm 2 (2 ^ i)]
        omega
      · show f = directE (b.toNat * 2 ^ i + w) i (halfE ((b.toNat * 2 ^ i + w) / 2 ^ i % 2 == 1) e)
        rw [hdv, show (b.toNat % 2 == 1) = b by cases b <;> rfl, hf]
        refine directE_mod _ _ _ _ ?_
        rw [Nat.add_comm, Nat.add_mul_mod_self_right]
    · rw [dirS_err s i e acc he] at h
      injection h with h1 h2
      injection h2 with h2 _
      exact absurd h2 he

end Go.Proofs.Ytgldblakdhalkaa
/- Two encoders that stand apart. Conditions: as each lemma states. -/
namespace Go.Proofs.Ytgldblakdhalkaa
set_option linter.unusedVariables false
open Go.RowKit Go.Proofs.YtgldblakdhalkaaW.PrintWords Go.Proofs.YtgldblakdhalkaaW.PrintLast Go.Proofs.YtgldblakdhalkaaW.PrintMore Go.Proofs.Ytgldblakdhalkaa.PBase
theorem u8_bounds (a : Int) (h : (Lit.int .u8 a).wf = true) : 0 ≤ a ∧ a ≤ 255 := by
  simp only [Lit.wf, Bool.and_eq_true, decide_eq_true_eq] at h
  exact h
theorem u64_bounds (a : Int) (h : (Lit.int .u64 a).wf = true) : 0 ≤ a ∧ a ≤ 18446744073709551615 := by
  simp only [Lit.wf, Bool.and_eq_true, decide_eq_true_eq] at h
  exact h
theorem u16_bounds (a : Int) (h : (Lit.int .u16 a).wf = true) : 0 ≤ a ∧ a ≤ 65535 := by
  simp only [Lit.wf, Bool.and_eq_true, decide_eq_true_eq] at h
  exact h
/-- Two encoders at two states. -/
structure TwoE (w : World) (B g1 g2 : Nat) (e f : Enc) (v1 v2 : Value) : Prop where
  a : EncAt w B g1 e v1
  b : EncAt w B g2 f v2
  ab : Apart g1 v1 g2 v2
theorem TwoE.drew {w : World} {B g1 g2 : Nat} {e f : Enc} {v1 v2 : Value} (h : TwoE w B g1 g2 e f v1 v2) : TwoE w.drew B g1 g2 e f v1 v2 := ⟨h.a.drew, h.b.drew, h.ab⟩
theorem TwoE.first {w w' : World} {B g1 g2 : Nat} {e f e' : Enc} {v1 v2 v3 : Value} (h : TwoE w B g1 g2 e f v1 v2) (hs : EncAt w' B g1 e' v3) (hm : Moved g1 w v1 w' v3) : TwoE w' B g1 g2 e' f v3 v2 :=
  ⟨hs, h.b.other h.ab.symm hm, (h.ab.symm.moved h.b.lt2 hm).symm⟩
theorem TwoE.second {w w' : World} {B g1 g2 : Nat} {e f f' : Enc} {v1 v2 v3 : Value} (h : TwoE w B g1 g2 e f v1 v2) (hs : EncAt w' B g2 f' v3) (hm : Moved g2 w v2 w' v3) : TwoE w' B g1 g2 e f' v1 v3 :=
  ⟨h.a.other h.ab hm, hs, h.ab.moved h.a.lt2 hm⟩
theorem TwoE.below {w w' : World} {B g1 g2 : Nat} {e f : Enc} {v1 v2 : Value} (h : TwoE w B g1 g2 e f v1 v2) (hb : Below w.heap.size w w') : TwoE w' B g1 g2 e f v1 v2 := ⟨h.a.below hb, h.b.below hb, h.ab⟩
/-- What an object does that came later. -/
theorem EncAt.past {w w0 w' : World} {B g gd : Nat} {e : Enc} {v : Value} (h : EncAt w B g e v) (h0 : EncAt w0 B g e v) (hd : w0.heap.size ≤ gd) (hm : Mine (· = gd) w w') : EncAt w' B g e v :=
  h.mine hm (fun hg => by have := h0.lt2 g (Or.inl rfl); omega) (fun k hk hg => by have := h0.lt2 k (Or.inr hk); omega)
theorem TwoE.past {w w0 w' : World} {B g1 g2 gd : Nat} {e f : Enc} {v1 v2 : Value} (h : TwoE w B g1 g2 e f v1 v2) (h0 : TwoE w0 B g1 g2 e f v1 v2) (hd : w0.heap.size ≤ gd) (hm : Mine (· = gd) w w') : TwoE w' B g1 g2 e f v1 v2 :=
  ⟨h.a.past h0.a hd hm, h.b.past h0.b hd hm, h.ab⟩
/-- Two encoders that are new. -/
theorem TwoE.made {W w1 w2 : World} {g1 g2 : Nat} {v1 v2 : Value} (hS : EncAt w1 W.heap.size g1 Enc.new v1) (hb1 : Below W.heap.size W w1) (hT : EncAt w2 w1.heap.size g2 Enc.new v2) (hg : w1.heap.size ≤ g2) (hb : Below w1.heap.size w1 w2) : TwoE w2 W.heap.size g1 g2 Enc.new Enc.new v1 v2 := by
  refine ⟨hS.below hb, ⟨hT.blk, own_base hT.own hb1.size, hT.far⟩, ?_⟩
  intro k h1 h2
  have h3 := hS.lt2 k h1
  rcases h2 with h2 | h2
  · omega
  · have := hT.ge k h2; omega
theorem lenN_nat (k : Nat) (h : k ≤ 64) : lenN (k : Int) = k := by
  unfold lenN mx mn
  split <;> split <;> omega
end Go.Proofs.Ytgldblakdhalkaa
/- Rows of asks that an object owns: their cells, how they are copied and stored. Conditions: as each lemma states. -/
namespace Go.Proofs.Ytgldblakdhalkaa
set_option linter.unusedVariables false
open Go.RowKit Go.Proofs.YtgldblakdhalkaaW.PrintWords Go.Proofs.YtgldblakdhalkaaW.PrintLast Go.Proofs.YtgldblakdhalkaaW.PrintMore Go.Proofs.Ytgldblakdhalkaa.PBase
/-! ### Any owned row -/
theorem row_cell {w : World} {B e size n b C : Nat} {xs : List Value} (h : w.ownsRow B e size (.slice (some ⟨b, 0, none⟩) n C) n xs) (k : Nat) (x : Value) (hx : xs[k]? = some x) : w.cell? ⟨b, k, none⟩ = some x ∧ w.frozen? ⟨b, k, none⟩ = false := by
  rcases h.2 with ⟨h0, _⟩ | ⟨g', cap', cur, hv, hb, hg, hn, hc, hs2, ht⟩
  · cases h0
  · injection hv with e1 e2 e3
    injection e1 with e1
    injection e1 with e1 _ _
    subst e1 e3
    have hi : k < n * size := by rw [← h.1]; exact (List.getElem?_eq_some_iff.1 hx).1
    refine ⟨?_, blk_frozen hg k⟩
    rw [blk_cell hg k]
    have h2 : (cur.toList.take (n * size))[k]? = xs[k]? := by rw [ht]
    rw [List.getElem?_take, if_pos hi, Array.getElem?_toList] at h2
    rw [h2, hx]
theorem row_put {w : World} {B e size n b C : Nat} {xs : List Value} (h : w.ownsRow B e size (.slice (some ⟨b, 0, none⟩) n C) n xs) (k : Nat) (x : Value) : (w.setCell ⟨b, k, none⟩ x).ownsRow B e size (.slice (some ⟨b, 0, none⟩) n C) n (xs.set k x) := by
  refine ⟨?_, ?_⟩
  · rw [List.length_set]; exact h.1
  rcases h.2 with ⟨h0, _⟩ | ⟨g', cap', cur, hv, hb, hg, hn, hc, hs2, ht⟩
  · cases h0
  · injection hv with e1 e2 e3
    injection e1 with e1
    injection e1 with e1 _ _
    subst e1 e3
    refine .inr ⟨b, C, _, rfl, hb, blk_set hg k _, hn, hc, by rw [Array.size_setIfInBounds]; exact hs2, ?_⟩
    rw [Array.toList_setIfInBounds, List.take_set, ht]
theorem row_slice {w : World} {B e size n : Nat} {v : Value} {xs : List Value} (h : w.ownsRow B e size v n xs) : ∃ A C, v = .slice A n C := by
  rcases h.2 with ⟨rfl, rfl⟩ | ⟨g, cap, cur, rfl, _⟩
  · exact ⟨_, _, rfl⟩
  · exact ⟨_, _, rfl⟩
/-! ### Asks -/
structure Raw where
  p : Int
  bit : Int
  n : Int
  v : Nat
def Raw.cells (r : Raw) : List Value := [.int .i64 r.p, .int .i64 r.bit, .int .i64 r.n, .int .u64 (r.v : Int)]
def flat : List Raw → List Value
  | [] => []
  | r :: l => r.cells ++ flat l
theorem flat_length : ∀ l : List Raw, (flat l).length = l.length * 4
  | [] => rfl
  | r :: l => by
    show (r.cells ++ flat l).length = _
    rw [List.length_append, flat_length l, List.length_cons]
    show 4 + _ = _
    omega
theorem flat_get : ∀ (l : List Raw) (i j : Nat) (r : Raw), l[i]? = some r → j < 4 → (flat l)[i * 4 + j]? = r.cells[j]?
  | [], i, j, r, h, _ => by simp at h
  | r0 :: l, 0, j, r, h, hj => by
    have e : r0 = r := by simpa using h
    show (r0.cells ++ flat l)[0 * 4 + j]? = _
    rw [e, Nat.zero_mul, Nat.zero_add, List.getElem?_append_left (show j < r.cells.length from hj)]
  | r0 :: l, i + 1, j, r, h, hj => by
    have h2 : l[i]? = some r := by simpa using h
    show (r0.cells ++ flat l)[(i + 1) * 4 + j]? = _
    rw [List.getElem?_append_right (show r0.cells.length ≤ (i + 1) * 4 + j by show 4 ≤ _; omega), show (i + 1) * 4 + j - r0.cells.length = i * 4 + j by show (i + 1) * 4 + j - 4 = _; omega]
    exact flat_get l i j r h2 hj
def Raw.with (r : Raw) (x : Int) : Raw := ⟨r.p, r.bit, x, r.v⟩
theorem flat_set : ∀ (l : List Raw) (i : Nat) (r : Raw) (x : Int), l[i]? = some r → (flat l).set (i * 4 + 2) (.int .i64 x) = flat (l.set i (r.with x))
  | [], i, r, x, h => by simp at h
  | r0 :: l, 0, r, x, h => by
    have e : r0 = r := by simpa using h
    subst e
    rfl
  | r0 :: l, i + 1, r, x, h => by
    have h2 : l[i]? = some r := by simpa using h
    show (r0.cells ++ flat l).set ((i + 1) * 4 + 2) _ = r0.cells ++ flat (l.set i (r.with x))
    rw [← flat_set l i r x h2, List.set_append_right (h := show r0.cells.length ≤ (i + 1) * 4 + 2 by show 4 ≤ _; omega), show (i + 1) * 4 + 2 - r0.cells.length = i * 4 + 2 by show (i + 1) * 4 + 2 - 4 = _; omega]
/-- Asks among the arguments, as a list. -/
theorem asks_list {W : World} {A : Option Addr} : ∀ (len : Nat), IsAsks W A len → ∃ l : List Raw, l.length = len ∧ (∀ r ∈ l, r.v < 18446744073709551616) ∧ ∀ i r, l[i]? = some r → ∃ x, A = some x ∧ AskAt W x i r.p r.bit r.n r.v
  | 0, _ => ⟨[], rfl, fun r h => by simp at h, fun i r h => by simp at h⟩
  | len + 1, h => by
    obtain ⟨l, hl, hv, hi⟩ := asks_list len (fun i hi => h i (by omega))
    obtain ⟨x, p, b, n, v, hA, ha⟩ := h len (by omega)
    refine ⟨l ++ [⟨p, b, n, v⟩], by rw [List.length_append, hl]; rfl, ?_, ?_⟩
    · intro r hr
      rcases List.mem_append.1 hr with hr | hr
      · exact hv r hr
      · rw [List.mem_singleton.1 hr]; exact ha.lt
    · intro i r hr
      by_cases hil : i < l.length
      · rw [List.getElem?_append_left hil] at hr
        exact hi i r hr
      · rw [List.getElem?_append_right (by omega)] at hr
        have e : i - l.length = 0 := by
          rcases Nat.eq_zero_or_pos (i - l.length) with h0 | h0
          · exact h0
          · rw [List.getElem?_eq_none (by show 1 ≤ _; omega)] at hr; cases hr
        rw [e] at hr
        have e2 : (⟨p, b, n, v⟩ : Raw) = r := by simpa using hr
        have e3 : i = len := by omega
        subst e2 e3
        exact ⟨x, hA, ha⟩
theorem add_next (x : Addr) (k j : Nat) (hj : 0 < j) : x.add (k + j) = ⟨(x.add k).block, (x.add k).off + j, none⟩ := by
  unfold Addr.add
  rw [if_neg (by omega)]
  split
  · rename_i h
    rw [h, Nat.zero_add]
  · rw [Nat.add_assoc]
theorem AskAt.cells {W : World} {x : Addr} {i : Nat} {r : Raw} (h : AskAt W x i r.p r.bit r.n r.v) : ∀ j u, j < 4 → r.cells[j]? = some u → W.cell? (x.add (i * 4 + j)) = some u := by
  intro j u hj hu
  rcases (by omega : j = 0 ∨ j = 1 ∨ j = 2 ∨ j = 3) with e | e | e | e
  · subst e
    rw [Nat.add_zero, h.cp]
    simpa [Raw.cells] using hu
  · subst e
    rw [add_next x (i * 4) 1 (by decide), h.cbit]
    simpa [Raw.cells] using hu
  · subst e
    rw [add_next x (i * 4) 2 (by decide), h.cn]
    simpa [Raw.cells] using hu
  · subst e
    rw [add_next x (i * 4) 3 (by decide), h.cv]
    simpa [Raw.cells] using hu
theorem flat_ask (l : List Raw) (j : Nat) (u : Value) (h : (flat l)[j]? = some u) : ∃ r, l[j / 4]? = some r ∧ r.cells[j % 4]? = some u := by
  have hj : j < (flat l).length := (List.getElem?_eq_some_iff.1 h).1
  rw [flat_length] at hj
  have hi : j / 4 < l.length := by omega
  have h2 := flat_get l (j / 4) (j % 4) l[j / 4] (List.getElem?_eq_getElem hi) (by omega)
  rw [show j / 4 * 4 + j % 4 = j by omega, h] at h2
  exact ⟨l[j / 4], List.getElem?_eq_getElem hi, h2.symm⟩
theorem cells_one (r : Raw) : ∀ u ∈ r.cells, u.oneCell' = true := by
  intro u hu
  unfold Raw.cells at hu
  rcases List.mem_cons.1 hu with h | hu
  · rw [h]; rfl
  rcases List.mem_cons.1 hu with h | hu
  · rw [h]; rfl
  rcases List.mem_cons.1 hu with h | hu
  · rw [h]; rfl
  · rw [List.mem_singleton.1 hu]; rfl
theorem flat_one : ∀ (l : List Raw), ∀ u ∈ flat l, u.oneCell' = true
  | [], u, h => by simp [flat] at h
  | r :: l, u, h => by
    rcases List.mem_append.1 (show u ∈ r.cells ++ flat l from h) with h | h
    · exact cells_one r u h
    · exact flat_one l u h
theorem hi44 : (Try.prog.info? 44).map (fun i => (i.zero, i.size, i.bytes)) = some (some (.agg #[.int .i64 0, .int .i64 0, .int .i64 0, .int .u64 0]), 4, 32) := by kernel_rfl
theorem zero44 : (Value.agg #[.int .i64 0, .int .i64 0, .int .i64 0, .int .u64 0]).cells.size = 4 := by kernel_rfl
/-- All asks copied into a row of one's own. -/
theorem run_copy_asks (w : World) (B b0 : Nat) (A : Option Addr) (len cap ty : Nat) (l : List Raw) (hb0 : w.heap[b0]? = some (.cells #[] 44 (0, 0))) (hB : B ≤ b0) (hl : l.length = len) (hlen : len ≤ 1000) (h : ∀ i r, l[i]? = some r → ∃ x, A = some x ∧ AskAt w x i r.p r.bit r.n r.v) (hA : A = none → len = 0) :
    ∃ v' w', (Builtin.append_ #[37, 37] ty #[.slice (some ⟨b0, 0, none⟩) 0 0, .slice A len cap]).run Try.prog w = .ok v' w' ∧ w'.ownsRow B 44 4 v' len (flat l) ∧ w.grownBy w' (some b0) ∧ (v'.ownBlock = some b0 ∨ v'.ownBlock = some w.heap.size) := by
  obtain ⟨i, hi, hq⟩ := Option.map_eq_some_iff.1 hi44
  simp only [Prod.mk.injEq] at hq
  obtain ⟨hz, hs, hby⟩ := hq
  have hlt : b0 < w.heap.size := (Array.getElem?_eq_some_iff.1 hb0).1
  have hown : w.ownsRow B 44 4 (.slice (some ⟨b0, 0, none⟩) 0 0) 0 [] := ⟨rfl, .inr ⟨b0, 0, _, rfl, hB, hb0, Nat.le_refl _, by decide, rfl, rfl⟩⟩
  cases A with
  | none =>
    obtain rfl := hA rfl
    have hl0 : l = [] := List.eq_nil_of_length_eq_zero hl
    subst hl0
    have hr := run_append_nothing (P := Try.prog) w 37 37 ty 44 i Try.underlying37 hi (some ⟨b0, 0, none⟩) 0 0 (Nat.le_refl _) (.slice none 0 cap) (Src.ofNil w Try.underlying37 cap)
    exact ⟨_, _, hr, hown, ⟨rfl, rfl, rfl, Nat.le_refl _, fun _ _ _ => rfl⟩, Or.inl rfl⟩
  | some x =>
    obtain ⟨v', w', hr, h2, h3, _, h5⟩ := run_append_own_at (P := Try.prog) w B 37 ty 44 i _ 4 32 Try.underlying37 hi hz hs hby zero44 (by decide) _ 0 [] hown x len cap (flat l) (by rw [flat_length, hl]) (fun j u hu => by
      obtain ⟨r, hr, hru⟩ := flat_ask l j u hu
      obtain ⟨x', hx, ha⟩ := h _ r hr
      injection hx with hx
      subst hx
      have := ha.cells (j % 4) u (by omega) hru
      rwa [show j / 4 * 4 + j % 4 = j by omega] at this) (flat_one l) (Nat.le_trans (show 0 + len ≤ 1000 by omega) (by decide)) (by omega) (by omega)
    rw [Nat.zero_add, List.nil_append] at h2
    exact ⟨v', w', hr, h2, h3, h5⟩
/-- At the list of a plain region's operations. -/
theorem list_asks {w w' : World} {ops : Array Oper} {rest : List Oper} {o : Oper} {a : Act} {Q : Exit → Act → World → Prop} (hgd : o.guard = none) (x y : Operand)
    (ho : o.op = .call { callee := .builtin .append, args := #[x, y], argTypes := #[37, 37] }) (u v v' : Value) (hx : a.eval x = u) (hy : a.eval y = v) (hr : (Builtin.append_ #[37, 37] o.type #[u, v]).run Try.prog w = .ok v' w')
    (h : wpList Try.prog ops Q rest (a.put o.dst v') w') : wpList Try.prog ops Q (o :: rest) a w :=
  wpList_plain hgd fun K hK => by
    unfold Oper.wp execOp
    simp only [ho, resolve, invoke, builtin, Sem.run_bind, Sem.run_pure, Result.andThen_ok, List.map_toArray, List.map_cons, List.map_nil, hx, hy, hr]
    exact hK _ _ h
end Go.Proofs.Ytgldblakdhalkaa
/- What was put is told: each step's answer, and the end. No program in it. -/
namespace Go.Proofs.Ytgldblakdhalkaa
set_option linter.unusedVariables false
open Go.RowKit Go.Proofs.YtgldblakdhalkaaW.PrintWords Go.Proofs.YtgldblakdhalkaaW.PrintLast Go.Proofs.YtgldblakdhalkaaW.PrintMore
def askOf (r : Raw) : Ask := ⟨r.p, r.bit != 0, lenN r.n, r.v⟩
def clamp (r : Raw) : Raw := r.with (lenN r.n : Int)
def runR (l : List Raw) : Enc := runE (l.map askOf) Enc.new
theorem runE_snoc : ∀ (l : List Ask) (a : Ask) (e : Enc), runE (l ++ [a]) e = stepE a (runE l e)
  | [], a, e => rfl
  | b :: l, a, e => runE_snoc l a (stepE b e)
theorem runR_next (l : List Raw) (i : Nat) (r : Raw) (h : l[i]? = some r) : runR (l.take (i + 1)) = stepE (askOf r) (runR (l.take i)) := by
  unfold runR
  rw [List.take_add_one, h, List.map_append]
  exact runE_snoc _ _ _
theorem runR_ok (l : List Raw) : (runR l).ok := runE_ok _ Enc.new_ok
theorem runE_app : ∀ (l k : List Ask) (e : Enc), runE (l ++ k) e = runE k (runE l e)
  | [], k, e => rfl
  | a :: l, k, e => runE_app l k (stepE a e)
theorem runR_sub (l : List Raw) (i : Nat) : (runR (l.take i)).sub (runR l) := by
  have h : runR l = runE ((l.drop i).map askOf) (runR (l.take i)) := by
    unfold runR
    rw [← runE_app, ← List.map_append, List.take_append_drop]
  rw [h]
  exact runE_sub _ (runR_ok _)
theorem runR_L (l : List Raw) : ∀ i, i ≤ l.length → (runR (l.take i)).L ≤ 1 + 256 * i
  | 0, _ => by rw [List.take_zero]; exact Nat.le_refl _
  | i + 1, h => by
    have ih := runR_L l i (by omega)
    rw [runR_next l i l[i] (List.getElem?_eq_getElem (by omega))]
    unfold stepE
    split
    · have := bitE_L (askOf l[i]).p (askOf l[i]).b (runR (l.take i)); omega
    · have := directE_L (askOf l[i]).v (askOf l[i]).n (runR (l.take i)); have h2 : (askOf l[i]).n ≤ 64 := lenN_le _; omega
/-! ### The list, half of it clamped -/
def mid (i : Nat) (l : List Raw) : List Raw := (l.take i).map clamp ++ l.drop i
theorem mid_zero (l : List Raw) : mid 0 l = l := by simp [mid]
theorem mid_all (l : List Raw) : mid l.length l = l.map clamp := by simp [mid]
theorem mid_length (i : Nat) (l : List Raw) : (mid i l).length = l.length := by simp [mid]; omega
theorem mid_at (l : List Raw) (i : Nat) (r : Raw) (h : l[i]? = some r) : (mid i l)[i]? = some r := by
  have hi : i < l.length := (List.getElem?_eq_some_iff.1 h).1
  have hm : ((l.take i).map clamp).length = i := by simp; omega
  unfold mid
  rw [List.getElem?_append_right (by omega), hm, Nat.sub_self, List.getElem?_drop, Nat.add_zero, h]
theorem mid_set (l : List Raw) (i : Nat) (r : Raw) (h : l[i]? = some r) : (mid i l).set i (clamp r) = mid (i + 1) l := by
  have hi : i < l.length := (List.getElem?_eq_some_iff.1 h).1
  have hm : ((l.take i).map clamp).length = i := by simp; omega
  have hr : l[i] = r := (List.getElem?_eq_some_iff.1 h).2
  unfold mid
  rw [List.set_append_right (h := by omega), hm, Nat.sub_self, List.drop_eq_getElem_cons hi, List.set_cons_zero, List.take_add_one, h, List.map_append, List.append_assoc]
  rfl
/-! ### Each answer -/
theorem told_direct {t : ByteArray} {e f : Enc} {v n V er : Nat} (hd : dirS t n e 0 = (V, er, f)) (h0 : er = 0) (hV : V = v % 2 ^ n) : f = directE v n e := by
  subst h0
  obtain ⟨w, hw, hr, hf⟩ := dirS_told t n e 0 V f hd
  rw [Nat.zero_mul, Nat.zero_add] at hr
  rw [hf]
  refine directE_mod _ _ _ _ ?_
  rw [Nat.mod_eq_of_lt hw, ← hr, hV]
theorem says_direct {t : ByteArray} {e f : Enc} {v n V er : Nat} (hd : dirS t n e 0 = (V, er, f)) (hok : e.ok) (hs : Says t (directE v n e)) : er = 0 ∧ V = v % 2 ^ n := by
  rw [Says.direct v n e 0 hok hs] at hd
  injection hd with h1 h2
  injection h2 with h2 _
  rw [Nat.zero_mul, Nat.zero_add] at h1
  exact ⟨h2.symm, h1.symm⟩
theorem says_bit {t : ByteArray} {e : Enc} {p : Int} {b : Bool} (hok : e.ok) (hs : Says t (bitE p b e)) : errE t e = 0 ∧ decide (dE t e < shareN e.R p) = b :=
  ⟨(hs.ahead (bitE_sub hok p b)).err, Says.bit hok p b (hs.ahead (grow_sub 4 _))⟩
theorem LiveAt.lo {w : World} {g : Nat} {s : ByteArray} {e : Enc} (h : LiveAt w g s e) : e.L + 4 ≤ s.size → e.V ≤ numB s (e.L + 4) := by
  obtain ⟨a, v, _, hI⟩ := h
  exact fun hs => hI.open_ hs
theorem first_zero {e : Enc} (h : e.ok) : bn (bytesE e) 0 = 0 := by
  unfold bytesE
  rw [bn_be _ _ _ (by omega)]
  unfold dg
  have h2 := h.2.2.2
  have h3 := h.2.1
  rw [show e.L + 4 - 1 - 0 = e.L + 3 by omega, Nat.div_eq_of_lt (by omega)]
theorem long_ne (S : ByteArray) : S ++ (⟨#[0]⟩ : ByteArray) ≠ S := fun h => by
  have := congrArg ByteArray.size h
  rw [ByteArray.size_append] at this
  have h1 : (⟨#[0]⟩ : ByteArray).size = 1 := rfl
  omega
theorem short_ne (S : ByteArray) (h : 0 < S.size) : S.extract 0 (S.size - 1) ≠ S := fun he => by
  have := congrArg ByteArray.size he
  rw [ByteArray.size_extract] at this
  omega
theorem ofInt_u8 (a : Nat) (h : a < 256) : (BitVec.ofInt 8 (a : Int)).toNat = a := by
  rw [BitVec.toNat_ofInt]
  omega
theorem u8_xor_nat (a b : Nat) (ha : a < 256) (hb : b < 256) : Go.bits .xor .u8 (a : Int) (b : Int) = ((a ^^^ b : Nat) : Int) := by
  have hx : a ^^^ b < 2 ^ 8 := Nat.xor_lt_two_pow (by omega) (by omega)
  show IntKind.u8.wrap ((BitVec.ofInt 8 (a : Int) ^^^ BitVec.ofInt 8 (b : Int)).toNat : Int) = _
  rw [BitVec.toNat_xor, ofInt_u8 a ha, ofInt_u8 b hb, IntKind.wrap_u8]
  omega
theorem xor_same (a b : Nat) : a ^^^ b = a ↔ b = 0 := by
  constructor
  · intro h
    have h2 : a ^^^ (a ^^^ b) = a ^^^ a := by rw [h]
    rw [← Nat.xor_assoc, Nat.xor_self, Nat.zero_xor] at h2
    exact h2
  · intro h
    rw [h, Nat.xor_zero]
/-- A world with a string's bytes in a new row. -/
theorem bytes_below (w : World) (e : TypeId) (s : ByteArray) : Below w.heap.size w (Lib.bytesWorld w e s) :=
  ⟨rfl, rfl, rfl, by rw [Lib.bytesWorld_size]; omega, fun k hk => Lib.bytesWorld_at_old w e s k hk⟩
theorem strNums (s : ByteArray) : strOfNums (strInts s) = s := strOfNums_ints s
theorem strInts_get (s : ByteArray) (j : Nat) (h : j < s.size) : (strInts s).getD j 0 = (bn s j : Int) := by
  unfold strInts bn lst
  rw [List.getD_eq_getElem?_getD, List.getElem?_map, List.getD_eq_getElem?_getD, List.getElem?_map, List.getElem?_eq_getElem (by rw [Array.length_toList]; exact h)]
  rfl
/-- One byte turned: the same bytes if it is the same one. -/
theorem turn_same (s : ByteArray) (j x : Nat) (h : j < s.size) (hx : x < 256) : strOfNums ((strInts s).set j (x : Int)) = s ↔ x = bn s j := by
  constructor
  · intro he
    have h2 : bn (strOfNums ((strInts s).set j (x : Int))) j = bn s j := by rw [he]
    rw [← h2]
    unfold bn
    rw [lst_nums]
    unfold nat8
    rw [List.getD_eq_getElem?_getD, List.getElem?_map, List.getElem?_set_self (by rw [strInts_length]; exact h)]
    show x = ((x : Int)).toNat % 256
    omega
  · intro he
    have h3 : (strInts s).set j (x : Int) = strInts s := by
      apply List.ext_getElem?
      intro k
      by_cases hk : k = j
      · subst hk
        rw [List.getElem?_set_self (by rw [strInts_length]; exact h)]
        have h4 := strInts_get s k h
        rw [List.getD_eq_getElem?_getD, List.getElem?_eq_getElem (by rw [strInts_length]; exact h), ← he] at h4
        rw [List.getElem?_eq_getElem (by rw [strInts_length]; exact h)]
        exact congrArg some h4.symm
      · rw [List.getElem?_set_ne (by omega)]
    rw [h3, strOfNums_ints]
theorem bytes_free (w : World) (e : TypeId) (s : ByteArray) (j : Nat) (hj : j < s.size) : (Lib.bytesWorld w e s).frozen? ⟨w.heap.size, j, none⟩ = false := by
  have h := Lib.bytesWorld_at_new w e s
  have h2 : s.size ≤ (Lib.bytesCells w e s).size := by
    unfold Lib.bytesCells
    rw [Array.size_append, Array.size_map]
    exact Nat.le_add_right _ _
  unfold World.frozen?
  simp [h]
  omega
theorem bytes_cell (w : World) (e : TypeId) (s : ByteArray) (j : Nat) (hj : j < s.size) : (Lib.bytesWorld w e s).cell? ⟨w.heap.size, j, none⟩ = some (.int .u8 (bn s j : Int)) := by
  rw [Lib.bytesWorld_cell w e s j hj, ← strInts_get s j hj]
  unfold strInts
  rw [List.getD_eq_getElem?_getD, List.getD_eq_getElem?_getD, List.getElem?_map, List.getElem?_eq_getElem (by rw [Array.length_toList]; exact hj)]
  rfl
theorem dirS_small (s : ByteArray) : ∀ (i : Nat) (e : Enc) (v V er : Nat) (f : Enc), dirS s i e v = (V, er, f) → er = 0 ∨ er = 2 ∨ er = 3
  | 0, e, v, V, er, f, h => by
    rw [dirS_zero] at h
    injection h with _ h
    injection h with h _
    exact Or.inl h.symm
  | i + 1, e, v, V, er, f, h => by
    by_cases he : errE s e = 0
    · rw [dirS_ok s i e v he _ rfl] at h
      exact dirS_small s i _ _ V er f h
    · rw [dirS_err s i e v he] at h
      injection h with _ h
      injection h with h _
      rw [← h]
      exact errE_small s e
theorem mask_any (V K : Nat) (hV : V < 18446744073709551616) (hK : K ≤ 63) : Go.bits .and .u64 (V : Int) (IntKind.u64.wrap (IntKind.u64.wrap (2 ^ K) - 1)) = ((V % 2 ^ K : Nat) : Int) := by
  have hp : 2 ^ K ≤ 2 ^ 63 := Nat.pow_le_pow_right (by decide) hK
  have hp0 : 0 < 2 ^ K := Nat.pow_pos (by decide)
  have e0 : (2 : Int) ^ K = ((2 ^ K : Nat) : Int) := by norm_cast
  have e : IntKind.u64.wrap (IntKind.u64.wrap (2 ^ K) - 1) = ((2 ^ K - 1 : Nat) : Int) := by
    rw [e0]
    generalize 2 ^ K = p at *
    rw [IntKind.wrap_u64, IntKind.wrap_u64]
    omega
  rw [e, u64_and_nat _ _ hV (by omega), Nat.and_two_pow_sub_one_eq_mod]
end Go.Proofs.Ytgldblakdhalkaa
