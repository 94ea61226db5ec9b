/- What the decoder's inner functions come to. Conditions: as each contract states. -/
import Derived.Test.YtgldblakdhalkaaDnum
import Derived.Test.YtgldblakdhalkaaGRbit
namespace Go.Proofs.Ytgldblakdhalkaa
set_option linter.unusedVariables false
open Go.RowKit Go.Proofs.YtgldblakdhalkaaW.PrintWords Go.Proofs.YtgldblakdhalkaaW.PrintLast Go.Proofs.YtgldblakdhalkaaW.PrintMore Go.Proofs.Ytgldblakdhalkaa.PBase
def decCells (s : ByteArray) (a need v size : Int) (dead : Bool) : Array Value := #[.string s, .int .i64 a, .int .i64 need, .int .u64 v, .int .u64 size, .bool dead]
/-- A decoder in memory that tells bits. -/
def DecAt (w : World) (g : Nat) (s : ByteArray) (e : Enc) (a v : Nat) : Prop := w.heap[g]? = some (.cells (decCells s (a : Int) ((e.L + 4 : Nat) : Int) (v : Int) (e.R : Int) false) 95 (0, 0))
/-- One that says nothing any more. -/
def DeadAt (w : World) (g : Nat) (s : ByteArray) : Prop := ∃ a need v size : Int, w.heap[g]? = some (.cells (decCells s a need v size true) 95 (0, 0))
set_option maxHeartbeats 2000000 in
set_option maxRecDepth 100000 in
theorem chance_From.calls (s : ByteArray) (w : World) :
    Calls Try.prog 30 #[.string s] w fun e w' => e = .returned (.pointer (some ⟨w.heap.size, 0, none⟩)) ∧ DecAt w' w.heap.size s Enc.new 0 0 ∧ Below w.heap.size w w' := by
  have hu2 := Try.underlying95
  go_enter Try.func30, Try.ntmps30
  go_wp2
  go_ret
  exact ⟨rfl, heap_alloc_new _ _, (Below.refl _ _).alloc (Nat.le_refl _) _⟩
attribute [local go_sem ↓] Go.wp_at_zero Go.wp_at_succ
set_option maxHeartbeats 4000000 in
set_option maxRecDepth 100000 in
theorem dec_grow.calls (s : ByteArray) (e : Enc) (a v g : Nat) (w : World) (hS : Aside0 (DecAt w g s e a v)) (hp : Aside0 e.pre) (hL : Aside0 (e.L ≤ 1000000000)) :
    Calls Try.prog 56 #[.pointer (some ⟨g, 0, none⟩)] w fun r w' => r = .returned (.tuple #[]) ∧ DecAt w' g s (growE 4 e) a v ∧ Mine (· = g) w w' := by
  have hu2 := Try.underlying95
  have hR4 : Aside0 (16777216 ≤ e.R * 256 ^ 4) := ⟨by rw [p4]; have := hp.out.2.1; omega⟩
  go_enter Try.func56, Try.ntmps56
  go_wp2_with fail
  go_loopg [] 5 (fun kq w' => ∃ (k : Nat) (f : Enc), Aside0 (kq = k + 1) ∧ Aside0 (growE k f = growE 4 e) ∧ Aside0 (f.L + k ≤ e.L + 4) ∧ Aside0 (16777216 ≤ f.R * 256 ^ k) ∧ Aside0 (DecAt w' g s f a v) ∧ Aside0 (Mine (· = g) w w'))
  case atStart => exact ⟨4, e, ⟨rfl⟩, ⟨rfl⟩, ⟨by omega⟩, hR4, hS, ⟨Mine.refl _ _⟩⟩
  case round =>
    obtain ⟨k, f, hk, hgr, hLf, hRk, hSf, HM⟩ := hrel
    cases gk with
    | zero => exact absurd hk.out (by omega)
    | succ k1 =>
      have BA := Aside0.mk hSf.out
      unfold DecAt at BA
      have hc4 : wr.cell? ⟨g, 4, none⟩ = some (.int .u64 (f.R : Int)) := blk_cell BA.out 4
      have hf4 := blk_frozen BA.out 4
      have hc2 : wr.cell? ⟨g, 2, none⟩ = some (.int .i64 ((f.L + 4 : Nat) : Int)) := blk_cell BA.out 2
      have hf2 := blk_frozen BA.out 2
      obtain ⟨n, hn⟩ : ∃ n, f.L + 4 = n := ⟨_, rfl⟩
      rw [hn] at hc2 BA
      obtain ⟨R, hR⟩ : ∃ R, f.R = R := ⟨_, rfl⟩
      rw [hR] at hc4 BA
      by_cases hc : R < 16777216
      · have hcb : decide ((R : Int) < 16777216) = true := decide_eq_true (by omega)
        have hnb : (n : Int) ≤ 1000000008 := by have := hLf.out; have := hL.out; omega
        obtain ⟨R2, hR2⟩ : ∃ R2 : Nat, R * 256 = R2 := ⟨_, rfl⟩
        have hw2 : IntKind.u64.wrap ((R : Int) * 256) = (R2 : Int) := by rw [IntKind.wrap_u64]; omega
        go_wp2_with fail
        have BA2 := Aside0.mk (blk_put (cs' := decCells s (a : Int) ((n : Int) + 1) (v : Int) (R2 : Int) false) (blk_put (cs' := decCells s (a : Int) (n : Int) (v : Int) (R2 : Int) false) BA.out 4 (.int .u64 (R2 : Int)) rfl) 2 (.int .i64 ((n : Int) + 1)) rfl)
        have HM2 := Aside0.mk (Mine.set (i := 2) (Mine.set (i := 4) HM.out (Or.inl rfl) (.int .u64 (R2 : Int))) (Or.inl rfl) (.int .i64 ((n : Int) + 1)))
        go_roundg k1
        case measure => omega
        case rel =>
          cases k with
          | zero => exact absurd hRk.out (by rw [Nat.pow_zero, hR]; omega)
          | succ k =>
            refine ⟨k, f.up, ⟨by have := hk.out; omega⟩, ⟨?_⟩, ⟨?_⟩, ⟨?_⟩, ⟨?_⟩, HM2⟩
            · have h := hgr.out
              unfold growE at h
              rw [if_pos (by rw [hR]; exact hc)] at h
              exact h
            · have := hLf.out; unfold Enc.up; simp only; omega
            · have h := hRk.out
              unfold Enc.up
              simp only
              rw [Nat.mul_assoc, Nat.mul_comm 256, ← Nat.pow_succ]
              exact h
            · unfold DecAt
              have e3 : f.up.R = R2 := by unfold Enc.up; simp only; rw [hR]; exact hR2
              have e4 : ((f.up.L + 4 : Nat) : Int) = (n : Int) + 1 := by show ((f.L + 1 + 4 : Nat) : Int) = _; omega
              rw [e3, e4]
              exact BA2.out
      · have hcb : decide ((R : Int) < 16777216) = false := decide_eq_false (by omega)
        go_wp2_with fail
        refine bodyPost_end (results_none rfl _ _ _) rfl ?_
        have hgf : growE k f = f := by cases k with
          | zero => rfl
          | succ k => unfold growE; rw [if_neg (by omega)]
        rw [← hgr.out, hgf]
        exact ⟨rfl, hSf.out, HM.out⟩
set_option maxHeartbeats 4000000 in
set_option maxRecDepth 100000 in
theorem dec_part.calls (s : ByteArray) (e : Enc) (a v g n : Nat) (w : World) (hS : Aside0 (DecAt w g s e a v)) (hv : v < 18446744073709551616) (hn : n < 18446744073709551616) :
    Calls Try.prog 55 #[.pointer (some ⟨g, 0, none⟩), .int .u64 (n : Int)] w fun r w' => r = .returned (.bool (decide (n ≤ v))) ∧ DecAt w' g s e a (if n ≤ v then v - n else v) ∧ Mine (· = g) w w' := by
  have hu2 := Try.underlying95
  have BA := Aside0.mk hS.out
  unfold DecAt at BA
  have hc3 : w.cell? ⟨g, 3, none⟩ = some (.int .u64 (v : Int)) := blk_cell BA.out 3
  have hf3 := blk_frozen BA.out 3
  by_cases h : n ≤ v
  · have hb : decide ((v : Int) < (n : Int)) = false := decide_eq_false (by omega)
    have hw : IntKind.u64.wrap ((v : Int) - (n : Int)) = ((v - n : Nat) : Int) := by rw [IntKind.wrap_u64]; omega
    obtain ⟨q, hq⟩ : ∃ q, v - n = q := ⟨_, rfl⟩
    rw [hq] at hw
    rw [if_pos h, decide_eq_true h, hq]
    go_enter Try.func55, Try.ntmps55
    go_wp2
    go_ret
    exact ⟨rfl, blk_put (cs' := decCells s (a : Int) ((e.L + 4 : Nat) : Int) (q : Int) (e.R : Int) false) BA.out 3 (.int .u64 (q : Int)) rfl, Mine.set (S := (· = g)) (i := 3) (Mine.refl _ _) (Or.inl rfl) _⟩
  · have hb : decide ((v : Int) < (n : Int)) = true := decide_eq_true (by omega)
    rw [if_neg h, decide_eq_false h]
    go_enter Try.func55, Try.ntmps55
    go_wp2
    go_ret
    exact ⟨rfl, hS.out, Mine.refl _ _⟩
end Go.Proofs.Ytgldblakdhalkaa
