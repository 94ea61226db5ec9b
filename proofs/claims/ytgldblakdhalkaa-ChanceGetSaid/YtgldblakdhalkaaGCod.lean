/- What the reference's coder comes to (New, add): the coder's steps as numbers. Conditions: as each contract states. -/
import Derived.Test.YtgldblakdhalkaaGBytes
namespace Go.Proofs.Ytgldblakdhalkaa
set_option linter.unusedVariables false
open Go.RowKit Go.Proofs.YtgldblakdhalkaaW.PrintWords Go.Proofs.YtgldblakdhalkaaW.PrintLast Go.Proofs.YtgldblakdhalkaaW.PrintMore Go.Proofs.Ytgldblakdhalkaa.PBase
def codCells (v : Value) (size : Int) : Array Value := #[v, .int .u64 size]
/-- The reference's coder in memory. -/
structure CodAt (w : World) (B g : Nat) (e : Enc) (v : Value) : Prop where
  blk : w.heap[g]? = some (.cells (codCells v (e.R : Int)) 89 (0, 0))
  own : w.ownsRow B 5 1 v (e.L + 4) (u8s (beI (e.L + 4) e.V))
  far : v.ownBlock ≠ some g
theorem CodAt.mine {S : Nat → Prop} {w w' : World} {B g : Nat} {e : Enc} {v : Value} (h : CodAt w B g e v) (hm : Mine S w w') (h1 : ¬ S g) (h2 : ∀ k, v.ownBlock = some k → ¬ S k) : CodAt w' B g e v :=
  ⟨blk_mine h.blk hm h1, own_mine h.own hm h2, h.far⟩
theorem CodAt.below {w w' : World} {B g : Nat} {e : Enc} {v : Value} (h : CodAt w B g e v) (hb : Below w.heap.size w w') : CodAt w' B g e v :=
  h.mine (Mine.of_below (fun _ => False) hb) (fun h => h) (fun _ _ h => h)
theorem CodAt.size {w : World} {B g : Nat} {e : Enc} {v : Value} (h : CodAt w B g e v) (R : Nat) : CodAt (w.setCell ⟨g, 1, none⟩ (.int .u64 (R : Int))) B g ⟨e.V, e.L, R⟩ v :=
  ⟨blk_put h.blk 1 _ rfl, own_frame h.own (fun k hk => Below.heap_setCell _ _ _ _ (fun e => h.far (by rw [hk, e]))), h.far⟩
theorem CodAt.ge {w : World} {B g : Nat} {e : Enc} {v : Value} (h : CodAt w B g e v) : ∀ k, v.ownBlock = some k → B ≤ k := fun k hk => (h.own.lt k hk).1
theorem add_first (L : Nat) (h : L ≤ 1000000004) : Value.int .i64 (wrap64 ((L : Int) - 1)) = .int .i64 ((L : Int) - 1 - ((0 : Nat) : Int)) := by
  have : wrap64 ((L : Int) - 1) = (L : Int) - 1 - ((0 : Nat) : Int) := by unfold wrap64; omega
  rw [this]
theorem zeros5 : beI 5 0 = [0, 0, 0, 0, 0] := by decide +kernel
set_option maxHeartbeats 2000000 in
set_option maxRecDepth 100000 in
theorem ref_New.calls (w : World) :
    Calls Try.prog 23 #[] w fun e w' => ∃ g v, e = .returned (.pointer (some ⟨g, 0, none⟩)) ∧ CodAt w' w.heap.size g Enc.new v ∧ w.heap.size ≤ g ∧ Below w.heap.size w w' := by
  have hu2 := Try.underlying89
  go_enter Try.func23, Try.ntmps23
  have hmk : (Instr.makeSlice 33 (.int .i64 5) (.int .i64 5)).run Try.prog w = .ok (.slice (some ⟨w.heap.size, 0, none⟩) 5 5) (w.alloc (.cells #[.int .u8 0, .int .u8 0, .int .u8 0, .int .u8 0, .int .u8 0] 5)) := by
    have h := run_make_row (P := Try.prog) 33 5 Try.t5 (.int .u8 0) Try.underlying33 hi5 rfl rfl rfl .i64 .i64 5 (by decide) (by decide) w
    rw [show madeCells #[Value.int .u8 0] 5 = #[.int .u8 0, .int .u8 0, .int .u8 0, .int .u8 0, .int .u8 0] from by kernel_rfl] at h
    exact h
  go_wp2
  go_ret
  refine ⟨w.heap.size + 1, .slice (some ⟨w.heap.size, 0, none⟩) 5 5, rfl, ⟨heap_alloc2_new _ _ _, ⟨rfl, .inr ⟨w.heap.size, 5, _, rfl, Nat.le_refl _, blk_alloc (blk_new _ _) _, Nat.le_refl _, by decide, rfl, ?_⟩⟩, ?_⟩, Nat.le_succ _, by repeat (first | exact Below.refl _ _ | apply below_alloc)⟩
  · show _ = u8s (beI 5 0)
    rw [zeros5]
    rfl
  · unfold Value.ownBlock
    simp
attribute [local go_sem ↓] Go.wp_at_zero Go.wp_at_succ
set_option maxHeartbeats 4000000 in
set_option maxRecDepth 100000 in
theorem ref_add.calls (e : Enc) (v : Value) (B g n : Nat) (w : World) (hS : Aside0 (CodAt w B g e v)) (hL : Aside0 (1 ≤ e.L ∧ e.L ≤ 1000000000)) (hn : Aside0 (n < 4294967296)) (hV : Aside0 (e.V + n < 256 ^ (e.L + 3))) :
    Calls Try.prog 50 #[.pointer (some ⟨g, 0, none⟩), .int .u64 (n : Int)] w fun r w' => r = .returned (.tuple #[]) ∧ CodAt w' B g ⟨e.V + n, e.L, e.R⟩ v ∧ Mine (fun k => k = g ∨ v.ownBlock = some k) w w' := by
  have hu2 := Try.underlying89
  obtain ⟨b, C, rfl, hbB⟩ := own_form hS.out.own (by omega)
  have hbg : b ≠ g := fun h => hS.out.far (by rw [h]; rfl)
  obtain ⟨L, hL4⟩ : ∃ L, e.L + 4 = L := ⟨_, rfl⟩
  have BA := Aside0.mk hS.out.blk
  have HO := Aside0.mk hS.out.own
  have hfar := Aside0.mk hS.out.far
  have hD1 : Aside0 (e.V + n < 256 ^ L) := ⟨Nat.lt_of_lt_of_le hV.out (Nat.pow_le_pow_right (by decide) (by omega))⟩
  rw [hL4] at BA HO hfar
  have hLs : Aside0 (5 ≤ L ∧ L ≤ 1000000004) := ⟨by have := hL.out; omega⟩
  have hc0 : w.cell? ⟨g, 0, none⟩ = some (.slice (some ⟨b, 0, none⟩) L C) := blk_cell BA.out 0
  have HM : Aside0 (Mine (fun k => k = g ∨ (Value.slice (some ⟨b, 0, none⟩) (e.L + 4) C).ownBlock = some k) w w) := ⟨Mine.refl _ _⟩
  rw [← parI_zero L e.V (e.V + n)] at HO
  go_enter Try.func50, Try.ntmps50
  go_wp2_with fail
  go_loopg [1, 4] (L + 1) (fun kq v1 v4 w' => ∃ m : Nat, v1 = .int .u64 ((cy e.V n m : Nat) : Int) ∧ v4 = .int .i64 ((L : Int) - 1 - (m : Int)) ∧ Aside0 (m ≤ L) ∧ Aside0 (kq = L - m + 1) ∧ Aside0 (w'.heap[g]? = some (.cells (codCells (.slice (some ⟨b, 0, none⟩) L C) (e.R : Int)) 89 (0, 0))) ∧ Aside0 (w'.ownsRow B 5 1 (.slice (some ⟨b, 0, none⟩) L C) L (u8s (parI L e.V (e.V + n) m))) ∧ Aside0 (Mine (fun k => k = g ∨ (Value.slice (some ⟨b, 0, none⟩) (e.L + 4) C).ownBlock = some k) w w'))
  case atStart => exact ⟨0, by rw [cy_zero], by rw [add_first L (by have := hLs.out; omega)], ⟨Nat.zero_le _⟩, ⟨rfl⟩, BA, HO, HM⟩
  case round =>
    clear BA HO HM hc0
    obtain ⟨m, rfl, rfl, hm, hk, BA, HO, HM⟩ := hrel
    cases gk with
    | zero => exact absurd hk.out (by omega)
    | succ k1 =>
      have hml := hm.out
      have hLs2 := hLs.out
      by_cases hstop : m < L ∧ 0 < cy e.V n m
      · obtain ⟨hmL, hcy0⟩ := hstop
        have hget : (parI L e.V (e.V + n) m)[L - 1 - m]? = some ((dg e.V m : Nat) : Int) := by rw [parI_get _ _ _ _ _ (by omega), show L - 1 - (L - 1 - m) = m by omega, if_neg (by omega)]
        obtain ⟨hcell, hfz⟩ := own_cell HO.out (L - 1 - m) _ hget
        have hdl := dg_lt e.V m
        have hds := Aside0.mk (dg_sum e.V n m)
        have hcs := Aside0.mk (cy_succ e.V n m)
        have hps := Aside0.mk (parI_set L e.V (e.V + n) m hmL)
        have hcl := cy_lt e.V n m hn.out
        have hput := Aside0.mk (own_put HO.out (L - 1 - m) ((dg (e.V + n) m : Nat) : Int) (by omega))
        have hc0 : wr.cell? ⟨g, 0, none⟩ = some (.slice (some ⟨b, 0, none⟩) L C) := blk_cell BA.out 0
        obtain ⟨j, hj⟩ : ∃ j, L - 1 - m = j := ⟨_, rfl⟩
        rw [hj] at hcell hfz hput hps
        have e1 : (L : Int) - 1 - (m : Int) = (j : Int) := by omega
        have e2 : (L : Int) - 1 - ((m + 1 : Nat) : Int) = (j : Int) - 1 := by omega
        rw [e1]
        obtain ⟨d, hd⟩ : ∃ d, dg e.V m = d := ⟨_, rfl⟩
        obtain ⟨c, hc⟩ : ∃ c, cy e.V n m = c := ⟨_, rfl⟩
        rw [hd] at hcell hdl hds hcs
        rw [hc] at hds hcs hcl hcy0 ⊢
        obtain ⟨x, hx⟩ : ∃ x, c + d = x := ⟨_, rfl⟩
        rw [hx] at hds hcs
        have hj1 := eq_true (show (j : Int) < (L : Int) by omega)
        have hj0 := eq_true (show (0 : Int) ≤ (j : Int) by omega)
        have hg0 : decide ((c : Int) > 0) = true := decide_eq_true (by omega)
        have hg1 : decide (0 < (c : Int)) = true := decide_eq_true (by omega)
        have hwd : IntKind.u64.wrap (d : Int) = (d : Int) := wrap_u64 _ (by omega) (by omega)
        have hwx : IntKind.u64.wrap ((c : Int) + (d : Int)) = (x : Int) := by rw [IntKind.wrap_u64]; omega
        have hw8 : IntKind.u8.wrap (x : Int) = ((dg (e.V + n) m : Nat) : Int) := by rw [hds.out, IntKind.wrap_u8]; omega
        go_wp2_with fail
        have HO2 := hput.out
        rw [hps.out] at HO2
        have hHO := Aside0.mk HO2
        have hHM := Aside0.mk (Mine.set (g := b) (i := j) HM.out (Or.inl (Or.inr rfl)) (.int .u8 ((dg (e.V + n) m : Nat) : Int)))
        have hBA := Aside0.mk (blk_far BA.out (p := ⟨b, j, none⟩) (Ne.symm hbg) (.int .u8 ((dg (e.V + n) m : Nat) : Int)))
        go_roundg k1
        case measure => omega
        case rel =>
          refine ⟨m + 1, ?_, ?_, ⟨hmL⟩, ⟨by have := hk.out; omega⟩, hBA, hHO, hHM⟩
          · rw [hcs.out]; norm_cast
          · rw [e2]
      · have hlast : parI L e.V (e.V + n) m = beI L (e.V + n) := parI_stop L e.V (e.V + n) m (fun j hj hjL => by
          by_cases h : m < L
          · exact cy_none e.V n m j (by omega) hj
          · omega)
        have HO2 := HO.out
        rw [hlast] at HO2
        have hdone : CodAt wr B g ⟨e.V + n, e.L, e.R⟩ (.slice (some ⟨b, 0, none⟩) (e.L + 4) C) := ⟨by rw [hL4]; exact BA.out, by simp only [hL4]; exact HO2, by rw [hL4]; exact hfar.out⟩
        have hdm := HM.out
        by_cases hmL : m < L
        · have hz : cy e.V n m = 0 := by omega
          rw [hz]
          obtain ⟨j, hj⟩ : ∃ j, L - 1 - m = j := ⟨_, rfl⟩
          have e1 : (L : Int) - 1 - (m : Int) = (j : Int) := by omega
          rw [e1]
          go_wp2_with fail
          refine bodyPost_end (results_none rfl _ _ _) rfl ?_
          exact ⟨rfl, hdone, hdm⟩
        · have e1 : (L : Int) - 1 - (m : Int) = -1 := by omega
          rw [e1]
          go_wp2_with fail
          refine bodyPost_end (results_none rfl _ _ _) rfl ?_
          exact ⟨rfl, hdone, hdm⟩
end Go.Proofs.Ytgldblakdhalkaa
