/- What the encoder's functions come to: the coder's steps as numbers; of the memory that was there the encoder's own alone turns. Conditions: as each contract states. -/
import Derived.Test.YtgldblakdhalkaaOwn
import Derived.Test.YtgldblakdhalkaaBytes
import Derived.Test.YtgldblakdhalkaaCmod
import Derived.Test.YtgldblakdhalkaaPBasex0
import Derived.Deep.DrawnRows
import Derived.WalkLawsBesides
import Derived.LoopN
import Derived.KernelRfl
namespace Go.Proofs.Ytgldblakdhalkaa
set_option linter.unusedVariables false
open Go.RowKit Go.Proofs.YtgldblakdhalkaaW.PrintWords Go.Proofs.YtgldblakdhalkaaW.PrintLast Go.Proofs.YtgldblakdhalkaaW.PrintMore
def encCells (v : Value) (low size : Int) : Array Value := #[v, .int .u64 low, .int .u64 size]
def u8s (l : List Int) : List Value := l.map (Value.int .u8)
/-- An encoder in memory. -/
structure EncAt (w : World) (B g : Nat) (e : Enc) (v : Value) : Prop where
  blk : w.heap[g]? = some (.cells (encCells v ((e.V % 4294967296 : Nat) : Int) (e.R : Int)) 87 (0, 0))
  own : w.ownsRow B 5 1 v e.L (u8s (beI e.L (e.V / 4294967296)))
  far : v.ownBlock ≠ some g
theorem EncAt.of {w : World} {B g : Nat} {e : Enc} {v : Value} (lo D : Nat) (h1 : e.V % 4294967296 = lo) (h2 : e.V / 4294967296 = D) (hb : w.heap[g]? = some (.cells (encCells v (lo : Int) (e.R : Int)) 87 (0, 0)))
    (ho : w.ownsRow B 5 1 v e.L (u8s (beI e.L D))) (hf : v.ownBlock ≠ some g) : EncAt w B g e v := by
  subst h1 h2
  exact ⟨hb, ho, hf⟩
theorem EncAt.mine {S : Nat → Prop} {w w' : World} {B g : Nat} {e : Enc} {v : Value} (h : EncAt w B g e v) (hm : Mine S w w') (h1 : ¬ S g) (h2 : ∀ k, v.ownBlock = some k → ¬ S k) : EncAt w' B g e v :=
  ⟨blk_mine h.blk hm h1, own_mine h.own hm h2, h.far⟩
theorem EncAt.below {w w' : World} {B g : Nat} {e : Enc} {v : Value} (h : EncAt w B g e v) (hb : Below w.heap.size w w') : EncAt w' B g e v :=
  h.mine (Mine.of_below (fun _ => False) hb) (fun h => h) (fun _ _ h => h)
theorem own_form {w : World} {B e n : Nat} {v : Value} {xs : List Value} (h : w.ownsRow B e 1 v n xs) (hn : 0 < n) : ∃ b C, v = .slice (some ⟨b, 0, none⟩) n C ∧ B ≤ b := by
  rcases h.2 with ⟨rfl, rfl⟩ | ⟨g, cap, cur, rfl, hb, _⟩
  · omega
  · exact ⟨_, _, rfl, hb⟩
theorem own_cell {w : World} {B n b C : Nat} {l : List Int} (h : w.ownsRow B 5 1 (.slice (some ⟨b, 0, none⟩) n C) n (u8s l)) (i : Nat) (x : Int) (hx : l[i]? = some x) : w.cell? ⟨b, i, none⟩ = some (.int .u8 x) ∧ w.frozen? ⟨b, i, none⟩ = false := by
  rcases h.2 with ⟨h0, _⟩ | ⟨g', cap', cur, hv, hb, hg, hn, hc, hs2, ht⟩
  · cases h0
  · injection hv with e1 e2 e3
    injection e1 with e1
    injection e1 with e1 _ _
    subst e1 e3
    have hl : l.length = n := by have := h.1; unfold u8s at this; rw [List.length_map] at this; omega
    have hi : i < n := by rw [← hl]; exact (List.getElem?_eq_some_iff.1 hx).1
    refine ⟨?_, blk_frozen hg i⟩
    rw [blk_cell hg i]
    have h2 : (cur.toList.take (n * 1))[i]? = (u8s l)[i]? := by rw [ht]
    rw [List.getElem?_take, if_pos (by omega), Array.getElem?_toList] at h2
    rw [h2]
    unfold u8s
    rw [List.getElem?_map, hx]
    rfl
theorem own_put {w : World} {B n b C : Nat} {l : List Int} (h : w.ownsRow B 5 1 (.slice (some ⟨b, 0, none⟩) n C) n (u8s l)) (i : Nat) (x : Int) (hi : i < n) : (w.setCell ⟨b, i, none⟩ (.int .u8 x)).ownsRow B 5 1 (.slice (some ⟨b, 0, none⟩) n C) n (u8s (l.set i x)) := by
  refine ⟨?_, ?_⟩
  · have := h.1; unfold u8s at *; rw [List.length_map] at *; rw [List.length_set]; exact this
  rcases h.2 with ⟨h0, _⟩ | ⟨g', cap', cur, hv, hb, hg, hn, hc, hs2, ht⟩
  · cases h0
  · injection hv with e1 e2 e3
    injection e1 with e1
    injection e1 with e1 _ _
    subst e1 e3
    refine .inr ⟨b, C, _, rfl, hb, blk_set hg i _, hn, hc, by rw [Array.size_setIfInBounds]; exact hs2, ?_⟩
    rw [Array.toList_setIfInBounds, List.take_set, ht]
    unfold u8s
    rw [List.map_set]
set_option maxHeartbeats 2000000 in
set_option maxRecDepth 100000 in
theorem chance_New.calls (w : World) :
    Calls Try.prog 21 #[] w fun e w' => ∃ g v, e = .returned (.pointer (some ⟨g, 0, none⟩)) ∧ EncAt w' w.heap.size g Enc.new v ∧ w.heap.size ≤ g ∧ Below w.heap.size w w' := by
  have hu2 := Try.underlying87
  go_enter Try.func21, Try.ntmps21
  go_wp2
  go_ret
  refine ⟨w.heap.size + 1, .slice (some ⟨w.heap.size, 0, none⟩) 1 1, rfl, ⟨heap_alloc2_new _ _ _, ⟨rfl, .inr ⟨w.heap.size, 1, _, rfl, Nat.le_refl _, blk_alloc (blk_new _ _) _, Nat.le_refl _, by decide, rfl, rfl⟩⟩, ?_⟩, Nat.le_succ _, by repeat (first | exact Below.refl _ _ | apply below_alloc)⟩
  unfold Value.ownBlock
  simp
theorem p4 : (256 : Nat) ^ 4 = 4294967296 := by decide
theorem and32 (x : Nat) (h : x < 18446744073709551616) : Go.bits .and .u64 (x : Int) 4294967295 = ((x % 4294967296 : Nat) : Int) := by
  rw [show (4294967295 : Int) = ((4294967295 : Nat) : Int) from rfl, u64_and_nat _ _ h (by omega)]
  congr 1
  exact Nat.and_two_pow_sub_one_eq_mod x 32
attribute [local go_sem ↓] Go.wp_at_zero Go.wp_at_succ
set_option maxHeartbeats 4000000 in
set_option maxRecDepth 100000 in
theorem enc_more.calls (e : Enc) (v : Value) (B g n : Nat) (w : World) (hS : Aside0 (EncAt w B g e v)) (hL : Aside0 (1 ≤ e.L ∧ e.L ≤ 1000000000)) (hn : Aside0 (n < 4294967296)) (hV : Aside0 (e.V + n < 256 ^ (e.L + 3))) :
    Calls Try.prog 48 #[.pointer (some ⟨g, 0, none⟩), .int .u64 (n : Int)] w fun r w' => r = .returned (.tuple #[]) ∧ EncAt w' B g ⟨e.V + n, e.L, e.R⟩ v ∧ Mine (fun k => k = g ∨ v.ownBlock = some k) w w' := by
  have hu2 := Try.underlying87
  have BA := Aside0.mk hS.out.blk
  obtain ⟨b, C, rfl, hbB⟩ := own_form hS.out.own hL.out.1
  have hbg : b ≠ g := fun h => hS.out.far (by rw [h]; rfl)
  have HO := Aside0.mk hS.out.own
  have hlo : Aside0 (e.V % 4294967296 < 4294967296) := ⟨Nat.mod_lt _ (by decide)⟩
  generalize hlov : e.V % 4294967296 = lo at BA hlo
  obtain ⟨t, ht⟩ : ∃ t : Nat, lo + n = t := ⟨_, rfl⟩
  have hwr : IntKind.u64.wrap ((lo : Int) + (n : Int)) = (t : Int) := by
    have h1 := hlo.out
    have h2 := hn.out
    rw [IntKind.wrap_u64]
    omega
  have hc1 : w.cell? ⟨g, 1, none⟩ = some (.int .u64 (lo : Int)) := blk_cell BA.out 1
  have hc0 : w.cell? ⟨g, 0, none⟩ = some (.slice (some ⟨b, 0, none⟩) e.L C) := blk_cell BA.out 0
  have hf1 := blk_frozen BA.out 1
  have HM : Aside0 (Mine (fun k => k = g ∨ (Value.slice (some ⟨b, 0, none⟩) e.L C).ownBlock = some k) w w) := ⟨Mine.refl _ _⟩
  by_cases hc : t ≤ 4294967295
  · have hc2 : decide ((t : Int) ≤ 4294967295) = true := decide_eq_true (by omega)
    have BA1 := Aside0.mk (blk_put (cs' := encCells (.slice (some ⟨b, 0, none⟩) e.L C) (t : Int) (e.R : Int)) BA.out 1 (.int .u64 (t : Int)) rfl)
    have HM1 := Aside0.mk (Mine.set (i := 1) HM.out (Or.inl (Or.inl rfl)) (.int .u64 (t : Int)))
    have HO1 : Aside0 ((w.setCell ⟨g, 1, none⟩ (.int .u64 (t : Int))).ownsRow B 5 1 (.slice (some ⟨b, 0, none⟩) e.L C) e.L (u8s (beI e.L (e.V / 4294967296)))) := ⟨own_frame HO.out (fun k hk => Below.heap_setCell _ _ _ _ (fun h => hS.out.far (by rw [hk, h])))⟩
    go_enter Try.func48, Try.ntmps48
    go_wp2
    refine bodyPost_ret (results_none rfl _ _ _) rfl ?_
    have e1 : (e.V + n) % 4294967296 = t := by omega
    have e2 : (e.V + n) / 4294967296 = e.V / 4294967296 := by omega
    exact ⟨rfl, EncAt.of (e := ⟨e.V + n, e.L, e.R⟩) t (e.V / 4294967296) e1 e2 BA1.out HO1.out hS.out.far, HM1.out⟩
  · have hc2 : decide ((t : Int) ≤ 4294967295) = false := decide_eq_false (by omega)
    have hn2 := hn.out
    have hlo2 := hlo.out
    have hand : Go.bits .and .u64 (t : Int) 4294967295 = ((t - 4294967296 : Nat) : Int) := by rw [and32 _ (by omega)]; omega
    obtain ⟨t2, ht2⟩ : ∃ t2, t - 4294967296 = t2 := ⟨_, rfl⟩
    rw [ht2] at hand
    clear hn2 hlo2
    have BA1 := Aside0.mk (blk_put (cs' := encCells (.slice (some ⟨b, 0, none⟩) e.L C) (t2 : Int) (e.R : Int)) (blk_put (cs' := encCells (.slice (some ⟨b, 0, none⟩) e.L C) (t : Int) (e.R : Int)) BA.out 1 (.int .u64 (t : Int)) rfl) 1 (.int .u64 (t2 : Int)) rfl)
    have HM1 := Aside0.mk (Mine.set (i := 1) (Mine.set (i := 1) HM.out (Or.inl (Or.inl rfl)) (.int .u64 (t : Int))) (Or.inl (Or.inl rfl)) (.int .u64 (t2 : Int)))
    have HO1 : Aside0 (((w.setCell ⟨g, 1, none⟩ (.int .u64 (t : Int))).setCell ⟨g, 1, none⟩ (.int .u64 (t2 : Int))).ownsRow B 5 1 (.slice (some ⟨b, 0, none⟩) e.L C) e.L (u8s (beI e.L (e.V / 4294967296)))) := ⟨own_frame (own_frame HO.out (fun k hk => Below.heap_setCell _ _ _ _ (fun h => hS.out.far (by rw [hk, h])))) (fun k hk => Below.heap_setCell _ _ _ _ (fun h => hS.out.far (by rw [hk, h])))⟩
    go_enter Try.func48, Try.ntmps48
    go_wp2_with fail
    generalize (w.setCell ⟨g, 1, none⟩ (.int .u64 (t : Int))).setCell ⟨g, 1, none⟩ (.int .u64 (t2 : Int)) = W at *
    obtain ⟨L, hLL⟩ : ∃ L, e.L = L := ⟨_, rfl⟩
    obtain ⟨D, hD⟩ : ∃ D, e.V / 4294967296 = D := ⟨_, rfl⟩
    have hDt : Aside0 ((e.V + n) / 4294967296 = D + 1 ∧ (e.V + n) % 4294967296 = t2) := ⟨by have := hn.out; have := hlo.out; omega⟩
    have hD1 : Aside0 (D + 1 < 256 ^ L) := ⟨by
      have h := hV.out
      rw [hLL, show L + 3 = (L - 1) + 4 by have := hL.out; omega, Nat.pow_add, p4] at h
      have h2 : 256 ^ (L - 1) * 256 = 256 ^ L := by rw [← Nat.pow_succ, Nat.succ_eq_add_one, Nat.sub_add_cancel (hLL ▸ hL.out.1)]
      have h3 : 1 ≤ 256 ^ (L - 1) := Nat.one_le_pow _ _ (by decide)
      have h4 := hDt.out.1
      omega⟩
    rw [hLL] at BA1 HM1 HO1 hL hc0 ⊢
    rw [hD] at HO1
    have hlw : wrap64 ((L : Int) - 1) = ((L - 1 : Nat) : Int) := by have := hL.out; unfold wrap64; omega
    rw [hlw]
    have hfar : Aside0 ((Value.slice (some ⟨b, 0, none⟩) L C).ownBlock ≠ some g) := ⟨by have := hS.out.far; rw [hLL] at this; exact this⟩
    clear hlw hc0 hc1 hf1 BA HO HM hwr hand hc2
    rw [← parI_zero L D (D + 1)] at HO1
    go_loopg [4] L (fun kq v4 w' => ∃ m : Nat, v4 = .int .i64 ((L - 1 - m : Nat) : Int) ∧ Aside0 (m < L) ∧ Aside0 (kq = L - m) ∧ Aside0 (cy D 1 m = 1) ∧ Aside0 (w'.heap[g]? = some (.cells (encCells (.slice (some ⟨b, 0, none⟩) L C) (t2 : Int) (e.R : Int)) 87 (0, 0))) ∧ Aside0 (w'.ownsRow B 5 1 (.slice (some ⟨b, 0, none⟩) L C) L (u8s (parI L D (D + 1) m))) ∧ Aside0 (Mine (fun k => k = g ∨ (Value.slice (some ⟨b, 0, none⟩) L C).ownBlock = some k) w w'))
    case atStart => exact ⟨0, rfl, ⟨by have := hL.out; omega⟩, ⟨rfl⟩, ⟨cy_zero _ _⟩, BA1, HO1, HM1⟩
    case round =>
      clear BA1 HO1 HM1
      obtain ⟨m, rfl, hm, hk, hcy, BA, HO, HM⟩ := hrel
      cases gk with
      | zero => exact absurd hk.out (by have := hm.out; omega)
      | succ k1 =>
        have hml := hm.out
        have hget : (parI L D (D + 1) m)[L - 1 - m]? = some ((dg D m : Nat) : Int) := by rw [parI_get _ _ _ _ _ (by omega), show L - 1 - (L - 1 - m) = m by omega, if_neg (by omega)]
        obtain ⟨hcell, hfz⟩ := own_cell HO.out (L - 1 - m) _ hget
        have hdl := Aside0.mk (dg_lt D m)
        have hds := Aside0.mk (dg_sum D 1 m)
        have hcs := Aside0.mk (cy_succ D 1 m)
        have hps := Aside0.mk (parI_set L D (D + 1) m hml)
        have hput := Aside0.mk (own_put HO.out (L - 1 - m) ((dg (D + 1) m : Nat) : Int) (by omega))
        have hc0 : wr.cell? ⟨g, 0, none⟩ = some (.slice (some ⟨b, 0, none⟩) L C) := blk_cell BA.out 0
        obtain ⟨j, hj⟩ : ∃ j, L - 1 - m = j := ⟨_, rfl⟩
        rw [hj] at hcell hfz hput hps ⊢
        have hj1 := eq_true (show (j : Int) < (L : Int) by omega)
        have hj0 := eq_true (show (0 : Int) ≤ (j : Int) by omega)
        obtain ⟨d, hd⟩ : ∃ d, dg D m = d := ⟨_, rfl⟩
        rw [hd] at hcell hget hdl hds hcs
        by_cases h255 : d = 255
        · subst h255
          go_wp2_with fail
          have hm1 : m + 1 < L := by
            rcases Nat.lt_or_ge (m + 1) L with h | h
            · exact h
            · exfalso
              have h2 := cy_top D 1 L hD1.out
              rw [show L = m + 1 by omega, hcs.out, hcy.out] at h2
              exact absurd h2 (by decide)
          have hjj : wrap64 ((j : Int) - 1) = ((j - 1 : Nat) : Int) := by have := hL.out; unfold wrap64; omega
          have hz : dg (D + 1) m = 0 := by rw [hds.out, hcy.out]
          rw [hz] at hput hps
          have HO2 := hput.out
          rw [hps.out] at HO2
          have hHO := Aside0.mk HO2
          have hHM := Aside0.mk (Mine.set (g := b) (i := j) HM.out (Or.inl (Or.inr rfl)) (.int .u8 (0 : Int)))
          have hBA := Aside0.mk (blk_far BA.out (p := ⟨b, j, none⟩) (Ne.symm hbg) (.int .u8 (0 : Int)))
          go_roundg k1
          case measure => omega
          case rel => exact ⟨m + 1, by rw [hjj, show L - 1 - (m + 1) = j - 1 by omega], ⟨hm1⟩, ⟨by have := hk.out; omega⟩, ⟨by rw [hcs.out, hcy.out]⟩, hBA, hHO, hHM⟩
        · have hb1 : ((d : Int) == 255) = false := beq_eq_false_iff_ne.2 (by omega)
          go_wp2_with fail
          have hz : dg (D + 1) m = d + 1 := by rw [hds.out, hcy.out]; have := hdl.out; omega
          have hmod : ((d : Int) + 1) % 256 = ((d + 1 : Nat) : Int) := by have := hdl.out; omega
          rw [hmod]
          rw [hz] at hput hps
          have HO2 := hput.out
          rw [hps.out, parI_stop L D (D + 1) (m + 1) (fun i hi _ => cy_none D 1 (m + 1) i (by rw [hcs.out, hcy.out]; have := hdl.out; omega) hi)] at HO2
          refine bodyPost_end (results_none rfl _ _ _) rfl ?_
          rw [hLL]
          exact ⟨rfl, EncAt.of (e := ⟨e.V + n, L, e.R⟩) t2 (D + 1) hDt.out.2 hDt.out.1 (blk_far BA.out (p := ⟨b, j, none⟩) (Ne.symm hbg) _) HO2 hfar.out, Mine.set (g := b) (i := j) HM.out (Or.inl (Or.inr rfl)) _⟩
end Go.Proofs.Ytgldblakdhalkaa
