/- What (*State).Write comes to: the state of all that came and the bytes behind them. Conditions: the state as StAt tells it; few bytes. -/
import Derived.Test.YtckjigbhdndgdaaGState
import Derived.LoopN

namespace Go.Proofs.Ytckjigbhdndgdaa
set_option linter.unusedVariables false
open Go.RowKit Go.Proofs.YtckjigbhdndgdaaW.PrintWords Go.Proofs.YtckjigbhdndgdaaW.PrintLast Go.Proofs.YtckjigbhdndgdaaW.PrintMore Go.Proofs.Ytckjigbhdndgdaa.PBits Go.Proofs.Ytckjigbhdndgdaa.PReader Go.Proofs.Ytckjigbhdndgdaa.PRef
/-- A State in memory: the lanes and what is left of all that came. -/
structure StAt (w : World) (B g : Nat) (seed : Nat) (T : ByteArray) (n : Int) (v : Value) : Prop where
  blk : w.heap[g]? = some (.cells (stCells (seed : Int) ((lanT seed T).1 : Int) ((lanT seed T).2.1 : Int) ((lanT seed T).2.2.1 : Int) ((lanT seed T).2.2.2 : Int) v n) 53 (0, 0))
  own : w.ownsRow B 5 1 v (resT T).size (Lib.strCells (resT T))
  far : v.ownBlock ≠ some g
theorem own_form {w : World} {B e n : Nat} {v : Value} {xs : List Value} (h : w.ownsRow B e 1 v n xs) : ∃ A C, v = .slice A n C := by
  rcases h.2 with ⟨rfl, rfl⟩ | ⟨g, cap, cur, rfl, _⟩
  · exact ⟨_, _, rfl⟩
  · exact ⟨_, _, rfl⟩
theorem own_zero {w : World} {B e n cap : Nat} {A : Option Addr} {xs : List Value} (h : w.ownsRow B e 1 (.slice A n cap) n xs) (hn : 0 < n) : w.ownsRow B e 1 (.slice A 0 cap) 0 [] := by
  refine ⟨rfl, ?_⟩
  rcases h.2 with ⟨h0, h1⟩ | ⟨g', cap', cur, hv, hb, hg, hn, hc, hs2, ht⟩
  · omega
  · injection hv with e1 e2 e3
    subst e1 e3
    exact .inr ⟨g', cap, cur, rfl, hb, hg, Nat.zero_le _, hc, hs2, by simp⟩
theorem strCells_app (a b : ByteArray) : Lib.strCells (a ++ b) = Lib.strCells a ++ Lib.strCells b := by
  unfold Lib.strCells
  rw [ByteArray.data_append, Array.toList_append, List.map_append]
theorem hi5 : Try.prog.info? 5 = some Try.t5 := by kernel_rfl
attribute [local go_sem] max2_mx min2_mn max_two min_two
attribute [local go_sem ↓] Go.wp_at_zero Go.wp_at_succ
set_option maxHeartbeats 4000000 in
set_option maxRecDepth 100000 in
theorem state_Write.calls (seed : Nat) (T s : ByteArray) (v : Value) (B g : Nat) (w : World) (hS : Aside0 (StAt w B g seed T (T.size : Int) v)) (hB : Aside0 (B ≤ w.heap.size)) (hg : Aside0 (B ≤ g)) (hsz : Aside0 (T.size + s.size ≤ 1000000000)) :
    Calls Try.prog 20 #[.pointer (some ⟨g, 0, none⟩), .string s] w fun e w' => e = .returned (.tuple #[]) ∧ ∃ v', StAt w' B g seed (T ++ s) ((T ++ s).size : Int) v' ∧ Mine (fun k => k = g ∨ v.ownBlock = some k) w w' ∧ (v'.ownBlock = v.ownBlock ∨ ∃ k, v'.ownBlock = some k ∧ w.heap.size ≤ k) := by
  have hu := Try.underlying42
  have hu2 := Try.underlying53
  have BA := Aside0.mk hS.out.blk
  have hc : w.cell? ⟨g, 6, none⟩ = some (.int .i64 (T.size : Int)) := blk_cell BA.out 6
  have hf := blk_frozen BA.out 6
  have HM : Aside0 (Mine (fun k => k = g ∨ v.ownBlock = some k) w w) := ⟨Mine.refl _ _⟩
  go_enter Try.func20, Try.ntmps20
  go_wp2_with fail
  have hN : wrap64 ((T.size : Int) + (s.size : Int)) = ((T ++ s).size : Int) := by rw [size_app]; have := hsz.out; unfold wrap64; omega
  rw [hN]
  generalize hNN : ((T ++ s).size : Int) = N at *
  have BA1 := Aside0.mk (blk_put (cs' := stCells (seed : Int) ((lanT seed T).1 : Int) ((lanT seed T).2.1 : Int) ((lanT seed T).2.2.1 : Int) ((lanT seed T).2.2.2 : Int) v N) BA.out 6 (.int .i64 N) rfl)
  have HM1 := Aside0.mk (Mine.set (i := 6) HM.out (Or.inl (Or.inl rfl)) (.int .i64 N))
  have HO : Aside0 ((w.setCell ⟨g, 6, none⟩ (.int .i64 N)).ownsRow B 5 1 v (resT T).size (Lib.strCells (resT T))) := ⟨own_frame hS.out.own (fun k hk => Below.heap_setCell _ _ _ _ (fun e => hS.out.far (by rw [hk, e])))⟩
  have hSS : Aside0 (StAt (w.setCell ⟨g, 6, none⟩ (.int .i64 N)) B g seed T N v) := ⟨⟨BA1.out, HO.out, hS.out.far⟩⟩
  have hLt : Aside0 (w.heap.size ≤ (w.setCell ⟨g, 6, none⟩ (.int .i64 N)).heap.size) := ⟨HM1.out.size⟩
  have hNa : Aside0 (((T ++ s).size : Int) = N) := ⟨hNN⟩
  clear BA BA1 HO HM hc hf hNN hN
  generalize w.setCell ⟨g, 6, none⟩ (.int .i64 N) = W at *
  go_loopg [1] (s.size + 1) (fun kq v1 w' => ∃ (s' T' : ByteArray) (v' : Value), v1 = .string s' ∧ Aside0 (T' ++ s' = T ++ s) ∧ Aside0 (StAt w' B g seed T' N v') ∧ Aside0 (Mine (fun k => k = g ∨ v.ownBlock = some k) w w') ∧ Aside0 (v'.ownBlock = v.ownBlock ∨ ∃ k, v'.ownBlock = some k ∧ w.heap.size ≤ k) ∧ Aside0 (s'.size < kq))
  case atStart => exact ⟨s, T, v, rfl, ⟨rfl⟩, hSS, HM1, ⟨Or.inl rfl⟩, ⟨Nat.lt_succ_self _⟩⟩
  case round =>
    clear hSS HM1 hLt
    obtain ⟨s', T', v', rfl, hT, hSt, HM, hv, hk⟩ := hrel
    cases gk with
    | zero => exact absurd hk.out (Nat.not_lt_zero _)
    | succ k1 =>
      by_cases hs0 : s'.size = 0
      · have hse : s' = ByteArray.empty := ByteArray.size_eq_zero_iff.1 hs0
        subst hse
        go_wp2_with fail
        refine bodyPost_end (results_none rfl _ _ _) rfl ?_
        have hTT : T ++ s = T' := by rw [← hT.out, app_empty]
        refine ⟨rfl, v', ?_, HM.out, hv.out⟩
        have hNT := hNa.out
        rw [hTT] at hNT ⊢
        rw [hNT]
        exact hSt.out
      · have hse : ¬ s' = ByteArray.empty := fun h => hs0 (by rw [h]; rfl)
        have hne : (!s'.toList.isEmpty) = true := by
          have : s'.toList.length = s'.size := by rw [ByteArray.toList_eq, Array.length_toList]; rfl
          cases h : s'.toList with
          | nil => rw [h] at this; simp at this; omega
          | cons a l => rfl
        have hr : (resT T').size < 32 := by rw [resT_size]; omega
        obtain ⟨A, C, hvv⟩ := own_form hSt.out.own
        subst hvv
        have BA := Aside0.mk hSt.out.blk
        have hc5 : wr.cell? ⟨g, 5, none⟩ = some (.slice A (resT T').size C) := blk_cell BA.out 5
        generalize hrr : (resT T').size = r at *
        obtain ⟨p, hp, hp1, hp2, hp3⟩ : ∃ p : Nat, mn (s'.size : Int) (32 - (r : Int)) = (p : Int) ∧ p ≤ s'.size ∧ r + p ≤ 32 ∧ 0 < p := by
          refine ⟨(mn (s'.size : Int) (32 - (r : Int))).toNat, ?_, ?_, ?_, ?_⟩ <;> (unfold mn; split <;> omega)
        have hp4 := eq_true (show (p : Int) ≤ (s'.size : Int) by omega)
        go_wp2_with fail
        have hlt := Aside0.mk (blk_lt BA.out)
        have hps : (s'.extract 0 p).size = p := by rw [ByteArray.size_extract]; omega
        generalize hP : s'.extract 0 p = P at *
        have hBw : Aside0 (B ≤ wr.heap.size) := ⟨Nat.le_trans hB.out HM.out.size⟩
        have HOW : Aside0 (wr.drew.ownsRow B 5 1 (.slice A r C) r (Lib.strCells (resT T'))) := ⟨by have h := hSt.out.own; rw [hrr] at h; exact h⟩
        go_region_law (refine step_str (by rfl) _ _ _ _ (by rfl) B 5 Try.t5 Try.underlying32 Try.underlying9 hi5 (by rfl) (by rfl) (by rfl) (.slice A r C) r (Lib.strCells (resT T')) (by rfl) HOW.out P (by rfl) (by unfold maxLen; omega) (by omega) hBw.out ?_; intro v2 w2 ho hgr hpos; obtain ⟨A2, C2, rfl⟩ := own_form ho; have BA2 := Aside0.mk (blk_grown (blk_drew BA.out) hgr (fun e => hSt.out.far e.symm)); have hc2 : w2.cell? ⟨g, 5, none⟩ = some (.slice A r C) := blk_cell BA2.out 5; have hf2 := blk_frozen BA2.out 5)
        have hfar2 : Aside0 ((Value.slice A2 (r + P.size) C2).ownBlock ≠ some g) := ⟨fun e => by
          rcases hpos with h | h
          · exact hSt.out.far (h.symm.trans e)
          · rw [h] at e; injection e with e; have := hlt.out; rw [show wr.drew.heap.size = wr.heap.size from rfl] at e; omega⟩
        have hv3 : Aside0 ((Value.slice A2 (r + P.size) C2).ownBlock = v.ownBlock ∨ ∃ k, (Value.slice A2 (r + P.size) C2).ownBlock = some k ∧ w.heap.size ≤ k) := ⟨by
          rcases hpos with h | h
          · rw [h]; exact hv.out
          · exact Or.inr ⟨_, h, HM.out.size⟩⟩
        have HM2 := Aside0.mk (Mine.grown HM.out.drew hgr (fun k hk => by
          rcases hv.out with h | ⟨k', h, h'⟩
          · exact Or.inl (Or.inr (h.symm.trans hk))
          · rw [h] at hk; injection hk with hk; exact Or.inr (hk ▸ h')))
        have HM3 := Aside0.mk (Mine.set (g := g) (i := 5) HM2.out (Or.inl (Or.inl rfl)) (.slice A2 (r + P.size) C2))
        have BA3 := Aside0.mk (blk_put (cs' := stCells (seed : Int) ((lanT seed T').1 : Int) ((lanT seed T').2.1 : Int) ((lanT seed T').2.2.1 : Int) ((lanT seed T').2.2.2 : Int) (.slice A2 (r + P.size) C2) N) BA2.out 5 (.slice A2 (r + P.size) C2) rfl)
        have hRs : (resT T' ++ P).size = r + P.size := by rw [size_app, hrr]
        have HO3 : Aside0 ((w2.setCell ⟨g, 5, none⟩ (.slice A2 (r + P.size) C2)).ownsRow B 5 1 (.slice A2 (r + P.size) C2) (resT T' ++ P).size (Lib.strCells (resT T' ++ P))) := ⟨by
          rw [hRs, strCells_app]
          exact own_frame ho (fun k hk => Below.heap_setCell _ _ _ _ (fun e => hfar2.out (by rw [hk, e])))⟩
        clear BA BA2 HM HM2 hv hc5 hc2 hf2 ho hgr hpos HOW hSt
        have hpa : Aside0 (P.size = p) := ⟨hps⟩
        rw [hps] at hfar2 hv3 HM3 BA3 hRs HO3
        generalize w2.setCell ⟨g, 5, none⟩ (.slice A2 (r + p) C2) = W3 at *
        have hc5 : W3.cell? ⟨g, 5, none⟩ = some (.slice A2 (r + p) C2) := blk_cell BA3.out 5
        have hf5 := blk_frozen BA3.out 5
        by_cases h32 : r + p = 32
        · have h32b : ((r : Int) + (p : Int) == 32) = true := beq_iff_eq.2 (by omega)
          rw [h32] at hfar2 hv3 BA3 HO3 hc5
          have hmf := more_full seed T' P (by rw [← resT_size, hrr, hpa.out]; omega)
          have hRz : (resT T' ++ P).size = 32 := by rw [hRs]; omega
          generalize resT T' ++ P = R at *
          go_wp2_with fail
          rw [conv_own W3 32 5 9 Try.underlying32 Try.underlying5 Try.underlying9 B _ R HO3.out]
          go_wp2_with fail
          refine (state_step.calls 9 R _ _ _ _ _ _ _ _ _ _ _ _ _ _ _ _ _ _ _ _ _ _ _ g W3 ⟨BA3.out⟩ ⟨getWord_in 9 R 0 (by omega) (by omega) (by omega)⟩ ⟨getWord_in 9 R 8 (by omega) (by omega) (by omega)⟩ ⟨getWord_in 9 R 16 (by omega) (by omega) (by omega)⟩ ⟨getWord_in 9 R 24 (by omega) (by omega) (by omega)⟩ ⟨round_val _ _⟩ ⟨round_val _ _⟩ ⟨round_val _ _⟩ ⟨round_val _ _⟩).mono ?_
          rintro e w4 ⟨rfl, hb4, hm4⟩
          have BA4 := Aside0.mk hb4
          have HM4 := Aside0.mk (Mine.then_ HM3.out hm4 (fun k hk => Or.inl (Or.inl hk)))
          have HO4 := Aside0.mk (own_mine HO3.out hm4 (fun k hk e => hfar2.out (by rw [hk, e])))
          clear hb4 hm4 BA3 HM3 HO3 hc5 hf5
          have hc5 : w4.cell? ⟨g, 5, none⟩ = some (.slice A2 32 C2) := blk_cell BA4.out 5
          have hf5 := blk_frozen BA4.out 5
          go_wp2_with fail
          have BA5 := Aside0.mk (blk_put (cs' := stCells (seed : Int) (rnd (lanT seed T').1 (part R 0 8) : Int) (rnd (lanT seed T').2.1 (part R 8 8) : Int) (rnd (lanT seed T').2.2.1 (part R 16 8) : Int) (rnd (lanT seed T').2.2.2 (part R 24 8) : Int) (.slice A2 0 C2) N) BA4.out 5 (.slice A2 0 C2) rfl)
          have HM5 := Aside0.mk (Mine.set (g := g) (i := 5) HM4.out (Or.inl (Or.inl rfl)) (.slice A2 0 C2))
          have hob : (Value.slice A2 0 C2).ownBlock = (Value.slice A2 32 C2).ownBlock := by cases A2 <;> rfl
          have HO5 : Aside0 ((w4.setCell ⟨g, 5, none⟩ (.slice A2 0 C2)).ownsRow B 5 1 (.slice A2 0 C2) 0 []) := ⟨own_frame (own_zero (hRz ▸ HO4.out) (by omega)) (fun k hk => Below.heap_setCell _ _ _ _ (fun e => hfar2.out (by rw [← hob, hk, e])))⟩
          go_roundg k1
          case measure => have := hk.out; omega
          case rel =>
            refine ⟨_, T' ++ P, _, rfl, ⟨?_⟩, ⟨?_⟩, HM5, ⟨by rw [hob]; exact hv3.out⟩, ⟨?_⟩⟩
            · rw [app_assoc, ← hP, split_at _ _ hp1]; exact hT.out
            · refine ⟨?_, ?_, by rw [hob]; exact hfar2.out⟩
              · rw [hmf.1]; exact BA5.out
              · rw [hmf.2]; exact HO5.out
            · rw [ByteArray.size_extract]; have := hk.out; omega
        · have h32b : ((r : Int) + (p : Int) == 32) = false := beq_eq_false_iff_ne.2 (by omega)
          have hmf := more_few seed T' P (by rw [← resT_size, hrr, hpa.out]; omega)
          go_wp2_with fail
          go_roundg k1
          case measure => have := hk.out; omega
          case rel =>
            refine ⟨_, T' ++ P, _, rfl, ⟨?_⟩, ⟨?_⟩, HM3, hv3, ⟨?_⟩⟩
            · rw [app_assoc, ← hP, split_at _ _ hp1]; exact hT.out
            · refine ⟨?_, ?_, hfar2.out⟩
              · rw [hmf.1]; exact BA3.out
              · rw [hmf.2]; exact HO3.out
            · rw [ByteArray.size_extract]; have := hk.out; omega
end Go.Proofs.Ytckjigbhdndgdaa
