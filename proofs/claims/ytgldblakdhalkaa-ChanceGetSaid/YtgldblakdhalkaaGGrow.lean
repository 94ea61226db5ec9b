/- What the encoder's growing, its steps and its bytes come to. Conditions: as each contract states. -/
import Derived.Test.YtgldblakdhalkaaGEnc
import Derived.Test.YtgldblakdhalkaaPBasex1
import Derived.Deep.RegionLaw
namespace Go.Proofs.Ytgldblakdhalkaa
set_option linter.unusedVariables false
open Go.RowKit Go.Proofs.YtgldblakdhalkaaW.PrintWords Go.Proofs.YtgldblakdhalkaaW.PrintLast Go.Proofs.YtgldblakdhalkaaW.PrintMore Go.Proofs.Ytgldblakdhalkaa.PBase
theorem hi5 : Try.prog.info? 5 = some Try.t5 := by kernel_rfl
theorem EncAt.lowlt {w : World} {B g : Nat} {e : Enc} {v : Value} (h : EncAt w B g e v) : ∃ lo D, e.V % 4294967296 = lo ∧ e.V / 4294967296 = D ∧ lo < 4294967296 ∧ w.heap[g]? = some (.cells (encCells v (lo : Int) (e.R : Int)) 87 (0, 0)) ∧ w.ownsRow B 5 1 v e.L (u8s (beI e.L D)) :=
  ⟨_, _, rfl, rfl, Nat.mod_lt _ (by decide), h.blk, h.own⟩
attribute [local go_sem ↓] Go.wp_at_zero Go.wp_at_succ
set_option maxHeartbeats 4000000 in
set_option maxRecDepth 100000 in
theorem enc_grow.calls (e : Enc) (v : Value) (B g : Nat) (w : World) (hS : Aside0 (EncAt w B g e v)) (hp : Aside0 e.pre) (hL : Aside0 (e.L ≤ 1000000000)) (hB : Aside0 (B ≤ w.heap.size)) :
    Calls Try.prog 49 #[.pointer (some ⟨g, 0, none⟩)] w fun r w' => r = .returned (.tuple #[]) ∧ ∃ v', EncAt w' B g (growE 4 e) v' ∧ Mine (fun k => k = g ∨ v.ownBlock = some k) w w' ∧ (v'.ownBlock = v.ownBlock ∨ ∃ k, v'.ownBlock = some k ∧ w.heap.size ≤ k) := by
  have hu2 := Try.underlying87
  have hR4 : Aside0 (16777216 ≤ e.R * 256 ^ 4) := ⟨by rw [p4]; have := hp.out.2.1; omega⟩
  go_enter Try.func49, Try.ntmps49
  go_wp2_with fail
  go_loopg [] 5 (fun kq w' => ∃ (k : Nat) (f : Enc) (v' : Value), Aside0 (kq = k + 1) ∧ Aside0 (growE k f = growE 4 e) ∧ Aside0 f.pre ∧ Aside0 (f.L + k ≤ e.L + 4) ∧ Aside0 (16777216 ≤ f.R * 256 ^ k) ∧ Aside0 (EncAt w' B g f v') ∧ Aside0 (Mine (fun k => k = g ∨ v.ownBlock = some k) w w') ∧ Aside0 (v'.ownBlock = v.ownBlock ∨ ∃ k, v'.ownBlock = some k ∧ w.heap.size ≤ k))
  case atStart => exact ⟨4, e, v, ⟨rfl⟩, ⟨rfl⟩, hp, ⟨by omega⟩, hR4, hS, ⟨Mine.refl _ _⟩, ⟨Or.inl rfl⟩⟩
  case round =>
    obtain ⟨k, f, v', hk, hgr, hpf, hLf, hRk, hSf, HM, hv⟩ := hrel
    cases gk with
    | zero => exact absurd hk.out (by omega)
    | succ k1 =>
      obtain ⟨lo, D, hlo, hD, hlt, hblk, hown⟩ := hSf.out.lowlt
      obtain ⟨b, C, rfl, hbB⟩ := own_form hown hpf.out.1
      have hbg : b ≠ g := fun h => hSf.out.far (by rw [h]; rfl)
      have BA := Aside0.mk hblk
      have HO := Aside0.mk hown
      clear hblk hown
      have hc2 : wr.cell? ⟨g, 2, none⟩ = some (.int .u64 (f.R : Int)) := blk_cell BA.out 2
      have hf2 := blk_frozen BA.out 2
      obtain ⟨R, hR⟩ : ∃ R, f.R = R := ⟨_, rfl⟩
      rw [hR] at hc2
      by_cases hc : R < 16777216
      · have hcb : decide ((R : Int) < 16777216) = true := decide_eq_true (by omega)
        obtain ⟨R2, hR2⟩ : ∃ R2 : Nat, R * 256 = R2 := ⟨_, rfl⟩
        have hw2 : IntKind.u64.wrap ((R : Int) * 256) = (R2 : Int) := by rw [IntKind.wrap_u64]; omega
        go_wp2_with fail
        have BA1 := Aside0.mk (blk_put (cs' := encCells (.slice (some ⟨b, 0, none⟩) f.L C) (lo : Int) (R2 : Int)) BA.out 2 (.int .u64 (R2 : Int)) rfl)
        have HM1 := Aside0.mk (Mine.set (i := 2) HM.out (Or.inl (Or.inl rfl)) (.int .u64 (R2 : Int)))
        have HO1 : Aside0 ((wr.setCell ⟨g, 2, none⟩ (.int .u64 (R2 : Int))).ownsRow B 5 1 (.slice (some ⟨b, 0, none⟩) f.L C) f.L (u8s (beI f.L D))) := ⟨own_frame HO.out (fun k hk => Below.heap_setCell _ _ _ _ (fun h => hSf.out.far (by rw [hk, h])))⟩
        have hfar := Aside0.mk hSf.out.far
        clear BA HM HO hc2 hf2 hSf hcb hw2
        generalize wr.setCell ⟨g, 2, none⟩ (.int .u64 (R2 : Int)) = W1 at *
        have hc0 : W1.cell? ⟨g, 0, none⟩ = some (.slice (some ⟨b, 0, none⟩) f.L C) := blk_cell BA1.out 0
        have hc1 : W1.cell? ⟨g, 1, none⟩ = some (.int .u64 (lo : Int)) := blk_cell BA1.out 1
        obtain ⟨c, hcc⟩ : ∃ c : Nat, lo / 16777216 = c := ⟨_, rfl⟩
        have hcd : (lo : Int) / 16777216 = (c : Int) := by omega
        have hcw : IntKind.u8.wrap (c : Int) = (c : Int) := by rw [IntKind.wrap_u8]; omega
        have hgl := Aside0.mk (blk_lt BA1.out)
        have hne : W1.heap.size ≠ g := by have := hgl.out; omega
        have hnb : Aside0 (b < W1.heap.size) := ⟨(HO1.out.lt b rfl).2⟩
        have hBW : Aside0 (B ≤ W1.heap.size) := ⟨Nat.le_trans hB.out HM1.out.size⟩
        have hLs : Aside0 (f.L ≤ 1000000004) := ⟨by have := hLf.out; have := hL.out; omega⟩
        have hc0a : (W1.alloc (.cells #[.int .u8 (c : Int)] 5)).cell? ⟨g, 0, none⟩ = some (.slice (some ⟨b, 0, none⟩) f.L C) := blk_cell (blk_alloc BA1.out _) 0
        go_region_law (first | (refine step_one (by rfl) _ _ _ (by rfl) B 5 Try.t5 (.int .u8 0) 1 Try.underlying33 hi5 (by rfl) (by rfl) (by rfl) (by rfl) (.slice (some ⟨b, 0, none⟩) f.L C) f.L (u8s (beI f.L D)) (by rfl) (World.ownsRow.alloc HO1.out _) W1.heap.size (.int .u8 (c : Int)) (by rfl) (blk_new _ _) (by rfl) (by have := hLs.out; unfold maxLen; omega) (by have := hLs.out; omega) (Nat.le_trans hBW.out (by simp)) ?_; intro b2 C2 w2 ho2 hg2 hp2; have BA2 := Aside0.mk (blk_grown (blk_alloc (w := W1.drew) BA1.out _) hg2 (fun e => hbg (by injection e with e; exact e.symm))); have hc02 : w2.cell? ⟨g, 0, none⟩ = some (.slice (some ⟨b, 0, none⟩) f.L C) := blk_cell BA2.out 0; have hf02 := blk_frozen BA2.out 0))
        all_goals
          have hb2 : b2 = b ∨ W1.heap.size ≤ b2 := by
            rcases hp2 with h | h
            · exact Or.inl (by injection h with h; exact h.symm)
            · exact Or.inr (by rw [h]; simp)
          have hb2g : b2 ≠ g := by
            rcases hb2 with h | h
            · rw [h]; exact hbg
            · have := hgl.out; omega
          have BA3 := Aside0.mk (blk_put (cs' := encCells (.slice (some ⟨b2, 0, none⟩) (f.L + 1) C2) (lo : Int) (R2 : Int)) BA2.out 0 (.slice (some ⟨b2, 0, none⟩) (f.L + 1) C2) rfl)
          have hrow : ∀ k, (Value.slice (some ⟨b, 0, none⟩) f.L C).ownBlock = some k → (k = g ∨ v.ownBlock = some k) ∨ w.heap.size ≤ k := fun k hk => by
            rcases hv.out with h | ⟨k', h, h'⟩
            · exact Or.inl (Or.inr (h.symm.trans hk))
            · rw [h] at hk; injection hk with hk; exact Or.inr (hk ▸ h')
          have HM2 := Aside0.mk (Mine.grown (Mine.drew (Mine.alloc HM1.out (.cells #[.int .u8 (c : Int)] 5))) hg2 hrow)
          have HM3 := Aside0.mk (Mine.set (g := g) (i := 0) HM2.out (Or.inl (Or.inl rfl)) (.slice (some ⟨b2, 0, none⟩) (f.L + 1) C2))
          have HO3 : Aside0 ((w2.setCell ⟨g, 0, none⟩ (.slice (some ⟨b2, 0, none⟩) (f.L + 1) C2)).ownsRow B 5 1 (.slice (some ⟨b2, 0, none⟩) (f.L + 1) C2) (f.L + 1) (u8s (beI f.L D) ++ [.int .u8 (c : Int)])) := ⟨own_frame ho2 (fun k hk => Below.heap_setCell _ _ _ _ (fun h => hb2g (by injection hk with hk; exact hk.trans h)))⟩
          have hv3 : Aside0 ((Value.slice (some ⟨b2, 0, none⟩) (f.L + 1) C2).ownBlock = v.ownBlock ∨ ∃ k, (Value.slice (some ⟨b2, 0, none⟩) (f.L + 1) C2).ownBlock = some k ∧ w.heap.size ≤ k) := ⟨by
            rcases hb2 with h | h
            · rw [h]; exact hv.out
            · exact Or.inr ⟨b2, rfl, Nat.le_trans HM1.out.size h⟩⟩
          clear BA1 HM1 HO1 hc0 hc1 hc0a ho2 hg2 hp2 BA2 hc02 hf02 HM2 hrow hcd hcw hne
          generalize w2.setCell ⟨g, 0, none⟩ (.slice (some ⟨b2, 0, none⟩) (f.L + 1) C2) = W3 at *
          have hc13 : W3.cell? ⟨g, 1, none⟩ = some (.int .u64 (lo : Int)) := blk_cell BA3.out 1
          have hf13 := blk_frozen BA3.out 1
          obtain ⟨l1, hl1⟩ : ∃ l1 : Nat, lo * 256 = l1 := ⟨_, rfl⟩
          obtain ⟨l2, hl2⟩ : ∃ l2 : Nat, l1 % 4294967296 = l2 := ⟨_, rfl⟩
          have hw3 : IntKind.u64.wrap ((lo : Int) * 256) = (l1 : Int) := by rw [IntKind.wrap_u64]; omega
          have hand : Go.bits .and .u64 (l1 : Int) 4294967295 = (l2 : Int) := by rw [and32 _ (by omega), hl2]
          go_wp2_with fail
          have BA4 := Aside0.mk (blk_put (cs' := encCells (.slice (some ⟨b2, 0, none⟩) (f.L + 1) C2) (l2 : Int) (R2 : Int)) BA3.out 1 (.int .u64 (l2 : Int)) rfl)
          have HM4 := Aside0.mk (Mine.set (g := g) (i := 1) HM3.out (Or.inl (Or.inl rfl)) (.int .u64 (l2 : Int)))
          have HO4 : Aside0 ((W3.setCell ⟨g, 1, none⟩ (.int .u64 (l2 : Int))).ownsRow B 5 1 (.slice (some ⟨b2, 0, none⟩) (f.L + 1) C2) (f.L + 1) (u8s (beI f.L D) ++ [.int .u8 (c : Int)])) := ⟨own_frame HO3.out (fun k hk => Below.heap_setCell _ _ _ _ (fun h => hb2g (by injection hk with hk; exact hk.trans h)))⟩
          go_roundg k1
          case measure => omega
          case rel =>
            cases k with
            | zero => exact absurd hRk.out (by rw [Nat.pow_zero, hR]; omega)
            | succ k =>
              refine ⟨k, f.up, _, ⟨by have := hk.out; omega⟩, ⟨?_⟩, ⟨up_pre hpf.out (by rw [hR]; exact hc)⟩, ⟨?_⟩, ⟨?_⟩, ⟨?_⟩, HM4, hv3⟩
              · have h := hgr.out
                unfold growE at h
                rw [if_pos (by rw [hR]; exact hc)] at h
                exact h
              · have := hLf.out; unfold Enc.up; simp only; omega
              · have h := hRk.out
                unfold Enc.up
                simp only
                rw [Nat.mul_assoc, Nat.mul_comm 256, ← Nat.pow_succ]
                exact h
              · have e1 : f.up.V % 4294967296 = l2 := by unfold Enc.up; simp only; omega
                have e2 : f.up.V / 4294967296 = D * 256 + c := by unfold Enc.up; simp only; omega
                have e3 : f.up.R = R2 := by unfold Enc.up; simp only; rw [hR]; exact hR2
                refine EncAt.of l2 (D * 256 + c) e1 e2 (by rw [e3]; exact BA4.out) ?_ (fun h => hb2g (by injection h))
                have e4 : u8s (beI f.up.L (D * 256 + c)) = u8s (beI f.L D) ++ [.int .u8 (c : Int)] := by
                  show u8s (beI (f.L + 1) (D * 256 + c)) = _
                  rw [beI_snoc _ _ _ (by omega)]
                  unfold u8s
                  rw [List.map_append]
                  rfl
                rw [e4]
                exact HO4.out
      · have hcb : decide ((R : Int) < 16777216) = false := decide_eq_false (by omega)
        go_wp2_with fail
        refine bodyPost_end (results_none rfl _ _ _) rfl ?_
        have hgf : growE k f = f := by cases k with
          | zero => rfl
          | succ k => unfold growE; rw [if_neg (by omega)]
        rw [← hgr.out, hgf]
        exact ⟨rfl, _, hSf.out, HM.out, hv.out⟩
end Go.Proofs.Ytgldblakdhalkaa
