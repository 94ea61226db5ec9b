/- What the reference coder's growing comes to. Conditions: as the contract states. -/
import Derived.Test.YtgldblakdhalkaaGCod
namespace Go.Proofs.Ytgldblakdhalkaa
set_option linter.unusedVariables false
open Go.RowKit Go.Proofs.YtgldblakdhalkaaW.PrintWords Go.Proofs.YtgldblakdhalkaaW.PrintLast Go.Proofs.YtgldblakdhalkaaW.PrintMore Go.Proofs.Ytgldblakdhalkaa.PBase
/-- The same in a plain region. -/
theorem list_one {P : Program} {w : World} {ops : Array Oper} {rest : List Oper} {o : Oper} {a : Act} {Q : Exit → Act → World → Prop} (hgd : o.guard = none) (x y : Operand) (t : TypeId)
    (ho : o.op = .call { callee := .builtin .append, args := #[x, y], argTypes := #[t, t] }) (base : Nat) (e : TypeId) (i : TypeInfo) (z : Value) (bytes : Nat) (ht : P.underlying t = some (.slice e)) (hi : P.info? e = some i) (hz : i.zero = some z)
    (hsize : i.size = 1) (hby : i.bytes = bytes) (hzs : z.cells.size = 1) (v : Value) (n : Nat) (xs : List Value) (hx : a.eval x = v) (hown : w.ownsRow base e 1 v n xs) (g : Nat) (c : Value) (hy : a.eval y = .slice (some ⟨g, 0, none⟩) 1 1)
    (hnew : w.heap[g]? = some (.cells #[c] e (0, 0))) (hc1 : c.oneCell' = true) (h63 : n + 1 ≤ maxLen) (hbytes : (n + 1) * bytes ≤ 140737488355328) (hbase : base ≤ w.heap.size)
    (h : ∀ b cap w', w'.ownsRow base e 1 (.slice (some ⟨b, 0, none⟩) (n + 1) cap) (n + 1) (xs ++ [c]) → w.grownBy w' v.ownBlock → (v.ownBlock = some b ∨ b = w.heap.size) → wpList P ops Q rest (a.put o.dst (.slice (some ⟨b, 0, none⟩) (n + 1) cap)) w') :
    wpList P ops Q (o :: rest) a w :=
  wpList_append_lies w hgd x y t ho base e i z 1 bytes ht hi hz hsize hby hzs (by decide) v n xs hx hown ⟨g, 0, none⟩ 1 1 [c] hy rfl (World.news_of_block hnew) (fun u hu => by rw [List.mem_singleton] at hu; rw [hu]; exact hc1) (by decide) h63 hbytes hbase _ rfl
    (fun b cap w' h1 h2 h3 _ => h b cap w' h1 h2 h3)
theorem own_eq {b n C k : Nat} (h : (Value.slice (some ⟨b, 0, none⟩) n C).ownBlock = some k) : b = k := by simpa [Value.ownBlock] using h
theorem Below_alloc_size (w : World) (o : Obj) : (w.alloc o).heap.size = w.heap.size + 1 := by simp
attribute [local go_sem ↓] Go.wp_at_zero Go.wp_at_succ
set_option maxHeartbeats 4000000 in
set_option maxRecDepth 100000 in
theorem ref_grow.calls (e : Enc) (v : Value) (B g : Nat) (w : World) (hS : Aside0 (CodAt w B g e v)) (hp : Aside0 e.pre) (hL : Aside0 (e.L ≤ 1000000000)) (hB : Aside0 (B ≤ w.heap.size)) :
    Calls Try.prog 51 #[.pointer (some ⟨g, 0, none⟩)] w fun r w' => r = .returned (.tuple #[]) ∧ ∃ v', CodAt w' B g (growE 4 e) v' ∧ Moved g w v w' v' := by
  have hu2 := Try.underlying89
  have hR4 : Aside0 (16777216 ≤ e.R * 256 ^ 4) := ⟨by rw [p4]; have := hp.out.2.1; omega⟩
  go_enter Try.func51, Try.ntmps51
  go_wp2_with fail
  go_loopg [] 5 (fun kq w' => ∃ (k : Nat) (f : Enc) (v' : Value), Aside0 (kq = k + 1) ∧ Aside0 (growE k f = growE 4 e) ∧ Aside0 f.pre ∧ Aside0 (f.L + k ≤ e.L + 4) ∧ Aside0 (16777216 ≤ f.R * 256 ^ k) ∧ Aside0 (CodAt w' B g f v') ∧ Aside0 (Moved g w v w' v'))
  case atStart => exact ⟨4, e, v, ⟨rfl⟩, ⟨rfl⟩, hp, ⟨by omega⟩, hR4, hS, ⟨Moved.refl _ _ _⟩⟩
  case round =>
    obtain ⟨k, f, v', hk, hgr, hpf, hLf, hRk, hSf, HM⟩ := hrel
    cases gk with
    | zero => exact absurd hk.out (by omega)
    | succ k1 =>
      have BA := Aside0.mk hSf.out.blk
      have HO := Aside0.mk hSf.out.own
      obtain ⟨b, C, rfl, hbB⟩ := own_form HO.out (by omega)
      have hbg : b ≠ g := fun h => hSf.out.far (by rw [h]; rfl)
      have hc2 : wr.cell? ⟨g, 1, none⟩ = some (.int .u64 (f.R : Int)) := blk_cell BA.out 1
      have hf2 := blk_frozen BA.out 1
      obtain ⟨R, hR⟩ : ∃ R, f.R = R := ⟨_, rfl⟩
      rw [hR] at hc2
      by_cases hc : R < 16777216
      · have hcb : decide ((R : Int) < 16777216) = true := decide_eq_true (by omega)
        obtain ⟨R2, hR2⟩ : ∃ R2 : Nat, R * 256 = R2 := ⟨_, rfl⟩
        have hw2 : IntKind.u64.wrap ((R : Int) * 256) = (R2 : Int) := by rw [IntKind.wrap_u64]; omega
        have hS1 := Aside0.mk (hSf.out.size R2)
        have HM1 := Aside0.mk (HM.out.set (i := 1) (.int .u64 (R2 : Int)))
        have hc0 : wr.cell? ⟨g, 0, none⟩ = some (.slice (some ⟨b, 0, none⟩) (f.L + 4) C) := blk_cell BA.out 0
        have hfar := Aside0.mk hS1.out.far
        have BA1 : Aside0 ((wr.setCell ⟨g, 1, none⟩ (.int .u64 (R2 : Int))).heap[g]? = some (.cells (codCells (.slice (some ⟨b, 0, none⟩) (f.L + 4) C) (R2 : Int)) 89 (0, 0))) := ⟨hS1.out.blk⟩
        have HO1 : Aside0 ((wr.setCell ⟨g, 1, none⟩ (.int .u64 (R2 : Int))).ownsRow B 5 1 (.slice (some ⟨b, 0, none⟩) (f.L + 4) C) (f.L + 4) (u8s (beI (f.L + 4) f.V))) := ⟨hS1.out.own⟩
        have hszw : Aside0 ((wr.setCell ⟨g, 1, none⟩ (.int .u64 (R2 : Int))).heap.size = wr.heap.size) := ⟨by simp [World.setCell]⟩
        have hBW : Aside0 (B ≤ (wr.setCell ⟨g, 1, none⟩ (.int .u64 (R2 : Int))).heap.size) := ⟨Nat.le_trans hB.out HM1.out.mine.size⟩
        have hLs : Aside0 (f.L + 4 ≤ 1000000008) := ⟨by have := hLf.out; have := hL.out; omega⟩
        have hb0 : Aside0 (f.L + 4 + 1 ≤ maxLen) := ⟨by have := hLs.out; unfold maxLen; omega⟩
        have hb1 : Aside0 ((f.L + 4 + 1) * 1 ≤ 140737488355328) := ⟨by have := hLs.out; omega⟩
        have hgl : Aside0 (g < wr.heap.size) := ⟨by rw [← hszw.out]; exact blk_lt BA1.out⟩
        clear hSf BA HO hS1
        go_wp2_with (first | (at_builtin; generalize wr.setCell ⟨g, 1, none⟩ (.int .u64 (R2 : Int)) = W1 at *; refine list_one (by rfl) _ _ _ (by rfl) B 5 Try.t5 (.int .u8 0) 1 Try.underlying33 hi5 (by rfl) (by rfl) (by rfl) (by rfl) (.slice (some ⟨b, 0, none⟩) (f.L + 4) C) (f.L + 4) (u8s (beI (f.L + 4) f.V)) (by rfl) (World.ownsRow.alloc HO1.out _) wr.heap.size (.int .u8 0) (by rfl) (by rw [← hszw.out]; exact blk_new _ _) (by rfl) hb0.out hb1.out (by rw [Below_alloc_size]; exact Nat.le_succ_of_le hBW.out) ?_; intro b2 C2 w2 ho2 hg2 hp2; have hrow : some g ≠ (Value.slice (some ⟨b, 0, none⟩) (f.L + 4) C).ownBlock := Ne.symm hfar.out; have BA2 : Aside0 (w2.heap[g]? = some (.cells (codCells (.slice (some ⟨b, 0, none⟩) (f.L + 4) C) (R2 : Int)) 89 (0, 0))) := ⟨blk_grown (blk_alloc BA1.out (.cells #[.int .u8 0] 5)) hg2 hrow⟩; have hc02 : w2.cell? ⟨g, 0, none⟩ = some (.slice (some ⟨b, 0, none⟩) (f.L + 4) C) := blk_cell BA2.out 0; have hf02 := blk_frozen BA2.out 0))
        have hW1 : W1.heap.size = wr.heap.size := hszw.out
        have hb2 : b2 = b ∨ W1.heap.size ≤ b2 := by
          rcases hp2 with h | h
          · exact Or.inl (own_eq h).symm
          · exact Or.inr (by rw [h, Below_alloc_size]; omega)
        have hb2g : b2 ≠ g := by
          rcases hb2 with h | h
          · rw [h]; exact hbg
          · have := hgl.out; omega
        have hm2 : Moved g W1 (.slice (some ⟨b, 0, none⟩) (f.L + 4) C) w2 (.slice (some ⟨b2, 0, none⟩) (f.L + 4 + 1) C2) := ⟨Mine.grown (Mine.alloc (Mine.refl _ _) (.cells #[.int .u8 0] 5)) hg2 (fun k hk => Or.inl (Or.inr hk)), by
          rcases hb2 with h | h
          · rw [h]; exact Or.inl rfl
          · exact Or.inr ⟨b2, rfl, h⟩⟩
        have HM3 := Aside0.mk ((HM1.out.trans hm2).set (i := 0) (.slice (some ⟨b2, 0, none⟩) (f.L + 4 + 1) C2))
        have BA3 := Aside0.mk (blk_put (cs' := codCells (.slice (some ⟨b2, 0, none⟩) (f.L + 4 + 1) C2) (R2 : Int)) BA2.out 0 (.slice (some ⟨b2, 0, none⟩) (f.L + 4 + 1) C2) rfl)
        have HO3 : Aside0 ((w2.setCell ⟨g, 0, none⟩ (.slice (some ⟨b2, 0, none⟩) (f.L + 4 + 1) C2)).ownsRow B 5 1 (.slice (some ⟨b2, 0, none⟩) (f.L + 4 + 1) C2) (f.L + 4 + 1) (u8s (beI (f.L + 4) f.V) ++ [.int .u8 0])) := ⟨own_frame ho2 (fun k hk => Below.heap_setCell _ _ _ _ (fun h => hb2g ((own_eq hk).trans h)))⟩
        clear HM1 BA1 HO1 BA2 ho2 hg2 hp2 hm2
        go_roundg k1
        case measure => omega
        case rel =>
          cases k with
          | zero => exact absurd hRk.out (by rw [Nat.pow_zero, hR]; omega)
          | succ k =>
            refine ⟨k, f.up, _, ⟨by have := hk.out; omega⟩, ⟨?_⟩, ⟨up_pre hpf.out (by rw [hR]; exact hc)⟩, ⟨?_⟩, ⟨?_⟩, ⟨?_⟩, HM3⟩
            · have h := hgr.out
              unfold growE at h
              rw [if_pos (by rw [hR]; exact hc)] at h
              exact h
            · have := hLf.out; unfold Enc.up; simp only; omega
            · have h := hRk.out
              unfold Enc.up
              simp only
              rw [Nat.mul_assoc, Nat.mul_comm 256, ← Nat.pow_succ]
              exact h
            · have e3 : f.up.R = R2 := by unfold Enc.up; simp only; rw [hR]; exact hR2
              refine ⟨by rw [e3]; exact BA3.out, ?_, fun h => hb2g (own_eq h)⟩
              have e4 : u8s (beI (f.up.L + 4) f.up.V) = u8s (beI (f.L + 4) f.V) ++ [.int .u8 0] := by
                show u8s (beI (f.L + 1 + 4) (f.V * 256)) = _
                rw [show f.L + 1 + 4 = f.L + 4 + 1 by omega, show f.V * 256 = f.V * 256 + 0 by omega, beI_snoc _ _ _ (by decide)]
                unfold u8s
                rw [List.map_append]
                rfl
              rw [e4]
              have e5 : f.up.L + 4 = f.L + 4 + 1 := by show f.L + 1 + 4 = f.L + 4 + 1; omega
              rw [e5]
              exact HO3.out
      · have hcb : decide ((R : Int) < 16777216) = false := decide_eq_false (by omega)
        go_wp2_with fail
        refine bodyPost_end (results_none rfl _ _ _) rfl ?_
        have hgf : growE k f = f := by cases k with
          | zero => rfl
          | succ k => unfold growE; rw [if_neg (by omega)]
        rw [← hgr.out, hgf]
        exact ⟨rfl, _, hSf.out, HM.out⟩
end Go.Proofs.Ytgldblakdhalkaa
