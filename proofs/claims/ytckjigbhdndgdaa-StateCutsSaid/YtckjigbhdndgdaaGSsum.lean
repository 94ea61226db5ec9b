/- What (*State).Sum and Len come to: the sum of all that came. Conditions: the state as StAt tells it; few bytes. -/
import Derived.Test.YtckjigbhdndgdaaGWrite
import Derived.Test.YtckjigbhdndgdaaGStail
import Derived.LoopN
namespace Go.Proofs.Ytckjigbhdndgdaa
set_option linter.unusedVariables false
open Go.RowKit Go.Proofs.YtckjigbhdndgdaaW.PrintWords Go.Proofs.YtckjigbhdndgdaaW.PrintLast Go.Proofs.YtckjigbhdndgdaaW.PrintMore Go.Proofs.Ytckjigbhdndgdaa.PBits Go.Proofs.Ytckjigbhdndgdaa.PReader Go.Proofs.Ytckjigbhdndgdaa.PRef
set_option maxHeartbeats 4000000 in
set_option maxRecDepth 100000 in
theorem state_Len.calls (seed : Nat) (T : ByteArray) (v : Value) (B g : Nat) (w : World) (hS : Aside0 (StAt w B g seed T (T.size : Int) v)) :
    Calls Try.prog 22 #[.pointer (some ⟨g, 0, none⟩)] w fun e w' => e = .returned (.int .i64 (T.size : Int)) ∧ Below w.heap.size w w' := by
  have hu2 := Try.underlying53
  have hc : w.cell? ⟨g, 6, none⟩ = some (.int .i64 (T.size : Int)) := blk_cell hS.out.blk 6
  go_enter Try.func22, Try.ntmps22
  go_wp2
  go_ret
  exact ⟨rfl, Below.refl _ _⟩
section
attribute [local go_sem ↓] Go.wp_at_zero Go.wp_at_succ
set_option maxHeartbeats 4000000 in
set_option maxRecDepth 100000 in
theorem state_Sum.few (seed : Nat) (hs : Aside0 (seed < 18446744073709551616)) (T : ByteArray) (v : Value) (B g : Nat) (w : World) (hS : Aside0 (StAt w B g seed T (T.size : Int) v)) (hT : T.size < 32) :
    Calls Try.prog 21 #[.pointer (some ⟨g, 0, none⟩)] w fun e w' => e = .returned (.int .u64 (sumN seed T : Int)) ∧ Below w.heap.size w w' := by
  have hu2 := Try.underlying53
  have hc6 : w.cell? ⟨g, 6, none⟩ = some (.int .i64 (T.size : Int)) := blk_cell hS.out.blk 6
  have hc5 : w.cell? ⟨g, 5, none⟩ = some v := blk_cell hS.out.blk 5
  have hc0 : w.cell? ⟨g, 0, none⟩ = some (.int .u64 (seed : Int)) := blk_cell hS.out.blk 0
  have hl : decide ((T.size : Int) < 32) = true := decide_eq_true (by omega)
  have ho := hS.out.own
  rw [resT_small T hT] at ho
  obtain ⟨A, C, rfl⟩ := own_form ho
  have hcv : (convert 32 9 (.slice A T.size C)).run Try.prog w.drew = .ok (.string T) w.drew := conv_own w.drew 32 5 9 Try.underlying32 Try.underlying5 Try.underlying9 B _ T ho
  have hv : xxh_Sum.f 200 (seed : Int) T = some (sumN seed T : Int) := sum_val T seed 200 (by omega) hs.out (by omega)
  have hV := Aside0.mk hv
  clear hv ho
  go_enter Try.func21, Try.ntmps21
  go_wp2
  go_region_with (first | (go_at_call 12; refine (xxh_Sum.calls 200 _ _ _ _ hV.out).mono ?_; rintro e w1 ⟨rfl, hb⟩))
  all_goals go_wp2
  all_goals (go_ret; exact ⟨rfl, below_step (Below.refl _ _).drew hb⟩)
theorem kdx0 (a b c d : Int) (W : World) : (Instr.index 42 (.agg #[.int .u64 a, .int .u64 b, .int .u64 c, .int .u64 d]) (.int .i64 0)).run Try.prog W = .ok (.int .u64 a) W := by kernel_rfl
theorem kdx1 (a b c d : Int) (W : World) : (Instr.index 42 (.agg #[.int .u64 a, .int .u64 b, .int .u64 c, .int .u64 d]) (.int .i64 1)).run Try.prog W = .ok (.int .u64 b) W := by kernel_rfl
theorem kdx2 (a b c d : Int) (W : World) : (Instr.index 42 (.agg #[.int .u64 a, .int .u64 b, .int .u64 c, .int .u64 d]) (.int .i64 2)).run Try.prog W = .ok (.int .u64 c) W := by kernel_rfl
theorem kdx3 (a b c d : Int) (W : World) : (Instr.index 42 (.agg #[.int .u64 a, .int .u64 b, .int .u64 c, .int .u64 d]) (.int .i64 3)).run Try.prog W = .ok (.int .u64 d) W := by kernel_rfl
attribute [local go_sem] idx0 idx1 idx2 idx3 kdx0 kdx1 kdx2 kdx3
set_option maxHeartbeats 4000000 in
set_option maxRecDepth 100000 in
theorem state_Sum.many (k : Nat) (seed a b c d q0 q1 q2 q3 p0 p1 p2 p3 j n t0 r : Int) (R : ByteArray) (v : Value) (B g : Nat) (w : World) (hn : 32 ≤ n)
   (hg : Aside0 (w.heap[g]? = some (.cells (stCells seed a b c d v n) 53 (0, 0)))) (ho : Aside0 (w.ownsRow B 5 1 v R.size (Lib.strCells R)))
   (h0 : Aside0 (bits_RotateLeft64.f a 1 = some q0)) (h1 : Aside0 (bits_RotateLeft64.f b 7 = some q1)) (h2 : Aside0 (bits_RotateLeft64.f c 12 = some q2)) (h3 : Aside0 (bits_RotateLeft64.f d 18 = some q3))
   (g0 : Aside0 (xxh_Round.f 0 a = some p0)) (g1 : Aside0 (xxh_Round.f 0 b = some p1)) (g2 : Aside0 (xxh_Round.f 0 c = some p2)) (g3 : Aside0 (xxh_Round.f 0 d = some p3))
   (hj : laneV (laneV (laneV (laneV (joinedV q0 q1 q2 q3) p0) p1) p2) p3 = j) (hjn : IntKind.u64.wrap (j + IntKind.u64.wrap n) = t0) (ht : Aside0 ((xxh_tail.f k t0 R).bind (fun t => xxh_Mix.f t) = some r)) :
    Calls Try.prog 21 #[.pointer (some ⟨g, 0, none⟩)] w fun e w' => e = .returned (.int .u64 r) ∧ Below w.heap.size w w' := by
  have hu2 := Try.underlying53
  have hu := Try.underlying42
  have HB := Aside0.mk (Below.refl w.heap.size w)
  have HG : Aside0 (g < w.heap.size) := ⟨blk_lt hg.out⟩
  have HW : Aside0 (∀ k, v.ownBlock = some k → k < w.heap.size) := ⟨fun k hk => (ho.out.lt k hk).2⟩
  have hc6 : w.cell? ⟨g, 6, none⟩ = some (.int .i64 n) := blk_cell hg.out 6
  have hl : decide (n < 32) = false := decide_eq_false (by omega)
  go_enter Try.func21, Try.ntmps21
  go_wp2
  clear hc6
  refine wp_loop_rounds 5 ?_
  rw [rounds_succ]
  have hc : World.cell? _ ⟨g, 1, none⟩ = some (.int .u64 a) := blk_cell hg.out 1
  go_wp2_with (go_at_call 29; refine (bits_RotateLeft64.calls a 1 q0 _ h0.out).mono ?_; rintro e w2 ⟨rfl, hd⟩; have hb := hd.below; have BA1 := Aside0.mk (blk_below hg.out hb); have HB1 := Aside0.mk (below_step HB.out hb); have HO1 := Aside0.mk (own_mine ho.out (Mine.of_below (fun _ => False) hb) (fun _ _ h => h)); clear hg HB ho hb hd hc; have hg := BA1; have HB := HB1; have ho := HO1; clear BA1 HB1 HO1)
  rw [rounds_succ]
  have hc : World.cell? _ ⟨g, 2, none⟩ = some (.int .u64 b) := blk_cell hg.out 2
  go_wp2_with (go_at_call 29; refine (bits_RotateLeft64.calls b 7 q1 _ h1.out).mono ?_; rintro e w2 ⟨rfl, hd⟩; have hb := hd.below; have BA1 := Aside0.mk (blk_below hg.out hb); have HB1 := Aside0.mk (below_step HB.out hb); have HO1 := Aside0.mk (own_mine ho.out (Mine.of_below (fun _ => False) hb) (fun _ _ h => h)); clear hg HB ho hb hd hc; have hg := BA1; have HB := HB1; have ho := HO1; clear BA1 HB1 HO1)
  rw [rounds_succ]
  have hc : World.cell? _ ⟨g, 3, none⟩ = some (.int .u64 c) := blk_cell hg.out 3
  go_wp2_with (go_at_call 29; refine (bits_RotateLeft64.calls c 12 q2 _ h2.out).mono ?_; rintro e w2 ⟨rfl, hd⟩; have hb := hd.below; have BA1 := Aside0.mk (blk_below hg.out hb); have HB1 := Aside0.mk (below_step HB.out hb); have HO1 := Aside0.mk (own_mine ho.out (Mine.of_below (fun _ => False) hb) (fun _ _ h => h)); clear hg HB ho hb hd hc; have hg := BA1; have HB := HB1; have ho := HO1; clear BA1 HB1 HO1)
  rw [rounds_succ]
  have hc : World.cell? _ ⟨g, 4, none⟩ = some (.int .u64 d) := blk_cell hg.out 4
  go_wp2_with (go_at_call 29; refine (bits_RotateLeft64.calls d 18 q3 _ h3.out).mono ?_; rintro e w2 ⟨rfl, hd⟩; have hb := hd.below; have BA1 := Aside0.mk (blk_below hg.out hb); have HB1 := Aside0.mk (below_step HB.out hb); have HO1 := Aside0.mk (own_mine ho.out (Mine.of_below (fun _ => False) hb) (fun _ _ h => h)); clear hg HB ho hb hd hc; have hg := BA1; have HB := HB1; have ho := HO1; clear BA1 HB1 HO1)
  rw [rounds_succ]
  have hc0 : World.cell? _ ⟨g, 1, none⟩ = some (.int .u64 a) := blk_cell hg.out 1
  have hc1 : World.cell? _ ⟨g, 2, none⟩ = some (.int .u64 b) := blk_cell hg.out 2
  have hc2 : World.cell? _ ⟨g, 3, none⟩ = some (.int .u64 c) := blk_cell hg.out 3
  have hc3 : World.cell? _ ⟨g, 4, none⟩ = some (.int .u64 d) := blk_cell hg.out 4
  go_wp2
  clear hc0 hc1 hc2 hc3
  refine wp_loop_rounds 5 ?_
  rw [rounds_succ]
  go_wp2_with (go_at_call 14; refine (xxh_Round.calls 0 a p0 _ g0.out).mono ?_; rintro e w2 ⟨rfl, hd⟩; have hb := hd.below; have BA1 := Aside0.mk (blk_below hg.out hb); have HB1 := Aside0.mk (below_step HB.out hb); have HO1 := Aside0.mk (own_mine ho.out (Mine.of_below (fun _ => False) hb) (fun _ _ h => h)); clear hg HB ho hb hd; have hg := BA1; have HB := HB1; have ho := HO1; clear BA1 HB1 HO1)
  rw [rounds_succ]
  go_wp2_with (go_at_call 14; refine (xxh_Round.calls 0 b p1 _ g1.out).mono ?_; rintro e w2 ⟨rfl, hd⟩; have hb := hd.below; have BA1 := Aside0.mk (blk_below hg.out hb); have HB1 := Aside0.mk (below_step HB.out hb); have HO1 := Aside0.mk (own_mine ho.out (Mine.of_below (fun _ => False) hb) (fun _ _ h => h)); clear hg HB ho hb hd; have hg := BA1; have HB := HB1; have ho := HO1; clear BA1 HB1 HO1)
  rw [rounds_succ]
  go_wp2_with (go_at_call 14; refine (xxh_Round.calls 0 c p2 _ g2.out).mono ?_; rintro e w2 ⟨rfl, hd⟩; have hb := hd.below; have BA1 := Aside0.mk (blk_below hg.out hb); have HB1 := Aside0.mk (below_step HB.out hb); have HO1 := Aside0.mk (own_mine ho.out (Mine.of_below (fun _ => False) hb) (fun _ _ h => h)); clear hg HB ho hb hd; have hg := BA1; have HB := HB1; have ho := HO1; clear BA1 HB1 HO1)
  rw [rounds_succ]
  go_wp2_with (go_at_call 14; refine (xxh_Round.calls 0 d p3 _ g3.out).mono ?_; rintro e w2 ⟨rfl, hd⟩; have hb := hd.below; have BA1 := Aside0.mk (blk_below hg.out hb); have HB1 := Aside0.mk (below_step HB.out hb); have HO1 := Aside0.mk (own_mine ho.out (Mine.of_below (fun _ => False) hb) (fun _ _ h => h)); clear hg HB ho hb hd; have hg := BA1; have HB := HB1; have ho := HO1; clear BA1 HB1 HO1)
  rw [rounds_succ]
  go_wp2
  unfold laneV joinedV at hj
  rw [hj]
  clear hj h0 h1 h2 h3 g0 g1 g2 g3
  have hc6 : w2.cell? ⟨g, 6, none⟩ = some (.int .i64 n) := blk_cell hg.out 6
  have hc5 : w2.cell? ⟨g, 5, none⟩ = some v := blk_cell hg.out 5
  obtain ⟨A, C, rfl⟩ := own_form ho.out
  have hcv : (convert 32 9 (.slice A R.size C)).run Try.prog w2.drew = .ok (.string R) w2.drew := conv_own w2.drew 32 5 9 Try.underlying32 Try.underlying5 Try.underlying9 B _ R ho.out
  obtain ⟨m, hm, hx⟩ := Option.bind_eq_some_iff.mp ht.out
  have A1 := Aside0.mk hm
  have A2 := Aside0.mk hx
  clear hm hx ht
  go_region_with (first | (go_at_call 31; refine (state_tail.calls k _ _ m _ A1.out).mono ?_; rintro e w3 ⟨rfl, hb3⟩) | (go_at_call 16; refine (xxh_Mix.calls _ r _ A2.out).mono ?_; rintro e w4 ⟨rfl, hb4⟩))
  all_goals go_wp2
  all_goals (go_ret; exact ⟨rfl, below_step (below_step HB.out.drew hb3) hb4.below⟩)
theorem state_Sum.calls (seed : Nat) (hs : seed < 18446744073709551616) (T : ByteArray) (hT : T.size ≤ 1000000000) (v : Value) (B g : Nat) (w : World) (hS : StAt w B g seed T (T.size : Int) v) :
    Calls Try.prog 21 #[.pointer (some ⟨g, 0, none⟩)] w fun e w' => e = .returned (.int .u64 (sumN seed T : Int)) ∧ Below w.heap.size w w' := by
  by_cases h32 : T.size < 32
  · exact state_Sum.few seed ⟨hs⟩ T v B g w ⟨hS⟩ h32
  · have hj := join4_val (lanT seed T) (lanT_small seed T hs)
    unfold join4 at hj
    obtain ⟨q0, A0, hj⟩ := Option.bind_eq_some_iff.mp hj
    obtain ⟨q1, A1, hj⟩ := Option.bind_eq_some_iff.mp hj
    obtain ⟨q2, A2, hj⟩ := Option.bind_eq_some_iff.mp hj
    obtain ⟨q3, A3, hj⟩ := Option.bind_eq_some_iff.mp hj
    obtain ⟨r0, B0, hj⟩ := Option.bind_eq_some_iff.mp hj
    obtain ⟨r1, B1, hj⟩ := Option.bind_eq_some_iff.mp hj
    obtain ⟨r2, B2, hj⟩ := Option.bind_eq_some_iff.mp hj
    obtain ⟨r3, B3, hj⟩ := Option.bind_eq_some_iff.mp hj
    have hj := Option.some.inj hj
    have hn : IntKind.u64.wrap (T.size : Int) = (T.size : Int) := wrap_u64 _ (by omega) (by omega)
    exact state_Sum.many 60 _ _ _ _ _ q0 q1 q2 q3 r0 r1 r2 r3 _ _ _ _ (resT T) v B g w (by omega) ⟨hS.blk⟩ ⟨hS.own⟩ ⟨A0⟩ ⟨A1⟩ ⟨A2⟩ ⟨A3⟩ ⟨B0⟩ ⟨B1⟩ ⟨B2⟩ ⟨B3⟩ hj (by rw [hn]; exact add_val _ _) ⟨state_tail 60 seed T (by omega) (by omega) (by omega)⟩
end
end Go.Proofs.Ytckjigbhdndgdaa
