/- VintEnds walked: where the pure functions come to what the law asks, the call returns true. -/
import Derived.Test.YtlcngcbiacmagaaPBasex1
import Derived.Lib.SlBytesConst
import Derived.Laws.BytesArg
namespace Go.Proofs.Ytlcngcbiacmagaa
open Go.RowKit Go.Proofs.YtlcngcbiacmagaaW.PrintWords Go.Proofs.YtlcngcbiacmagaaW.PrintLast Go.Proofs.YtlcngcbiacmagaaW.PrintMore
open Go.Proofs.Ytlcngcbiacmagaa.PBase
set_option linter.unusedVariables false
set_option maxHeartbeats 4000000 in
set_option maxRecDepth 100000 in
theorem vintEnds_true (k : Nat) (n c x y e : Int) (one : ByteArray) (w : World)
    (h0 : Aside0 (0 ≤ n.tmod 63)) (h1 : Aside0 (n.tmod 63 ≤ 62))
    (f1 : vint_Put.f k 18446744073709551615 = some ⟨#[255, 255, 255, 255, 255, 255, 255, 255, 255, 1]⟩)
    (f2 : vint_Get.f k (strOfNums [255, 255, 255, 255, 255, 255, 255, 255, 255, c]) 0 = some (x, y, e))
    (f3 : vint_Put.f k (IntKind.u64.wrap (wrap64 (2 ^ (n.tmod 63).toNat))) = some one)
    (g1 : (e == 0) = true) (g2 : (c == 1) = true) (g3 : (c != 1) = false) (g4 : (x == 18446744073709551615) = true) (g5 : ((one.size : Int) == wrap64 (wrap64 (Int.tdiv (Int.tmod (wrap64 n) 63) 7) + 1)) = true)
    (f6 : wringerlaw2_awake.f k = some true) :
    Calls Try.prog 3 #[.int .u8 n, .int .u8 c] w fun e w' => e = .returned (.bool true) ∧ Below w.heap.size w w' := by
  have F1 := Aside0.mk f1; have F2 := Aside0.mk f2; have F3 := Aside0.mk f3; have F6 := Aside0.mk f6
  clear f1 f2 f3 f6
  have kc := fun (w : World) (C : Array Value) (n c : Nat) => Lib.run_convert_bytes_const (P := Try.prog) w 24 5 C n c Try.underlying24 Try.underlying5
  go_enter Try.func3, Try.ntmps3
  go_wp2_with fail
  refine (vint_Put.calls k _ _ _ F1.out).mono ?_
  rintro e w1 ⟨rfl, hb1⟩
  have B1 := Aside0.mk hb1
  clear hb1
  go_wp2_with fail
  have BA : Aside0 ((w1.alloc (Obj.cells #[Value.int .u8 255, Value.int .u8 255, Value.int .u8 255, Value.int .u8 255, Value.int .u8 255, Value.int .u8 255, Value.int .u8 255, Value.int .u8 255, Value.int .u8 255, Value.int .u8 1] 5 (10, 11))).heap[w1.heap.size]? = some (.cells #[Value.int .u8 255, Value.int .u8 255, Value.int .u8 255, Value.int .u8 255, Value.int .u8 255, Value.int .u8 255, Value.int .u8 255, Value.int .u8 255, Value.int .u8 255, Value.int .u8 1] 5 (10, 11))) := ⟨heap_alloc_new _ _⟩
  have HB : Aside0 (Below w.heap.size w (w1.alloc (Obj.cells #[Value.int .u8 255, Value.int .u8 255, Value.int .u8 255, Value.int .u8 255, Value.int .u8 255, Value.int .u8 255, Value.int .u8 255, Value.int .u8 255, Value.int .u8 255, Value.int .u8 1] 5 (10, 11)))) := ⟨below_alloc B1.out _⟩
  have hgg : Aside0 (w.heap.size ≤ w1.heap.size) := ⟨B1.out.size⟩
  clear B1 kc
  generalize w1.alloc (Obj.cells #[Value.int .u8 255, Value.int .u8 255, Value.int .u8 255, Value.int .u8 255, Value.int .u8 255, Value.int .u8 255, Value.int .u8 255, Value.int .u8 255, Value.int .u8 255, Value.int .u8 1] 5 (10, 11)) = W at *
  generalize w1.heap.size = g at *
  have hf : W.frozen? ⟨g, 9, none⟩ = false := by
    unfold World.frozen?
    rw [BA.out]
    rfl
  have hc : W.cell? ⟨g, 9, none⟩ = some (.int .u8 1) := cell_of_row W g 9 #[Value.int .u8 255, Value.int .u8 255, Value.int .u8 255, Value.int .u8 255, Value.int .u8 255, Value.int .u8 255, Value.int .u8 255, Value.int .u8 255, Value.int .u8 255, Value.int .u8 1] 5 (10, 11) BA.out
  have BA2 : Aside0 ((W.setCell ⟨g, 9, none⟩ (.int .u8 c)).heap[g]? = some (.cells #[Value.int .u8 255, Value.int .u8 255, Value.int .u8 255, Value.int .u8 255, Value.int .u8 255, Value.int .u8 255, Value.int .u8 255, Value.int .u8 255, Value.int .u8 255, Value.int .u8 c] 5 (10, 11))) := ⟨by simp [World.setCell, Array.getElem?_modify, BA.out]⟩
  have hcv := run_convert_bytes_arg (P := Try.prog) (W.setCell ⟨g, 9, none⟩ (.int .u8 c)) 24 5 Try.underlying24 Try.underlying5 g 0 10 10 [255, 255, 255, 255, 255, 255, 255, 255, 255, c] rfl (fun i hi => by
    rw [cell_of_row _ g (0 + i) _ 5 (10, 11) BA2.out]
    match i, hi with
    | 0, _ => rfl
    | 1, _ => rfl
    | 2, _ => rfl
    | 3, _ => rfl
    | 4, _ => rfl
    | 5, _ => rfl
    | 6, _ => rfl
    | 7, _ => rfl
    | 8, _ => rfl
    | 9, _ => rfl) 9 Try.underlying9
  have HB2 := Aside0.mk (below_set (j := 9) (v := .int .u8 c) HB.out hgg.out)
  have e0 := eq_true h0.out
  have p0 := h0.out
  have p1 := h1.out
  have e2 : decide (0 ≤ n.tmod 63) = true := decide_eq_true h0.out
  have e1 : (n.tmod 63 ≤ 64) = True := eq_true (by have := h1.out; omega)
  have hsh : ∀ W : World, (Op.shift BinOp.shl IntKind.i64 1 IntKind.u8 (n.tmod 63)).run Try.prog W = .ok (.int .i64 (IntKind.i64.wrap (1 * 2 ^ (n.tmod 63).toNat))) W := fun W => by go_simp
  rw [hsh]
  go_wp2_with fail
  clear hcv hf hc
  refine (vint_Get.calls k _ 0 x y e _ F2.out).mono ?_
  rintro e1 w2 ⟨rfl, hb2⟩
  have B2 := Aside0.mk (below_step HB2.out hb2)
  clear hb2 HB2 HB BA BA2
  go_wp2_with fail
  refine (vint_Put.calls k _ one _ F3.out).mono ?_
  rintro e1 w3 ⟨rfl, hb3⟩
  have B3 := Aside0.mk (below_step B2.out hb3)
  clear hb3 B2
  go_wp2_with fail
  refine (wringerlaw1_Err.calls e e _ rfl).mono ?_
  rintro e1 w4 ⟨rfl, hd⟩
  have B4 := Aside0.mk (below_step B3.out hd.below)
  clear hd B3
  go_wp2_with fail
  refine (wringerlaw2_awake.calls k true _ F6.out).mono ?_
  rintro e1 w5 ⟨rfl, hb⟩
  have B5 := Aside0.mk (below_step B4.out hb)
  clear hb B4
  go_wp2
  go_ret
  exact ⟨rfl, B5.out⟩
set_option maxHeartbeats 4000000 in
set_option maxRecDepth 100000 in
theorem vintEnds_false (k : Nat) (n c x y e : Int) (one : ByteArray) (w : World)
    (h0 : Aside0 (0 ≤ n.tmod 63)) (h1 : Aside0 (n.tmod 63 ≤ 62))
    (f1 : vint_Put.f k 18446744073709551615 = some ⟨#[255, 255, 255, 255, 255, 255, 255, 255, 255, 1]⟩)
    (f2 : vint_Get.f k (strOfNums [255, 255, 255, 255, 255, 255, 255, 255, 255, c]) 0 = some (x, y, e))
    (f3 : vint_Put.f k (IntKind.u64.wrap (wrap64 (2 ^ (n.tmod 63).toNat))) = some one)
    (g1 : (e == 0) = false) (g2 : (c == 1) = false) (g3 : (c != 1) = true) (g5 : ((one.size : Int) == wrap64 (wrap64 (Int.tdiv (Int.tmod (wrap64 n) 63) 7) + 1)) = true)
    (f6 : wringerlaw2_awake.f k = some true) :
    Calls Try.prog 3 #[.int .u8 n, .int .u8 c] w fun e w' => e = .returned (.bool true) ∧ Below w.heap.size w w' := by
  have F1 := Aside0.mk f1; have F2 := Aside0.mk f2; have F3 := Aside0.mk f3; have F6 := Aside0.mk f6
  clear f1 f2 f3 f6
  have kc := fun (w : World) (C : Array Value) (n c : Nat) => Lib.run_convert_bytes_const (P := Try.prog) w 24 5 C n c Try.underlying24 Try.underlying5
  go_enter Try.func3, Try.ntmps3
  go_wp2_with fail
  refine (vint_Put.calls k _ _ _ F1.out).mono ?_
  rintro e w1 ⟨rfl, hb1⟩
  have B1 := Aside0.mk hb1
  clear hb1
  go_wp2_with fail
  have BA : Aside0 ((w1.alloc (Obj.cells #[Value.int .u8 255, Value.int .u8 255, Value.int .u8 255, Value.int .u8 255, Value.int .u8 255, Value.int .u8 255, Value.int .u8 255, Value.int .u8 255, Value.int .u8 255, Value.int .u8 1] 5 (10, 11))).heap[w1.heap.size]? = some (.cells #[Value.int .u8 255, Value.int .u8 255, Value.int .u8 255, Value.int .u8 255, Value.int .u8 255, Value.int .u8 255, Value.int .u8 255, Value.int .u8 255, Value.int .u8 255, Value.int .u8 1] 5 (10, 11))) := ⟨heap_alloc_new _ _⟩
  have HB : Aside0 (Below w.heap.size w (w1.alloc (Obj.cells #[Value.int .u8 255, Value.int .u8 255, Value.int .u8 255, Value.int .u8 255, Value.int .u8 255, Value.int .u8 255, Value.int .u8 255, Value.int .u8 255, Value.int .u8 255, Value.int .u8 1] 5 (10, 11)))) := ⟨below_alloc B1.out _⟩
  have hgg : Aside0 (w.heap.size ≤ w1.heap.size) := ⟨B1.out.size⟩
  clear B1 kc
  generalize w1.alloc (Obj.cells #[Value.int .u8 255, Value.int .u8 255, Value.int .u8 255, Value.int .u8 255, Value.int .u8 255, Value.int .u8 255, Value.int .u8 255, Value.int .u8 255, Value.int .u8 255, Value.int .u8 1] 5 (10, 11)) = W at *
  generalize w1.heap.size = g at *
  have hf : W.frozen? ⟨g, 9, none⟩ = false := by
    unfold World.frozen?
    rw [BA.out]
    rfl
  have hc : W.cell? ⟨g, 9, none⟩ = some (.int .u8 1) := cell_of_row W g 9 #[Value.int .u8 255, Value.int .u8 255, Value.int .u8 255, Value.int .u8 255, Value.int .u8 255, Value.int .u8 255, Value.int .u8 255, Value.int .u8 255, Value.int .u8 255, Value.int .u8 1] 5 (10, 11) BA.out
  have BA2 : Aside0 ((W.setCell ⟨g, 9, none⟩ (.int .u8 c)).heap[g]? = some (.cells #[Value.int .u8 255, Value.int .u8 255, Value.int .u8 255, Value.int .u8 255, Value.int .u8 255, Value.int .u8 255, Value.int .u8 255, Value.int .u8 255, Value.int .u8 255, Value.int .u8 c] 5 (10, 11))) := ⟨by simp [World.setCell, Array.getElem?_modify, BA.out]⟩
  have hcv := run_convert_bytes_arg (P := Try.prog) (W.setCell ⟨g, 9, none⟩ (.int .u8 c)) 24 5 Try.underlying24 Try.underlying5 g 0 10 10 [255, 255, 255, 255, 255, 255, 255, 255, 255, c] rfl (fun i hi => by
    rw [cell_of_row _ g (0 + i) _ 5 (10, 11) BA2.out]
    match i, hi with
    | 0, _ => rfl
    | 1, _ => rfl
    | 2, _ => rfl
    | 3, _ => rfl
    | 4, _ => rfl
    | 5, _ => rfl
    | 6, _ => rfl
    | 7, _ => rfl
    | 8, _ => rfl
    | 9, _ => rfl) 9 Try.underlying9
  have HB2 := Aside0.mk (below_set (j := 9) (v := .int .u8 c) HB.out hgg.out)
  have e0 := eq_true h0.out
  have p0 := h0.out
  have p1 := h1.out
  have e2 : decide (0 ≤ n.tmod 63) = true := decide_eq_true h0.out
  have e1 : (n.tmod 63 ≤ 64) = True := eq_true (by have := h1.out; omega)
  have hsh : ∀ W : World, (Op.shift BinOp.shl IntKind.i64 1 IntKind.u8 (n.tmod 63)).run Try.prog W = .ok (.int .i64 (IntKind.i64.wrap (1 * 2 ^ (n.tmod 63).toNat))) W := fun W => by go_simp
  rw [hsh]
  go_wp2_with fail
  clear hcv hf hc
  refine (vint_Get.calls k _ 0 x y e _ F2.out).mono ?_
  rintro e1 w2 ⟨rfl, hb2⟩
  have B2 := Aside0.mk (below_step HB2.out hb2)
  clear hb2 HB2 HB BA BA2
  go_wp2_with fail
  refine (vint_Put.calls k _ one _ F3.out).mono ?_
  rintro e1 w3 ⟨rfl, hb3⟩
  have B3 := Aside0.mk (below_step B2.out hb3)
  clear hb3 B2
  go_wp2_with fail
  refine (wringerlaw1_Err.calls e e _ rfl).mono ?_
  rintro e1 w4 ⟨rfl, hd⟩
  have B4 := Aside0.mk (below_step B3.out hd.below)
  clear hd B3
  go_wp2_with fail
  refine (wringerlaw2_awake.calls k true _ F6.out).mono ?_
  rintro e1 w5 ⟨rfl, hb⟩
  have B5 := Aside0.mk (below_step B4.out hb)
  clear hb B4
  go_wp2
  go_ret
  exact ⟨rfl, B5.out⟩
set_option maxRecDepth 100000 in
theorem ends_put : vint_Put.f 60 18446744073709551615 = some ⟨#[255, 255, 255, 255, 255, 255, 255, 255, 255, 1]⟩ := by decide +kernel
set_option maxRecDepth 100000 in
theorem ends_get : ∀ c : Fin 256, vint_Get.f 60 (strOfNums [255, 255, 255, 255, 255, 255, 255, 255, 255, (c.val : Int)]) 0 = some (if c.val = 1 then (18446744073709551615, 10, 0) else (0, 0, 3)) := by decide +kernel
set_option maxRecDepth 100000 in
theorem ends_one : ∀ n : Fin 256, (vint_Put.f 60 (IntKind.u64.wrap (wrap64 (2 ^ (Int.tmod (n.val : Int) 63).toNat)))).map (fun b => ((b.size : Int) == wrap64 (wrap64 (Int.tdiv (Int.tmod (wrap64 (n.val : Int)) 63) 7) + 1))) = some true := by decide +kernel
theorem ends_awake : wringerlaw2_awake.f 60 = some true := by decide +kernel
theorem wringerlaw2_VintEnds.walk (a0 a1 : Int) (W : World) (w0 : (Lit.int .u8 a0).wf = true) (w1 : (Lit.int .u8 a1).wf = true) :
    Calls Try.prog 3 #[.int .u8 a0, .int .u8 a1] W fun e W' => e = .returned (.bool true) ∧ Below W.heap.size W W' := by
  have bd : ∀ a : Int, (Lit.int .u8 a).wf = true → ∃ n : Nat, n < 256 ∧ a = (n : Int) := by
    intro a h
    simp only [Lit.wf, Bool.and_eq_true, decide_eq_true_eq] at h
    have h0 : 0 ≤ a := h.1
    have h1 : a ≤ 255 := h.2
    exact ⟨a.toNat, by omega, by omega⟩
  obtain ⟨n, hn, rfl⟩ := bd a0 w0
  obtain ⟨c, hc, rfl⟩ := bd a1 w1
  have hm : 0 ≤ Int.tmod (n : Int) 63 ∧ Int.tmod (n : Int) 63 ≤ 62 := by
    rw [Int.tmod_eq_emod_of_nonneg (by omega)]
    omega
  obtain ⟨one, e1, e2⟩ := Option.map_eq_some_iff.1 (ends_one ⟨n, hn⟩)
  have hg := ends_get ⟨c, hc⟩
  simp only at e1 e2 hg
  by_cases h : c = 1
  · subst h
    rw [if_pos rfl] at hg
    exact vintEnds_true 60 (n : Int) ((1 : Nat) : Int) _ _ _ one W ⟨hm.1⟩ ⟨hm.2⟩ ends_put hg e1 (by decide) (by decide) (by decide) (by decide) e2 ends_awake
  · rw [if_neg h] at hg
    exact vintEnds_false 60 (n : Int) (c : Int) _ _ _ one W ⟨hm.1⟩ ⟨hm.2⟩ ends_put hg e1 (by decide) (beq_eq_false_iff_ne.2 (by omega)) (bne_iff_ne.2 (by omega)) e2 ends_awake
end Go.Proofs.Ytlcngcbiacmagaa
