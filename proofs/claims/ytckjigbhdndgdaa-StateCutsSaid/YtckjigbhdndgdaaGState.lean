/- What the state's own functions come to: New, step, Write, Sum, Len; of the memory that was there the state's own alone turns. Conditions: as each contract states. -/
import Derived.Test.YtckjigbhdndgdaaGXsum
import Derived.Test.YtckjigbhdndgdaaXst
import Derived.Test.YtckjigbhdndgdaaOwn
import Derived.Deep.RegionHeld3
import Derived.Deep.DrawnRows
namespace Go.Proofs.Ytckjigbhdndgdaa
open Go.RowKit Go.Proofs.YtckjigbhdndgdaaW.PrintWords Go.Proofs.YtckjigbhdndgdaaW.PrintLast Go.Proofs.YtckjigbhdndgdaaW.PrintMore Go.Proofs.Ytckjigbhdndgdaa.PBits
set_option linter.unusedVariables false
/-- A State's cells. -/
def stCells (seed a b c d : Int) (v : Value) (n : Int) : Array Value := #[.int .u64 seed, .int .u64 a, .int .u64 b, .int .u64 c, .int .u64 d, v, .int .i64 n]
section
attribute [local go_sem ↓] Go.wp_at_zero Go.wp_at_succ
set_option maxHeartbeats 2000000 in
set_option maxRecDepth 100000 in
theorem state_New.calls (a : Int) (w : World) :
    Calls Try.prog 18 #[.int .u64 a] w fun e w' => e = .returned (.pointer (some ⟨w.heap.size, 0, none⟩)) ∧ w'.heap[w.heap.size]? = some (.cells (stCells a (IntKind.u64.wrap (IntKind.u64.wrap (a + 11400714785074694791) + 14029467366897019727)) (IntKind.u64.wrap (a + 14029467366897019727)) a (IntKind.u64.wrap (a - 11400714785074694791)) (.slice none 0 0) 0) 53 (0, 0)) ∧ Below w.heap.size w w' := by
  have hu := Try.underlying42
  have hu2 := Try.underlying53
  go_enter Try.func18, Try.ntmps18
  go_wp2
  go_region
  go_wp2
  go_region
  go_wp2
  go_region
  go_wp2
  go_region
  go_wp2
  go_ret
  exact ⟨rfl, heap_alloc_new _ _, (((((Below.refl _ _).alloc (Nat.le_refl _) _).drew).drew).drew).drew⟩
set_option maxHeartbeats 4000000 in
set_option maxRecDepth 100000 in
theorem state_step.calls (k : Nat) (s : ByteArray) (seed a b c d n0 n1 n2 n3 r0 r1 r2 r3 x0 x1 x2 x3 y0 y1 y2 y3 : Int) (v : Value) (n : Int) (g : Nat) (w : World)
   (hg : Aside0 (w.heap[g]? = some (.cells (stCells seed a b c d v n) 53 (0, 0))))
   (h0 : Aside0 (vint_GetWord.f k s 0 = some (n0, x0, y0))) (h1 : Aside0 (vint_GetWord.f k s 8 = some (n1, x1, y1))) (h2 : Aside0 (vint_GetWord.f k s 16 = some (n2, x2, y2))) (h3 : Aside0 (vint_GetWord.f k s 24 = some (n3, x3, y3)))
   (g0 : Aside0 (xxh_Round.f a n0 = some r0)) (g1 : Aside0 (xxh_Round.f b n1 = some r1)) (g2 : Aside0 (xxh_Round.f c n2 = some r2)) (g3 : Aside0 (xxh_Round.f d n3 = some r3)) :
    Calls Try.prog 30 #[.pointer (some ⟨g, 0, none⟩), .string s] w fun e w' => e = .returned (.tuple #[]) ∧ w'.heap[g]? = some (.cells (stCells seed r0 r1 r2 r3 v n) 53 (0, 0)) ∧ Mine (· = g) w w' := by
  have hu := Try.underlying42
  have hu2 := Try.underlying53
  have HM : Aside0 (Mine (· = g) w w) := ⟨Mine.refl _ _⟩
  go_enter Try.func30, Try.ntmps30
  go_wp2
  refine wp_loop_rounds 5 ?_
  rw [rounds_succ]
  go_wp2_with fail
  refine (vint_GetWord.calls k s 0 n0 x0 y0 _ h0.out).mono ?_
  rintro e w1 ⟨rfl, hb⟩
  have BA1 := Aside0.mk (blk_below hg.out hb)
  have HM1 := Aside0.mk (Mine.below HM.out hb)
  have hc : w1.cell? ⟨g, 1, none⟩ = some (.int .u64 a) := blk_cell BA1.out 1
  have hf := blk_frozen BA1.out 1
  clear hg HM hb
  go_wp2_with fail
  go_region_with (first | (go_at_call 14; refine (xxh_Round.calls a n0 r0 _ g0.out).mono ?_; rintro e w2 ⟨rfl, hd⟩; have BA2 := Aside0.mk (blk_below (blk_drew BA1.out) hd.below); have HM2 := Aside0.mk (Mine.below HM1.out.drew hd.below); clear hf hc BA1 HM1 hd; have hf := blk_frozen BA2.out 1; have hc : w2.cell? ⟨g, 1, none⟩ = some (.int .u64 a) := blk_cell BA2.out 1))
  go_wp2
  have BA3 := Aside0.mk (blk_put (cs' := stCells seed r0 b c d v n) BA2.out 1 (.int .u64 r0) rfl)
  have HM3 := Aside0.mk (Mine.set (i := 1) HM2.out (Or.inl rfl) (.int .u64 r0))
  generalize w2.setCell ⟨g, 1, none⟩ (.int .u64 r0) = w3 at *
  clear BA2 HM2 hc hf
  have hg := BA3
  have HM := HM3
  clear BA3 HM3
  rw [rounds_succ]
  go_wp2_with fail
  refine (vint_GetWord.calls k s 8 n1 x1 y1 _ h1.out).mono ?_
  rintro e w1 ⟨rfl, hb⟩
  have BA1 := Aside0.mk (blk_below hg.out hb)
  have HM1 := Aside0.mk (Mine.below HM.out hb)
  have hc : w1.cell? ⟨g, 2, none⟩ = some (.int .u64 b) := blk_cell BA1.out 2
  have hf := blk_frozen BA1.out 2
  clear hg HM hb
  go_wp2_with fail
  go_region_with (first | (go_at_call 14; refine (xxh_Round.calls b n1 r1 _ g1.out).mono ?_; rintro e w2 ⟨rfl, hd⟩; have BA2 := Aside0.mk (blk_below (blk_drew BA1.out) hd.below); have HM2 := Aside0.mk (Mine.below HM1.out.drew hd.below); clear hf hc BA1 HM1 hd; have hf := blk_frozen BA2.out 2; have hc : w2.cell? ⟨g, 2, none⟩ = some (.int .u64 b) := blk_cell BA2.out 2))
  go_wp2
  have BA3 := Aside0.mk (blk_put (cs' := stCells seed r0 r1 c d v n) BA2.out 2 (.int .u64 r1) rfl)
  have HM3 := Aside0.mk (Mine.set (i := 2) HM2.out (Or.inl rfl) (.int .u64 r1))
  generalize w2.setCell ⟨g, 2, none⟩ (.int .u64 r1) = w3 at *
  clear BA2 HM2 hc hf
  have hg := BA3
  have HM := HM3
  clear BA3 HM3
  rw [rounds_succ]
  go_wp2_with fail
  refine (vint_GetWord.calls k s 16 n2 x2 y2 _ h2.out).mono ?_
  rintro e w1 ⟨rfl, hb⟩
  have BA1 := Aside0.mk (blk_below hg.out hb)
  have HM1 := Aside0.mk (Mine.below HM.out hb)
  have hc : w1.cell? ⟨g, 3, none⟩ = some (.int .u64 c) := blk_cell BA1.out 3
  have hf := blk_frozen BA1.out 3
  clear hg HM hb
  go_wp2_with fail
  go_region_with (first | (go_at_call 14; refine (xxh_Round.calls c n2 r2 _ g2.out).mono ?_; rintro e w2 ⟨rfl, hd⟩; have BA2 := Aside0.mk (blk_below (blk_drew BA1.out) hd.below); have HM2 := Aside0.mk (Mine.below HM1.out.drew hd.below); clear hf hc BA1 HM1 hd; have hf := blk_frozen BA2.out 3; have hc : w2.cell? ⟨g, 3, none⟩ = some (.int .u64 c) := blk_cell BA2.out 3))
  go_wp2
  have BA3 := Aside0.mk (blk_put (cs' := stCells seed r0 r1 r2 d v n) BA2.out 3 (.int .u64 r2) rfl)
  have HM3 := Aside0.mk (Mine.set (i := 3) HM2.out (Or.inl rfl) (.int .u64 r2))
  generalize w2.setCell ⟨g, 3, none⟩ (.int .u64 r2) = w3 at *
  clear BA2 HM2 hc hf
  have hg := BA3
  have HM := HM3
  clear BA3 HM3
  rw [rounds_succ]
  go_wp2_with fail
  refine (vint_GetWord.calls k s 24 n3 x3 y3 _ h3.out).mono ?_
  rintro e w1 ⟨rfl, hb⟩
  have BA1 := Aside0.mk (blk_below hg.out hb)
  have HM1 := Aside0.mk (Mine.below HM.out hb)
  have hc : w1.cell? ⟨g, 4, none⟩ = some (.int .u64 d) := blk_cell BA1.out 4
  have hf := blk_frozen BA1.out 4
  clear hg HM hb
  go_wp2_with fail
  go_region_with (first | (go_at_call 14; refine (xxh_Round.calls d n3 r3 _ g3.out).mono ?_; rintro e w2 ⟨rfl, hd⟩; have BA2 := Aside0.mk (blk_below (blk_drew BA1.out) hd.below); have HM2 := Aside0.mk (Mine.below HM1.out.drew hd.below); clear hf hc BA1 HM1 hd; have hf := blk_frozen BA2.out 4; have hc : w2.cell? ⟨g, 4, none⟩ = some (.int .u64 d) := blk_cell BA2.out 4))
  go_wp2
  have BA3 := Aside0.mk (blk_put (cs' := stCells seed r0 r1 r2 r3 v n) BA2.out 4 (.int .u64 r3) rfl)
  have HM3 := Aside0.mk (Mine.set (i := 4) HM2.out (Or.inl rfl) (.int .u64 r3))
  generalize w2.setCell ⟨g, 4, none⟩ (.int .u64 r3) = w3 at *
  clear BA2 HM2 hc hf
  have hg := BA3
  have HM := HM3
  clear BA3 HM3
  rw [rounds_succ]
  go_wp2
  refine bodyPost_end (results_none rfl _ _ _) rfl ?_
  exact ⟨rfl, hg.out, HM.out⟩
end
end Go.Proofs.Ytckjigbhdndgdaa
