/- The state's objects in the laws: New, and the law of the example. Conditions: as each contract states. -/
import Derived.Test.YtckjigbhdndgdaaGSsum
import Derived.Test.YtckjigbhdndgdaaPRefx2
namespace Go.Proofs.Ytckjigbhdndgdaa
set_option linter.unusedVariables false
open Go.RowKit Go.Proofs.YtckjigbhdndgdaaW.PrintWords Go.Proofs.YtckjigbhdndgdaaW.PrintLast Go.Proofs.YtckjigbhdndgdaaW.PrintMore Go.Proofs.Ytckjigbhdndgdaa.PBits Go.Proofs.Ytckjigbhdndgdaa.PReader Go.Proofs.Ytckjigbhdndgdaa.PRef
theorem state_New.of (seed : Nat) (w : World) :
    Calls Try.prog 18 #[.int .u64 (seed : Int)] w fun e w' => e = .returned (.pointer (some ⟨w.heap.size, 0, none⟩)) ∧ (∀ B, StAt w' B w.heap.size seed ByteArray.empty 0 (.slice none 0 0)) ∧ Below w.heap.size w w' ∧ w.heap.size < w'.heap.size := by
  refine (state_New.calls (seed : Int) w).mono ?_
  rintro e w' ⟨rfl, hb, hl⟩
  refine ⟨rfl, fun B => ⟨?_, ?_, by simp [Value.ownBlock]⟩, hl, blk_lt hb⟩
  · rw [lanT_empty]
    rw [sub_val, show (11400714785074694791 : Int) = ((11400714785074694791 : Nat) : Int) from rfl, add_val, show (14029467366897019727 : Int) = ((14029467366897019727 : Nat) : Int) from rfl, add_val, add_val] at hb
    exact hb
  · rw [resT_small _ (by decide)]
    exact World.ownsRow_nil _ _ _ _
theorem StAt.below {w w' : World} {B g seed : Nat} {T : ByteArray} {n : Int} {v : Value} (h : StAt w B g seed T n v) (hb : Below w.heap.size w w') : StAt w' B g seed T n v :=
  ⟨blk_below h.blk hb, own_mine h.own (Mine.of_below (fun _ => False) hb) (fun _ _ h => h), h.far⟩
theorem sum_none : sumN 0 ByteArray.empty = 17241709254077376921 := by decide +kernel
set_option maxHeartbeats 4000000 in
set_option maxRecDepth 100000 in
theorem wringerlaw6_awake.calls (w : World) : Calls Try.prog 19 #[] w fun e w' => e = .returned (.bool true) ∧ Below w.heap.size w w' := by
  go_enter Try.func19, Try.ntmps19
  go_wp2_with fail
  refine (state_New.of 0 _).mono ?_
  rintro e w1 ⟨rfl, hS, hb, hlt⟩
  have HS := Aside0.mk (hS 0)
  have HB := Aside0.mk hb
  clear hS hb hlt
  go_wp2_with fail
  refine (state_Sum.calls 0 (by decide) ByteArray.empty (by decide) _ 0 _ _ HS.out).mono ?_
  rintro e w2 ⟨rfl, hb⟩
  have HS2 := Aside0.mk (HS.out.below hb)
  have HB2 := Aside0.mk (below_step HB.out hb)
  clear HS HB hb
  rw [sum_none]
  go_wp2_with fail
  refine (state_Len.calls 0 ByteArray.empty _ 0 _ _ ⟨HS2.out⟩).mono ?_
  rintro e w3 ⟨rfl, hb⟩
  have HB3 := Aside0.mk (below_step HB2.out hb)
  clear HS2 HB2 hb
  go_wp2
  go_ret
  exact ⟨rfl, HB3.out⟩
end Go.Proofs.Ytckjigbhdndgdaa
