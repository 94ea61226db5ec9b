/- Written by this session's program wip/tools/giv.py over the seat's translation: Lean functions of the Go functions named below and the proofs that the calls come to them. Conditions: as each contract states. -/
import Derived.Test.YtckjigbhdndgdaaPXawkx0
namespace Go.Proofs.Ytckjigbhdndgdaa.PXawk
open Go.RowKit Go.Proofs.YtckjigbhdndgdaaW.PrintWords Go.Proofs.YtckjigbhdndgdaaW.PrintLast Go.Proofs.YtckjigbhdndgdaaW.PrintMore
attribute [local go_sem] max2_mx min2_mn max_two min_two max_three min_three max_four min_four   -- for this text's walks alone
set_option linter.unusedVariables false
set_option linter.unusedSimpArgs false

-- given: function 12 (xxh_Sum)

/-! ### wringerlaw5_awake: function 11 -/
def wringerlaw5_awake.f (k : Nat)  : Option (Bool) := (xxh_Sum.f k 0 (⟨#[]⟩ : ByteArray)).bind fun t101 => (some (t101 == 17241709254077376921))
theorem wringerlaw5_awake.mono : ∀ k, LeO (wringerlaw5_awake.f k ) (wringerlaw5_awake.f (k + 1) ) := by
  intro  k
  unfold wringerlaw5_awake.f
  repeat' first
      | (with_reducible exact xxh_Sum.mono _ _ _)
      | (with_reducible exact LeO.refl _)
      | (with_reducible exact LeO.none _)
      | (with_reducible refine LeO.ite ?_ ?_)
      | (with_reducible refine LeO.bind ?_ (fun _ => ?_))
      | exact xxh_Sum.mono _ _ _
      | exact LeO.none _
      | refine LeO.ite ?_ ?_
      | refine LeO.bind ?_ (fun _ => ?_)
set_option maxHeartbeats 8000000 in
set_option maxRecDepth 100000 in
theorem wringerlaw5_awake.calls (k : Nat)  (r : Bool) (w : World) (h : wringerlaw5_awake.f k  = some r) :
    Calls Try.prog 11 #[] w fun e w' => e = .returned (.bool r) ∧ Below w.heap.size w w' := by
  have HB := Aside0.mk (Below.refl w.heap.size w)
  have H : ((xxh_Sum.f k 0 (⟨#[]⟩ : ByteArray)).bind fun t101 => (some (t101 == 17241709254077376921))) = some r := h
  clear h
  replace H := Option.bind_eq_some_iff.mp H
  obtain ⟨t101, A10, H⟩ := H
  replace H : (some (t101 == 17241709254077376921)) = some r := H
  have A1 := Aside0.mk A10
  clear A10
  obtain rfl := Option.some.inj H
  go_enter Try.func11, Try.ntmps11
  go_wp2_with (first | ((with_reducible refine gate_callee (f := 12) rfl ?_); refine goesL_ (some 1) rfl rfl Try.func12 (by kernel_rfl) rfl #[.int .u64 0, .string (⟨#[]⟩ : ByteArray)] rfl (by (try simp only [List.map_toArray, List.map_cons, List.map_nil]); first | done | rfl | (simp only [List.length_drop, List.length_take]; rfl)) ?_; (with_reducible refine (xxh_Sum.calls k 0 (⟨#[]⟩ : ByteArray) t101 _ A1.out).mono ?_); rintro e w2 ⟨rfl, hb⟩; refine ⟨_, rfl, ?_⟩; have n0_ := Aside0.mk (below_step (by repeat (first | (with_reducible first | exact HB.out | apply below_alloc | apply pw_below_drewN | apply below_drew1) | exact HB.out)) hb); clear HB; have HB := n0_; clear n0_; (try clear hb); (try clear hb2); (try clear hk); (try clear hi)))
  go_ret
  exact ⟨by first | rfl | (simp [errW_none, errW_some] <;> rfl) | (simp [*, errW_none, errW_some] <;> rfl), by repeat (first | (with_reducible first | exact HB.out | apply below_alloc | apply pw_below_drewN | apply below_drew1) | exact HB.out)⟩

end Go.Proofs.Ytckjigbhdndgdaa.PXawk
