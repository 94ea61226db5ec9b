/- Written by this session's program wip/tools/giv.py over the seat's translation: Lean functions of the Go functions named below and the proofs that the calls come to them. Conditions: as each contract states. -/
import Derived.Test.YtckjigbhdndgdaaPXxhStepsx0
namespace Go.Proofs.Ytckjigbhdndgdaa.PXxhSteps
open Go.Proofs.Ytckjigbhdndgdaa.PBits
open Go.Proofs.Ytckjigbhdndgdaa.PRef
open Go.Proofs.Ytckjigbhdndgdaa.PXawk
open Go.RowKit Go.Proofs.YtckjigbhdndgdaaW.PrintWords Go.Proofs.YtckjigbhdndgdaaW.PrintLast Go.Proofs.YtckjigbhdndgdaaW.PrintMore
attribute [local go_sem] max2_mx min2_mn max_two min_two max_three min_three max_four min_four   -- for this text's walks alone
set_option linter.unusedVariables false
set_option linter.unusedSimpArgs false

-- given: function 11 (wringerlaw5_awake)

-- given: function 14 (xxh_Round)

-- given: function 16 (xxh_Mix)

/-! ### wringerlaw5_XxhSteps: function 5 -/
def wringerlaw5_XxhSteps.f (k : Nat) (a0 : Int) (a1 : Int) (a2 : Int) : Option (Bool) := (xxh_Mix.f a0).bind fun t101 => ((xxh_Mix.f a1).bind fun t102 => (if ((t101 == t102) == (a0 == a1)) = true then ((xxh_Round.f a2 a0).bind fun t103 => ((xxh_Round.f a2 a1).bind fun t104 => (if ((t103 == t104) == (a0 == a1)) = true then ((xxh_Round.f a0 a2).bind fun t105 => ((xxh_Round.f a1 a2).bind fun t106 => (if ((t105 == t106) == (a0 == a1)) = true then ((wringerlaw5_awake.f k).bind fun t107 => (some t107)) else (none)))) else (none)))) else (none)))
theorem wringerlaw5_XxhSteps.mono : ∀ a0 a1 a2 k, LeO (wringerlaw5_XxhSteps.f k a0 a1 a2) (wringerlaw5_XxhSteps.f (k + 1) a0 a1 a2) := by
  intro a0 a1 a2 k
  unfold wringerlaw5_XxhSteps.f
  repeat' first
      | (with_reducible exact wringerlaw5_awake.mono _)
      | (with_reducible exact LeO.refl _)
      | (with_reducible exact LeO.none _)
      | (with_reducible refine LeO.ite ?_ ?_)
      | (with_reducible refine LeO.bind ?_ (fun _ => ?_))
      | exact wringerlaw5_awake.mono _
      | exact LeO.none _
      | refine LeO.ite ?_ ?_
      | refine LeO.bind ?_ (fun _ => ?_)
set_option maxHeartbeats 8000000 in
set_option maxRecDepth 100000 in
theorem wringerlaw5_XxhSteps.calls (k : Nat) (a0 : Int) (a1 : Int) (a2 : Int) (r : Bool) (w : World) (h : wringerlaw5_XxhSteps.f k a0 a1 a2 = some r) :
    Calls Try.prog 5 #[.int .u64 a0, .int .u64 a1, .int .u64 a2] w fun e w' => e = .returned (.bool r) ∧ Below w.heap.size w w' := by
  have HB := Aside0.mk (Below.refl w.heap.size w)
  have H : ((xxh_Mix.f a0).bind fun t101 => ((xxh_Mix.f a1).bind fun t102 => (if ((t101 == t102) == (a0 == a1)) = true then ((xxh_Round.f a2 a0).bind fun t103 => ((xxh_Round.f a2 a1).bind fun t104 => (if ((t103 == t104) == (a0 == a1)) = true then ((xxh_Round.f a0 a2).bind fun t105 => ((xxh_Round.f a1 a2).bind fun t106 => (if ((t105 == t106) == (a0 == a1)) = true then ((wringerlaw5_awake.f k).bind fun t107 => (some t107)) else (none)))) else (none)))) else (none)))) = some r := h
  clear h
  replace H := Option.bind_eq_some_iff.mp H
  obtain ⟨t101, A40, H⟩ := H
  replace H : ((xxh_Mix.f a1).bind fun t102 => (if ((t101 == t102) == (a0 == a1)) = true then ((xxh_Round.f a2 a0).bind fun t103 => ((xxh_Round.f a2 a1).bind fun t104 => (if ((t103 == t104) == (a0 == a1)) = true then ((xxh_Round.f a0 a2).bind fun t105 => ((xxh_Round.f a1 a2).bind fun t106 => (if ((t105 == t106) == (a0 == a1)) = true then ((wringerlaw5_awake.f k).bind fun t107 => (some t107)) else (none)))) else (none)))) else (none))) = some r := H
  have A4 := Aside0.mk A40
  clear A40
  replace H := Option.bind_eq_some_iff.mp H
  obtain ⟨t102, A50, H⟩ := H
  replace H : (if ((t101 == t102) == (a0 == a1)) = true then ((xxh_Round.f a2 a0).bind fun t103 => ((xxh_Round.f a2 a1).bind fun t104 => (if ((t103 == t104) == (a0 == a1)) = true then ((xxh_Round.f a0 a2).bind fun t105 => ((xxh_Round.f a1 a2).bind fun t106 => (if ((t105 == t106) == (a0 == a1)) = true then ((wringerlaw5_awake.f k).bind fun t107 => (some t107)) else (none)))) else (none)))) else (none)) = some r := H
  have A5 := Aside0.mk A50
  clear A50
  by_cases c6 : ((t101 == t102) == (a0 == a1)) = true
  · rw [if_pos c6] at H
    have c6b0 : ((t101 == t102) == (a0 == a1)) = true := c6
    (try (have c6b1 : decide ((t101 == t102) = (a0 == a1)) = true := by simpa using c6))
    (try (have c6b2 : ((t101 == t102) == (a0 == a1)) = true := by simpa using c6))
    clear c6
    replace H := Option.bind_eq_some_iff.mp H
    obtain ⟨t103, A70, H⟩ := H
    replace H : ((xxh_Round.f a2 a1).bind fun t104 => (if ((t103 == t104) == (a0 == a1)) = true then ((xxh_Round.f a0 a2).bind fun t105 => ((xxh_Round.f a1 a2).bind fun t106 => (if ((t105 == t106) == (a0 == a1)) = true then ((wringerlaw5_awake.f k).bind fun t107 => (some t107)) else (none)))) else (none))) = some r := H
    have A7 := Aside0.mk A70
    clear A70
    replace H := Option.bind_eq_some_iff.mp H
    obtain ⟨t104, A80, H⟩ := H
    replace H : (if ((t103 == t104) == (a0 == a1)) = true then ((xxh_Round.f a0 a2).bind fun t105 => ((xxh_Round.f a1 a2).bind fun t106 => (if ((t105 == t106) == (a0 == a1)) = true then ((wringerlaw5_awake.f k).bind fun t107 => (some t107)) else (none)))) else (none)) = some r := H
    have A8 := Aside0.mk A80
    clear A80
    by_cases c9 : ((t103 == t104) == (a0 == a1)) = true
    · rw [if_pos c9] at H
      have c9b0 : ((t103 == t104) == (a0 == a1)) = true := c9
      (try (have c9b1 : decide ((t103 == t104) = (a0 == a1)) = true := by simpa using c9))
      (try (have c9b2 : ((t103 == t104) == (a0 == a1)) = true := by simpa using c9))
      clear c9
      replace H := Option.bind_eq_some_iff.mp H
      obtain ⟨t105, A100, H⟩ := H
      replace H : ((xxh_Round.f a1 a2).bind fun t106 => (if ((t105 == t106) == (a0 == a1)) = true then ((wringerlaw5_awake.f k).bind fun t107 => (some t107)) else (none))) = some r := H
      have A10 := Aside0.mk A100
      clear A100
      replace H := Option.bind_eq_some_iff.mp H
      obtain ⟨t106, A110, H⟩ := H
      replace H : (if ((t105 == t106) == (a0 == a1)) = true then ((wringerlaw5_awake.f k).bind fun t107 => (some t107)) else (none)) = some r := H
      have A11 := Aside0.mk A110
      clear A110
      by_cases c12 : ((t105 == t106) == (a0 == a1)) = true
      · rw [if_pos c12] at H
        have c12b0 : ((t105 == t106) == (a0 == a1)) = true := c12
        (try (have c12b1 : decide ((t105 == t106) = (a0 == a1)) = true := by simpa using c12))
        (try (have c12b2 : ((t105 == t106) == (a0 == a1)) = true := by simpa using c12))
        clear c12
        replace H := Option.bind_eq_some_iff.mp H
        obtain ⟨t107, A130, H⟩ := H
        replace H : (some t107) = some r := H
        have A13 := Aside0.mk A130
        clear A130
        obtain rfl := Option.some.inj H
        go_enter Try.func5, Try.ntmps5
        go_wp2_with (first | ((with_reducible refine gate_callee (f := 16) rfl ?_); refine goesL_ (some 8) rfl rfl Try.func16 (by kernel_rfl) rfl #[.int .u64 a0] rfl (by (try simp only [List.map_toArray, List.map_cons, List.map_nil]); first | done | rfl | (simp only [List.length_drop, List.length_take]; rfl)) ?_; (with_reducible refine (xxh_Mix.calls a0 t101 _ A4.out).mono ?_); rintro e w' ⟨rfl, ⟨nd, rfl⟩⟩; refine ⟨_, rfl, ?_⟩) | ((with_reducible refine gate_callee (f := 16) rfl ?_); refine goesL_ (some 10) rfl rfl Try.func16 (by kernel_rfl) rfl #[.int .u64 a1] rfl (by (try simp only [List.map_toArray, List.map_cons, List.map_nil]); first | done | rfl | (simp only [List.length_drop, List.length_take]; rfl)) ?_; (with_reducible refine (xxh_Mix.calls a1 t102 _ A5.out).mono ?_); rintro e w' ⟨rfl, ⟨nd, rfl⟩⟩; refine ⟨_, rfl, ?_⟩) | (go_at_call 14; (with_reducible refine (xxh_Round.calls a2 a0 t103 _ A7.out).mono ?_); rintro e w' ⟨rfl, ⟨nd, rfl⟩⟩) | (go_at_call 14; (with_reducible refine (xxh_Round.calls a2 a1 t104 _ A8.out).mono ?_); rintro e w' ⟨rfl, ⟨nd, rfl⟩⟩) | (go_at_call 14; (with_reducible refine (xxh_Round.calls a0 a2 t105 _ A10.out).mono ?_); rintro e w' ⟨rfl, ⟨nd, rfl⟩⟩) | (go_at_call 14; (with_reducible refine (xxh_Round.calls a1 a2 t106 _ A11.out).mono ?_); rintro e w' ⟨rfl, ⟨nd, rfl⟩⟩) | (go_at_call 11; (with_reducible refine (wringerlaw5_awake.calls k  t107 _ A13.out).mono ?_); rintro e w14 ⟨rfl, hb⟩; have n0_ := Aside0.mk (below_step (by repeat (first | (with_reducible first | exact HB.out | apply below_alloc | apply pw_below_drewN | apply below_drew1) | exact HB.out)) hb); clear HB; have HB := n0_; clear n0_; (try clear hb); (try clear hb2); (try clear hk); (try clear hi)))
        go_ret
        exact ⟨by first | rfl | (simp [errW_none, errW_some] <;> rfl) | (simp [*, errW_none, errW_some] <;> rfl), by repeat (first | (with_reducible first | exact HB.out | apply below_alloc | apply pw_below_drewN | apply below_drew1) | exact HB.out)⟩
      · rw [if_neg c12] at H
        exact absurd H (by simp)
    · rw [if_neg c9] at H
      exact absurd H (by simp)
  · rw [if_neg c6] at H
    exact absurd H (by simp)

/-- THE ONE PURE STATEMENT of wringerlaw5_XxhSteps: yours. -/
def wringerlaw5_XxhSteps.Pure : Prop := ∀ (a0 : Int) (a1 : Int) (a2 : Int), (Lit.int .u64 a0).wf = true → (Lit.int .u64 a1).wf = true → (Lit.int .u64 a2).wf = true → ∃ k, wringerlaw5_XxhSteps.f k a0 a1 a2 = some true
theorem wringerlaw5_XxhSteps.walk (P : wringerlaw5_XxhSteps.Pure) (a0 : Int) (a1 : Int) (a2 : Int) (w : World) (w0 : (Lit.int .u64 a0).wf = true) (w1 : (Lit.int .u64 a1).wf = true) (w2 : (Lit.int .u64 a2).wf = true) :
    Calls Try.prog 5 #[.int .u64 a0, .int .u64 a1, .int .u64 a2] w fun e w' => e = .returned (.bool true) ∧ Below w.heap.size w w' := by
  obtain ⟨k, h⟩ := P a0 a1 a2 w0 w1 w2
  refine (wringerlaw5_XxhSteps.calls k a0 a1 a2 true w h).mono ?_
  rintro e w' ⟨rfl, hd⟩
  exact ⟨rfl, hd⟩

end Go.Proofs.Ytckjigbhdndgdaa.PXxhSteps
