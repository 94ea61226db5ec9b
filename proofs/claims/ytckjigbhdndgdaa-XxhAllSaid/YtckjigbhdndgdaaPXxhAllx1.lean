/- Written by this session's program wip/tools/giv.py over the seat's translation: Lean functions of the Go functions named below and the proofs that the calls come to them. Conditions: as each contract states. -/
import Derived.Test.YtckjigbhdndgdaaPXxhAllx0
namespace Go.Proofs.Ytckjigbhdndgdaa.PXxhAll
open Go.Proofs.Ytckjigbhdndgdaa.PBits
open Go.Proofs.Ytckjigbhdndgdaa.PRef
open Go.Proofs.Ytckjigbhdndgdaa.PXawk
open Go.RowKit Go.Proofs.YtckjigbhdndgdaaW.PrintWords Go.Proofs.YtckjigbhdndgdaaW.PrintLast Go.Proofs.YtckjigbhdndgdaaW.PrintMore
attribute [local go_sem] max2_mx min2_mn max_two min_two max_three min_three max_four min_four   -- for this text's walks alone
set_option linter.unusedVariables false
set_option linter.unusedSimpArgs false

-- given: function 11 (wringerlaw5_awake)

-- given: function 12 (xxh_Sum)

-- given: function 13 (wringerref1_Sum)

-- given: function 14 (xxh_Round)

-- given: function 15 (wringerref1_Round)

-- given: function 16 (xxh_Mix)

-- given: function 17 (wringerref1_Mix)

/-! ### wringerlaw5_XxhAll: function 3 -/
def wringerlaw5_XxhAll.f (k : Nat) (a0 : Int) (a1 : ByteArray) (a2 : Int) (a3 : Int) : Option (Bool) := if (a1.size : Int) > 2000 then ((wringerlaw5_awake.f k).bind fun t101 => (some t101)) else ((xxh_Sum.f k a0 a1).bind fun t102 => ((wringerref1_Sum.f k a0 a1).bind fun t103 => (if t102 = t103 then ((xxh_Round.f a2 a3).bind fun t104 => ((wringerref1_Round.f a2 a3).bind fun t105 => (if t104 = t105 then ((xxh_Mix.f a2).bind fun t106 => ((wringerref1_Mix.f a2).bind fun t107 => (if t106 = t107 then ((wringerlaw5_awake.f k).bind fun t108 => (some t108)) else (none)))) else (none)))) else (none))))
theorem wringerlaw5_XxhAll.mono : ∀ a0 a1 a2 a3 k, LeO (wringerlaw5_XxhAll.f k a0 a1 a2 a3) (wringerlaw5_XxhAll.f (k + 1) a0 a1 a2 a3) := by
  intro a0 a1 a2 a3 k
  unfold wringerlaw5_XxhAll.f
  repeat' first
      | (with_reducible exact wringerlaw5_awake.mono _)
      | (with_reducible exact wringerref1_Sum.mono _ _ _)
      | (with_reducible exact xxh_Sum.mono _ _ _)
      | (with_reducible exact LeO.refl _)
      | (with_reducible exact LeO.none _)
      | (with_reducible refine LeO.ite ?_ ?_)
      | (with_reducible refine LeO.bind ?_ (fun _ => ?_))
      | exact wringerlaw5_awake.mono _
      | exact wringerref1_Sum.mono _ _ _
      | exact xxh_Sum.mono _ _ _
      | exact LeO.none _
      | refine LeO.ite ?_ ?_
      | refine LeO.bind ?_ (fun _ => ?_)
set_option maxHeartbeats 8000000 in
set_option maxRecDepth 100000 in
theorem wringerlaw5_XxhAll.calls (k : Nat) (a0 : Int) (a1 : ByteArray) (a2 : Int) (a3 : Int) (r : Bool) (w : World) (h : wringerlaw5_XxhAll.f k a0 a1 a2 a3 = some r) :
    Calls Try.prog 3 #[.int .u64 a0, .string a1, .int .u64 a2, .int .u64 a3] w fun e w' => e = .returned (.bool r) ∧ Below w.heap.size w w' := by
  have HB := Aside0.mk (Below.refl w.heap.size w)
  have H : (if (a1.size : Int) > 2000 then ((wringerlaw5_awake.f k).bind fun t101 => (some t101)) else ((xxh_Sum.f k a0 a1).bind fun t102 => ((wringerref1_Sum.f k a0 a1).bind fun t103 => (if t102 = t103 then ((xxh_Round.f a2 a3).bind fun t104 => ((wringerref1_Round.f a2 a3).bind fun t105 => (if t104 = t105 then ((xxh_Mix.f a2).bind fun t106 => ((wringerref1_Mix.f a2).bind fun t107 => (if t106 = t107 then ((wringerlaw5_awake.f k).bind fun t108 => (some t108)) else (none)))) else (none)))) else (none))))) = some r := h
  clear h
  by_cases c5 : (a1.size : Int) > 2000
  · rw [if_pos c5] at H
    have c5b0 : decide (2000 < (a1.size : Int)) = true := decide_eq_true c5
    have c5b1 : decide (2000 < a1.size) = true := decide_eq_true (by omega)
    clear c5
    replace H := Option.bind_eq_some_iff.mp H
    obtain ⟨t101, A60, H⟩ := H
    replace H : (some t101) = some r := H
    have A6 := Aside0.mk A60
    clear A60
    obtain rfl := Option.some.inj H
    go_enter Try.func3, Try.ntmps3
    go_wp2_with (first | ((with_reducible refine gate_callee (f := 11) rfl ?_); refine goesL_ (some 12) rfl rfl Try.func11 (by kernel_rfl) rfl #[] rfl (by (try simp only [List.map_toArray, List.map_cons, List.map_nil]); first | done | rfl | (simp only [List.length_drop, List.length_take]; rfl)) ?_; (with_reducible refine (wringerlaw5_awake.calls k  t101 _ A6.out).mono ?_); rintro e w7 ⟨rfl, hb⟩; refine ⟨_, rfl, ?_⟩; have n0_ := Aside0.mk (below_step (by repeat (first | (with_reducible first | exact HB.out | apply below_alloc | apply pw_below_drewN | apply below_drew1) | exact HB.out)) hb); clear HB; have HB := n0_; clear n0_; (try clear hb); (try clear hb2); (try clear hk); (try clear hi)))
    go_ret
    exact ⟨by first | rfl | (simp [errW_none, errW_some] <;> rfl) | (simp [*, errW_none, errW_some] <;> rfl), by repeat (first | (with_reducible first | exact HB.out | apply below_alloc | apply pw_below_drewN | apply below_drew1) | exact HB.out)⟩
  · rw [if_neg c5] at H
    have c5b0 : decide (2000 < (a1.size : Int)) = false := decide_eq_false c5
    have c5b1 : decide (2000 < a1.size) = false := decide_eq_false (by omega)
    clear c5
    replace H := Option.bind_eq_some_iff.mp H
    obtain ⟨t102, A80, H⟩ := H
    replace H : ((wringerref1_Sum.f k a0 a1).bind fun t103 => (if t102 = t103 then ((xxh_Round.f a2 a3).bind fun t104 => ((wringerref1_Round.f a2 a3).bind fun t105 => (if t104 = t105 then ((xxh_Mix.f a2).bind fun t106 => ((wringerref1_Mix.f a2).bind fun t107 => (if t106 = t107 then ((wringerlaw5_awake.f k).bind fun t108 => (some t108)) else (none)))) else (none)))) else (none))) = some r := H
    have A8 := Aside0.mk A80
    clear A80
    replace H := Option.bind_eq_some_iff.mp H
    obtain ⟨t103, A90, H⟩ := H
    replace H : (if t102 = t103 then ((xxh_Round.f a2 a3).bind fun t104 => ((wringerref1_Round.f a2 a3).bind fun t105 => (if t104 = t105 then ((xxh_Mix.f a2).bind fun t106 => ((wringerref1_Mix.f a2).bind fun t107 => (if t106 = t107 then ((wringerlaw5_awake.f k).bind fun t108 => (some t108)) else (none)))) else (none)))) else (none)) = some r := H
    have A9 := Aside0.mk A90
    clear A90
    by_cases c10 : t102 = t103
    · rw [if_pos c10] at H
      have c10b0 : (t102 == t103) = true := beq_iff_eq.mpr c10
      have c10b1 : (t102 != t103) = false := bne_eq_false_iff_eq.mpr c10
      clear c10
      replace H := Option.bind_eq_some_iff.mp H
      obtain ⟨t104, A110, H⟩ := H
      replace H : ((wringerref1_Round.f a2 a3).bind fun t105 => (if t104 = t105 then ((xxh_Mix.f a2).bind fun t106 => ((wringerref1_Mix.f a2).bind fun t107 => (if t106 = t107 then ((wringerlaw5_awake.f k).bind fun t108 => (some t108)) else (none)))) else (none))) = some r := H
      have A11 := Aside0.mk A110
      clear A110
      replace H := Option.bind_eq_some_iff.mp H
      obtain ⟨t105, A120, H⟩ := H
      replace H : (if t104 = t105 then ((xxh_Mix.f a2).bind fun t106 => ((wringerref1_Mix.f a2).bind fun t107 => (if t106 = t107 then ((wringerlaw5_awake.f k).bind fun t108 => (some t108)) else (none)))) else (none)) = some r := H
      have A12 := Aside0.mk A120
      clear A120
      by_cases c13 : t104 = t105
      · rw [if_pos c13] at H
        have c13b0 : (t104 == t105) = true := beq_iff_eq.mpr c13
        have c13b1 : (t104 != t105) = false := bne_eq_false_iff_eq.mpr c13
        clear c13
        replace H := Option.bind_eq_some_iff.mp H
        obtain ⟨t106, A140, H⟩ := H
        replace H : ((wringerref1_Mix.f a2).bind fun t107 => (if t106 = t107 then ((wringerlaw5_awake.f k).bind fun t108 => (some t108)) else (none))) = some r := H
        have A14 := Aside0.mk A140
        clear A140
        replace H := Option.bind_eq_some_iff.mp H
        obtain ⟨t107, A150, H⟩ := H
        replace H : (if t106 = t107 then ((wringerlaw5_awake.f k).bind fun t108 => (some t108)) else (none)) = some r := H
        have A15 := Aside0.mk A150
        clear A150
        by_cases c16 : t106 = t107
        · rw [if_pos c16] at H
          have c16b0 : (t106 == t107) = true := beq_iff_eq.mpr c16
          have c16b1 : (t106 != t107) = false := bne_eq_false_iff_eq.mpr c16
          clear c16
          replace H := Option.bind_eq_some_iff.mp H
          obtain ⟨t108, A170, H⟩ := H
          replace H : (some t108) = some r := H
          have A17 := Aside0.mk A170
          clear A170
          obtain rfl := Option.some.inj H
          go_enter Try.func3, Try.ntmps3
          go_wp2_with (first | ((with_reducible refine gate_callee (f := 12) rfl ?_); refine goesL_ (some 15) rfl rfl Try.func12 (by kernel_rfl) rfl #[.int .u64 a0, .string a1] rfl (by (try simp only [List.map_toArray, List.map_cons, List.map_nil]); first | done | rfl | (simp only [List.length_drop, List.length_take]; rfl)) ?_; (with_reducible refine (xxh_Sum.calls k a0 a1 t102 _ A8.out).mono ?_); rintro e w18 ⟨rfl, hb⟩; refine ⟨_, rfl, ?_⟩; have n0_ := Aside0.mk (below_step (by repeat (first | (with_reducible first | exact HB.out | apply below_alloc | apply pw_below_drewN | apply below_drew1) | exact HB.out)) hb); clear HB; have HB := n0_; clear n0_; (try clear hb); (try clear hb2); (try clear hk); (try clear hi)) | ((with_reducible refine gate_callee (f := 13) rfl ?_); refine goesL_ (some 18) rfl rfl Try.func13 (by kernel_rfl) rfl #[.int .u64 a0, .string a1] rfl (by (try simp only [List.map_toArray, List.map_cons, List.map_nil]); first | done | rfl | (simp only [List.length_drop, List.length_take]; rfl)) ?_; (with_reducible refine (wringerref1_Sum.calls k a0 a1 t103 _ A9.out).mono ?_); rintro e w19 ⟨rfl, hb⟩; refine ⟨_, rfl, ?_⟩; have n0_ := Aside0.mk (below_step (by repeat (first | (with_reducible first | exact HB.out | apply below_alloc | apply pw_below_drewN | apply below_drew1) | exact HB.out)) hb); clear HB; have HB := n0_; clear n0_; (try clear hb); (try clear hb2); (try clear hk); (try clear hi)) | (go_at_call 14; (with_reducible refine (xxh_Round.calls a2 a3 t104 _ A11.out).mono ?_); rintro e w' ⟨rfl, ⟨nd, rfl⟩⟩) | (go_at_call 15; (with_reducible refine (wringerref1_Round.calls a2 a3 t105 _ A12.out).mono ?_); rintro e w' ⟨rfl, ⟨nd, rfl⟩⟩) | (go_at_call 16; (with_reducible refine (xxh_Mix.calls a2 t106 _ A14.out).mono ?_); rintro e w' ⟨rfl, ⟨nd, rfl⟩⟩) | (go_at_call 17; (with_reducible refine (wringerref1_Mix.calls a2 t107 _ A15.out).mono ?_); rintro e w' ⟨rfl, ⟨nd, rfl⟩⟩) | (go_at_call 11; (with_reducible refine (wringerlaw5_awake.calls k  t108 _ A17.out).mono ?_); rintro e w20 ⟨rfl, hb⟩; have n0_ := Aside0.mk (below_step (by repeat (first | (with_reducible first | exact HB.out | apply below_alloc | apply pw_below_drewN | apply below_drew1) | exact HB.out)) hb); clear HB; have HB := n0_; clear n0_; (try clear hb); (try clear hb2); (try clear hk); (try clear hi)))
          go_ret
          exact ⟨by first | rfl | (simp [errW_none, errW_some] <;> rfl) | (simp [*, errW_none, errW_some] <;> rfl), by repeat (first | (with_reducible first | exact HB.out | apply below_alloc | apply pw_below_drewN | apply below_drew1) | exact HB.out)⟩
        · rw [if_neg c16] at H
          exact absurd H (by simp)
      · rw [if_neg c13] at H
        exact absurd H (by simp)
    · rw [if_neg c10] at H
      exact absurd H (by simp)

/-- THE ONE PURE STATEMENT of wringerlaw5_XxhAll: yours. -/
def wringerlaw5_XxhAll.Pure : Prop := ∀ (a0 : Int) (a1 : ByteArray) (a2 : Int) (a3 : Int), (Lit.int .u64 a0).wf = true → a1.size ≤ 140737488351232 → (Lit.int .u64 a2).wf = true → (Lit.int .u64 a3).wf = true → ∃ k, wringerlaw5_XxhAll.f k a0 a1 a2 a3 = some true
theorem wringerlaw5_XxhAll.walk (P : wringerlaw5_XxhAll.Pure) (a0 : Int) (a1 : ByteArray) (a2 : Int) (a3 : Int) (w : World) (w0 : (Lit.int .u64 a0).wf = true) (w1 : a1.size ≤ 140737488351232) (w2 : (Lit.int .u64 a2).wf = true) (w3 : (Lit.int .u64 a3).wf = true) :
    Calls Try.prog 3 #[.int .u64 a0, .string a1, .int .u64 a2, .int .u64 a3] w fun e w' => e = .returned (.bool true) ∧ Below w.heap.size w w' := by
  obtain ⟨k, h⟩ := P a0 a1 a2 a3 w0 w1 w2 w3
  refine (wringerlaw5_XxhAll.calls k a0 a1 a2 a3 true w h).mono ?_
  rintro e w' ⟨rfl, hd⟩
  exact ⟨rfl, hd⟩

end Go.Proofs.Ytckjigbhdndgdaa.PXxhAll
