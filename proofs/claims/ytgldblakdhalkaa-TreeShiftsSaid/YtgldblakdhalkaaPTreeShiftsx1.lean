/- Written by this session's program wip/tools/giv.py over the seat's translation: Lean functions of the Go functions named below and the proofs that the calls come to them. Conditions: as each contract states. -/
import Derived.Test.YtgldblakdhalkaaPTreeShiftsx0
namespace Go.Proofs.Ytgldblakdhalkaa.PTreeShifts
open Go.Proofs.Ytgldblakdhalkaa.PBase
open Go.RowKit Go.Proofs.YtgldblakdhalkaaW.PrintWords Go.Proofs.YtgldblakdhalkaaW.PrintLast Go.Proofs.YtgldblakdhalkaaW.PrintMore
attribute [local go_sem] max2_mx min2_mn max_two min_two max_three min_three max_four min_four   -- for this text's walks alone
set_option linter.unusedVariables false
set_option linter.unusedSimpArgs false

-- given: function 14 (tree_Put)

-- given: function 15 (tree_Get)

-- given: function 17 (wringerlaw1_Err)

-- given: function 18 (wringerlaw16_awake)

-- given: function 19 (wringerlaw16_Classes)

-- given: function 20 (wringerref7_SameInts)

/-! ### wringerlaw16_TreeShifts: function 4 -/
def wringerlaw16_TreeShifts.l0 : Nat → List Int → Int → Option (Bool)
  | 0, _, _ => none
  | k + 1, x3, x4 => if x4 ≤ 7 then ((tree_Put.f x3 x4).bind fun bt105 => ((tree_Get.f bt105.1 (x3.length : Int) x4).bind fun bt107 => ((tree_Get.f bt105.1 (wrap64 ((x3.length : Int) / 2)) x4).bind fun bt111 => ((wringerlaw1_Err.f bt105.2).bind fun t115 => ((wringerlaw1_Err.f bt107.2).bind fun t116 => (if (wrap64 (t115 + t116)) = 0 then ((wringerref7_SameInts.f k bt107.1 x3).bind fun t117 => (if t117 = true then ((wringerlaw1_Err.f bt111.2).bind fun t118 => (if t118 = 0 then (if 0 ≤ (wrap64 ((x3.length : Int) / 2)) then (if (wrap64 ((x3.length : Int) / 2)) ≤ (x3.length : Int) then ((wringerref7_SameInts.f k bt111.1 (x3.take ((wrap64 ((x3.length : Int) / 2)) : Int).toNat)).bind fun t123 => (if t123 = true then (wringerlaw16_TreeShifts.l0 k x3 (wrap64 (x4 + 1))) else (none))) else (none)) else (none)) else (wringerlaw16_TreeShifts.l0 k x3 (wrap64 (x4 + 1))))) else (none))) else (none))))))) else ((wringerlaw16_awake.f k).bind fun t104 => (some t104))
def wringerlaw16_TreeShifts.f (k : Nat) (l0 : List Int) : Option (Bool) := (wringerlaw16_Classes.f k l0).bind fun t101 => (wringerlaw16_TreeShifts.l0 k t101 4)
theorem wringerlaw16_TreeShifts.mono_l : ∀ k, (∀ y0 y1, LeO (wringerlaw16_TreeShifts.l0 k y0 y1) (wringerlaw16_TreeShifts.l0 (k + 1) y0 y1))
  | 0 => fun _ _ r h => by simp [wringerlaw16_TreeShifts.l0] at h
  | k + 1 => by
    have ih0 := wringerlaw16_TreeShifts.mono_l k
    · intro y0 y1
      unfold wringerlaw16_TreeShifts.l0
      repeat' first
      | (with_reducible exact ih0 _ _)
      | (with_reducible exact wringerlaw16_Classes.mono _ _)
      | (with_reducible exact wringerlaw16_awake.mono _)
      | (with_reducible exact wringerref7_SameInts.mono _ _ _)
      | (with_reducible exact LeO.refl _)
      | (with_reducible exact LeO.none _)
      | (with_reducible refine LeO.ite ?_ ?_)
      | (with_reducible refine LeO.bind ?_ (fun _ => ?_))
      | exact ih0 _ _
      | exact wringerlaw16_Classes.mono _ _
      | exact wringerlaw16_awake.mono _
      | exact wringerref7_SameInts.mono _ _ _
      | exact LeO.none _
      | refine LeO.ite ?_ ?_
      | refine LeO.bind ?_ (fun _ => ?_)
theorem wringerlaw16_TreeShifts.mono : ∀ a0 k, LeO (wringerlaw16_TreeShifts.f k a0) (wringerlaw16_TreeShifts.f (k + 1) a0) := by
  intro a0 k
  have ih0 := wringerlaw16_TreeShifts.mono_l k
  unfold wringerlaw16_TreeShifts.f
  repeat' first
      | (with_reducible exact ih0 _ _)
      | (with_reducible exact wringerlaw16_Classes.mono _ _)
      | (with_reducible exact wringerlaw16_awake.mono _)
      | (with_reducible exact wringerref7_SameInts.mono _ _ _)
      | (with_reducible exact LeO.refl _)
      | (with_reducible exact LeO.none _)
      | (with_reducible refine LeO.ite ?_ ?_)
      | (with_reducible refine LeO.bind ?_ (fun _ => ?_))
      | exact ih0 _ _
      | exact wringerlaw16_Classes.mono _ _
      | exact wringerlaw16_awake.mono _
      | exact wringerref7_SameInts.mono _ _ _
      | exact LeO.none _
      | refine LeO.ite ?_ ?_
      | refine LeO.bind ?_ (fun _ => ?_)
set_option maxHeartbeats 8000000 in
set_option maxRecDepth 100000 in
theorem wringerlaw16_TreeShifts.calls (k : Nat) (A0 : Option Addr) (c0 : Nat) (l0 : List Int) (r : Bool) (w : World) (hr0 : Kd.C (Kd.int .u8) w A0 l0.length l0) (hc0 : l0.length ≤ c0) (h : wringerlaw16_TreeShifts.f k l0 = some r) :
    Calls Try.prog 4 #[.slice A0 l0.length c0] w fun e w' => e = .returned (.bool r) ∧ Below w.heap.size w w' := by
  have HR0 := Aside0.mk hr0
  have HC0 := Aside0.mk hc0
  clear hr0 hc0
  have HB := Aside0.mk (Below.refl w.heap.size w)
  have H : ((wringerlaw16_Classes.f k l0).bind fun t101 => (wringerlaw16_TreeShifts.l0 k t101 4)) = some r := h
  clear h
  replace H := Option.bind_eq_some_iff.mp H
  obtain ⟨t101, A20, H⟩ := H
  replace H : (wringerlaw16_TreeShifts.l0 k t101 4) = some r := H
  have A2 := Aside0.mk A20
  clear A20
  have H' := Aside0.mk H
  clear H
  go_enter Try.func4, Try.ntmps4
  go_wp2_with (first | ((with_reducible refine gate_callee (f := 19) rfl ?_); refine goesL_ (some 12) rfl rfl Try.func19 (by kernel_rfl) rfl #[.slice A0 l0.length c0] rfl (by (try simp only [List.map_toArray, List.map_cons, List.map_nil]); first | done | rfl | (simp only [List.length_drop, List.length_take]; rfl)) ?_; (with_reducible refine (wringerlaw16_Classes.calls k _ _ l0 t101 _ ?side1 ?side2 A2.out).mono ?_); (case side1 => repeat (first | exact HR0.out | (with_reducible refine Kd.C_alloc ?_ _) | (with_reducible refine Kd.C_drewN ?_ _) | (with_reducible refine Kd.C_drew ?_))); (case side2 => exact HC0.out); rintro e w3 ⟨v102, rfl, ho0, hb⟩; refine ⟨_, rfl, ?_⟩; have n0_ := Aside0.mk (Kd.R_lower ho0 (below_size (by repeat (first | (with_reducible first | exact HB.out | apply below_alloc | apply pw_below_drewN | apply below_drew1) | exact HB.out)))); have n1_ := Aside0.mk (below_step (by repeat (first | (with_reducible first | exact HB.out | apply below_alloc | apply pw_below_drewN | apply below_drew1) | exact HB.out)) hb); clear HB; have HO103 := n0_; have HB := n1_; clear n0_ n1_; (try clear hb); (try clear hb2); (try clear hk); (try clear hi); (try clear ho0)))
  go_loopg [4] k (fun kq v4 w' => ∃ (x4_1 : Int), v4 = .int .i64 x4_1 ∧ Aside0 (wringerlaw16_TreeShifts.l0 kq t101 x4_1 = some r) ∧ Aside0 (kq ≤ k) ∧ Aside0 (Kd.R (Kd.int .i64) 3 w' w.heap.size (fun _ => True) v102 t101) ∧ Aside0 (Below w.heap.size w w'))
  case atStart => exact ⟨(4), (by first | rfl | (simp; done) | (simp [*]; done)), H', ⟨Nat.le_refl _⟩, ⟨by (with_reducible repeat (first | apply Kd.R_alloc | apply Kd.R_drewN | apply Kd.R_drew)); exact HO103.out⟩, ⟨by repeat (first | (with_reducible first | exact HB.out | apply below_alloc | apply pw_below_drewN | apply below_drew1) | exact HB.out)⟩⟩
  case round =>
    clear H'
    try clear c1
    try clear p2
    obtain ⟨x4_1, rfl, HA, HK1, HO_3, HB⟩ := hrel
    cases gk with
    | zero => exact absurd HA.out (by simp [wringerlaw16_TreeShifts.l0])
    | succ k1 =>
      have H := HA.out
      clear HA
      simp only [wringerlaw16_TreeShifts.l0] at H
      by_cases c4 : x4_1 ≤ 7
      · rw [if_pos c4] at H
        have c4b0 : decide (x4_1 ≤ 7) = true := decide_eq_true c4
        clear c4
        replace H := Option.bind_eq_some_iff.mp H
        obtain ⟨⟨t105, t106⟩, A50, H⟩ := H
        replace H : ((tree_Get.f t105 (t101.length : Int) x4_1).bind fun bt107 => ((tree_Get.f t105 (wrap64 ((t101.length : Int) / 2)) x4_1).bind fun bt111 => ((wringerlaw1_Err.f t106).bind fun t115 => ((wringerlaw1_Err.f bt107.2).bind fun t116 => (if (wrap64 (t115 + t116)) = 0 then ((wringerref7_SameInts.f k1 bt107.1 t101).bind fun t117 => (if t117 = true then ((wringerlaw1_Err.f bt111.2).bind fun t118 => (if t118 = 0 then (if 0 ≤ (wrap64 ((t101.length : Int) / 2)) then (if (wrap64 ((t101.length : Int) / 2)) ≤ (t101.length : Int) then ((wringerref7_SameInts.f k1 bt111.1 (t101.take ((wrap64 ((t101.length : Int) / 2)) : Int).toNat)).bind fun t123 => (if t123 = true then (wringerlaw16_TreeShifts.l0 k1 t101 (wrap64 (x4_1 + 1))) else (none))) else (none)) else (none)) else (wringerlaw16_TreeShifts.l0 k1 t101 (wrap64 (x4_1 + 1))))) else (none))) else (none)))))) = some r := H
        have A5 := Aside0.mk A50
        clear A50
        replace H := Option.bind_eq_some_iff.mp H
        obtain ⟨⟨t107, t108⟩, A60, H⟩ := H
        replace H : ((tree_Get.f t105 (wrap64 ((t101.length : Int) / 2)) x4_1).bind fun bt111 => ((wringerlaw1_Err.f t106).bind fun t115 => ((wringerlaw1_Err.f t108).bind fun t116 => (if (wrap64 (t115 + t116)) = 0 then ((wringerref7_SameInts.f k1 t107 t101).bind fun t117 => (if t117 = true then ((wringerlaw1_Err.f bt111.2).bind fun t118 => (if t118 = 0 then (if 0 ≤ (wrap64 ((t101.length : Int) / 2)) then (if (wrap64 ((t101.length : Int) / 2)) ≤ (t101.length : Int) then ((wringerref7_SameInts.f k1 bt111.1 (t101.take ((wrap64 ((t101.length : Int) / 2)) : Int).toNat)).bind fun t123 => (if t123 = true then (wringerlaw16_TreeShifts.l0 k1 t101 (wrap64 (x4_1 + 1))) else (none))) else (none)) else (none)) else (wringerlaw16_TreeShifts.l0 k1 t101 (wrap64 (x4_1 + 1))))) else (none))) else (none))))) = some r := H
        have A6 := Aside0.mk A60
        clear A60
        replace H := Option.bind_eq_some_iff.mp H
        obtain ⟨⟨t111, t112⟩, A70, H⟩ := H
        replace H : ((wringerlaw1_Err.f t106).bind fun t115 => ((wringerlaw1_Err.f t108).bind fun t116 => (if (wrap64 (t115 + t116)) = 0 then ((wringerref7_SameInts.f k1 t107 t101).bind fun t117 => (if t117 = true then ((wringerlaw1_Err.f t112).bind fun t118 => (if t118 = 0 then (if 0 ≤ (wrap64 ((t101.length : Int) / 2)) then (if (wrap64 ((t101.length : Int) / 2)) ≤ (t101.length : Int) then ((wringerref7_SameInts.f k1 t111 (t101.take ((wrap64 ((t101.length : Int) / 2)) : Int).toNat)).bind fun t123 => (if t123 = true then (wringerlaw16_TreeShifts.l0 k1 t101 (wrap64 (x4_1 + 1))) else (none))) else (none)) else (none)) else (wringerlaw16_TreeShifts.l0 k1 t101 (wrap64 (x4_1 + 1))))) else (none))) else (none)))) = some r := H
        have A7 := Aside0.mk A70
        clear A70
        replace H := Option.bind_eq_some_iff.mp H
        obtain ⟨t115, A80, H⟩ := H
        replace H : ((wringerlaw1_Err.f t108).bind fun t116 => (if (wrap64 (t115 + t116)) = 0 then ((wringerref7_SameInts.f k1 t107 t101).bind fun t117 => (if t117 = true then ((wringerlaw1_Err.f t112).bind fun t118 => (if t118 = 0 then (if 0 ≤ (wrap64 ((t101.length : Int) / 2)) then (if (wrap64 ((t101.length : Int) / 2)) ≤ (t101.length : Int) then ((wringerref7_SameInts.f k1 t111 (t101.take ((wrap64 ((t101.length : Int) / 2)) : Int).toNat)).bind fun t123 => (if t123 = true then (wringerlaw16_TreeShifts.l0 k1 t101 (wrap64 (x4_1 + 1))) else (none))) else (none)) else (none)) else (wringerlaw16_TreeShifts.l0 k1 t101 (wrap64 (x4_1 + 1))))) else (none))) else (none))) = some r := H
        have A8 := Aside0.mk A80
        clear A80
        replace H := Option.bind_eq_some_iff.mp H
        obtain ⟨t116, A90, H⟩ := H
        replace H : (if (wrap64 (t115 + t116)) = 0 then ((wringerref7_SameInts.f k1 t107 t101).bind fun t117 => (if t117 = true then ((wringerlaw1_Err.f t112).bind fun t118 => (if t118 = 0 then (if 0 ≤ (wrap64 ((t101.length : Int) / 2)) then (if (wrap64 ((t101.length : Int) / 2)) ≤ (t101.length : Int) then ((wringerref7_SameInts.f k1 t111 (t101.take ((wrap64 ((t101.length : Int) / 2)) : Int).toNat)).bind fun t123 => (if t123 = true then (wringerlaw16_TreeShifts.l0 k1 t101 (wrap64 (x4_1 + 1))) else (none))) else (none)) else (none)) else (wringerlaw16_TreeShifts.l0 k1 t101 (wrap64 (x4_1 + 1))))) else (none))) else (none)) = some r := H
        have A9 := Aside0.mk A90
        clear A90
        by_cases c10 : (wrap64 (t115 + t116)) = 0
        · rw [if_pos c10] at H
          have c10b0 : ((wrap64 (t115 + t116)) == 0) = true := beq_iff_eq.mpr c10
          have c10b1 : ((wrap64 (t115 + t116)) != 0) = false := bne_eq_false_iff_eq.mpr c10
          clear c10
          replace H := Option.bind_eq_some_iff.mp H
          obtain ⟨t117, A110, H⟩ := H
          replace H : (if t117 = true then ((wringerlaw1_Err.f t112).bind fun t118 => (if t118 = 0 then (if 0 ≤ (wrap64 ((t101.length : Int) / 2)) then (if (wrap64 ((t101.length : Int) / 2)) ≤ (t101.length : Int) then ((wringerref7_SameInts.f k1 t111 (t101.take ((wrap64 ((t101.length : Int) / 2)) : Int).toNat)).bind fun t123 => (if t123 = true then (wringerlaw16_TreeShifts.l0 k1 t101 (wrap64 (x4_1 + 1))) else (none))) else (none)) else (none)) else (wringerlaw16_TreeShifts.l0 k1 t101 (wrap64 (x4_1 + 1))))) else (none)) = some r := H
          have A11 := Aside0.mk A110
          clear A110
          by_cases c12 : t117 = true
          · subst c12
            have H1 : ((wringerlaw1_Err.f t112).bind fun t118 => (if t118 = 0 then (if 0 ≤ (wrap64 ((t101.length : Int) / 2)) then (if (wrap64 ((t101.length : Int) / 2)) ≤ (t101.length : Int) then ((wringerref7_SameInts.f k1 t111 (t101.take ((wrap64 ((t101.length : Int) / 2)) : Int).toNat)).bind fun t123 => (if t123 = true then (wringerlaw16_TreeShifts.l0 k1 t101 (wrap64 (x4_1 + 1))) else (none))) else (none)) else (none)) else (wringerlaw16_TreeShifts.l0 k1 t101 (wrap64 (x4_1 + 1))))) = some r := by rw [if_pos rfl] at H; exact H
            clear H
            have H := H1
            clear H1
            replace H := Option.bind_eq_some_iff.mp H
            obtain ⟨t118, A130, H⟩ := H
            replace H : (if t118 = 0 then (if 0 ≤ (wrap64 ((t101.length : Int) / 2)) then (if (wrap64 ((t101.length : Int) / 2)) ≤ (t101.length : Int) then ((wringerref7_SameInts.f k1 t111 (t101.take ((wrap64 ((t101.length : Int) / 2)) : Int).toNat)).bind fun t123 => (if t123 = true then (wringerlaw16_TreeShifts.l0 k1 t101 (wrap64 (x4_1 + 1))) else (none))) else (none)) else (none)) else (wringerlaw16_TreeShifts.l0 k1 t101 (wrap64 (x4_1 + 1)))) = some r := H
            have A13 := Aside0.mk A130
            clear A130
            by_cases c14 : t118 = 0
            · rw [if_pos c14] at H
              have c14b0 : (t118 == 0) = true := beq_iff_eq.mpr c14
              have c14b1 : (t118 != 0) = false := bne_eq_false_iff_eq.mpr c14
              clear c14
              obtain ⟨ji15, hji15⟩ : ∃ j_ : Int, (wrap64 ((t101.length : Int) / 2)) = j_ := ⟨_, rfl⟩
              replace H : (if 0 ≤ (ji15) then (if (ji15) ≤ (t101.length : Int) then ((wringerref7_SameInts.f k1 t111 (t101.take ((ji15) : Int).toNat)).bind fun t123 => (if t123 = true then (wringerlaw16_TreeShifts.l0 k1 t101 (wrap64 (x4_1 + 1))) else (none))) else (none)) else (none)) = some r := by first | (rw [hji15] at H; exact H) | (simp only [hji15] at H ⊢; exact H)
              (try rw [hji15] at A5)
              (try rw [hji15] at A6)
              (try rw [hji15] at A7)
              (try rw [hji15] at A8)
              (try rw [hji15] at A9)
              (try rw [hji15] at A11)
              (try rw [hji15] at A13)
              have hji15w : (IntKind.i64.wrap ((t101.length : Int) / 2)) = ji15 := (i64_w _).trans hji15
              by_cases c16 : 0 ≤ (ji15)
              · rw [if_pos c16] at H
                have c16b0 := eq_true c16
                have c16b1 : decide (0 ≤ (ji15)) = true := decide_eq_true c16
                clear c16
                by_cases c17 : (ji15) ≤ (t101.length : Int)
                · rw [if_pos c17] at H
                  have c17b0 := eq_true c17
                  have c17b1 : decide ((ji15) ≤ (t101.length : Int)) = true := decide_eq_true c17
                  clear c17
                  obtain ⟨y119, hy119⟩ : ∃ y_ : List Int, y_ = (t101.take ((ji15) : Int).toNat) := ⟨_, rfl⟩
                  replace H : ((wringerref7_SameInts.f k1 t111 y119).bind fun t123 => (if t123 = true then (wringerlaw16_TreeShifts.l0 k1 t101 (wrap64 (x4_1 + 1))) else (none))) = some r := by first | (rw [hy119]; with_reducible exact H) | (have H2_ := (Option.bind_some _ _).symm.trans H; rw [hy119]; with_reducible exact H2_) | (have H2_ := (Option.bind_some _ _).symm.trans H; with_reducible exact H2_) | with_reducible exact H | (rw [hy119]; exact H) | exact H
                  have Ny119 := Aside0.mk hy119
                  clear hy119
                  replace H := Option.bind_eq_some_iff.mp H
                  obtain ⟨t123, A180, H⟩ := H
                  replace H : (if t123 = true then (wringerlaw16_TreeShifts.l0 k1 t101 (wrap64 (x4_1 + 1))) else (none)) = some r := H
                  have A18 := Aside0.mk A180
                  clear A180
                  by_cases c19 : t123 = true
                  · subst c19
                    have H1 : (wringerlaw16_TreeShifts.l0 k1 t101 (wrap64 (x4_1 + 1))) = some r := by rw [if_pos rfl] at H; exact H
                    clear H
                    have H := H1
                    clear H1
                    have H' := Aside0.mk H
                    clear H
                    obtain ⟨Ao20, co20, eo20⟩ := Kd.R_slice HO_3.out
                    subst eo20
                    go_wp2_with (first | ((with_reducible refine gate_callee (f := 14) rfl ?_); refine goesL_ (some 20) rfl rfl Try.func14 (by kernel_rfl) rfl #[.slice Ao20 t101.length co20, .int .i64 x4_1] rfl (by (try simp only [List.map_toArray, List.map_cons, List.map_nil]); first | done | rfl | (simp only [List.length_drop, List.length_take]; rfl)) ?_; (with_reducible refine (tree_Put.calls _ _ t101 x4_1 t105 t106 _ ?side1 ?side2 A5.out).mono ?_); (case side1 => repeat (first | exact (Kd.R_reads' HO_3.out).2.2 | (with_reducible refine Kd.C_alloc ?_ _) | (with_reducible refine Kd.C_drewN ?_ _) | (with_reducible refine Kd.C_drew ?_))); (case side2 => exact (Kd.R_reads' HO_3.out).2.1); rintro e w21 ⟨rfl, hb⟩; refine ⟨_, rfl, ?_⟩; have n0_ := Aside0.mk (Kd.R_below (by (with_reducible repeat (first | apply Kd.R_alloc | apply Kd.R_drewN | apply Kd.R_drew)); exact HO_3.out) hb); have n1_ := Aside0.mk (below_step (by repeat (first | (with_reducible first | exact HB.out | apply below_alloc | apply pw_below_drewN | apply below_drew1) | exact HB.out)) hb); clear HO_3; clear HB; have HO_3 := n0_; have HB := n1_; clear n0_ n1_; (try clear hb); (try clear hb2); (try clear hk); (try clear hi)) | ((with_reducible refine gate_callee (f := 15) rfl ?_); refine goesL_ (some 28) rfl rfl Try.func15 (by kernel_rfl) rfl #[.string t105, .int .i64 (t101.length : Int), .int .i64 x4_1] rfl (by (try simp only [List.map_toArray, List.map_cons, List.map_nil]); first | done | rfl | (simp only [List.length_drop, List.length_take]; rfl)) ?_; (with_reducible refine (tree_Get.calls t105 (t101.length : Int) x4_1 t107 t108 _ A6.out).mono ?_); rintro e w22 ⟨v109, rfl, ho0, hb⟩; refine ⟨_, rfl, ?_⟩; have n0_ := Aside0.mk (Kd.R_elder' (by (with_reducible repeat (first | apply Kd.R_alloc | apply Kd.R_drewN | apply Kd.R_drew)); exact HO_3.out) (Kd.R_base ho0) hb); have n1_ := Aside0.mk (Kd.R_lower (Kd.R_new' ho0 (Kd.R_lt (by (with_reducible repeat (first | apply Kd.R_alloc | apply Kd.R_drewN | apply Kd.R_drew)); exact HO_3.out))) (below_size (by repeat (first | (with_reducible first | exact HB.out | apply below_alloc | apply pw_below_drewN | apply below_drew1) | exact HB.out)))); have n2_ := Aside0.mk (below_step (by repeat (first | (with_reducible first | exact HB.out | apply below_alloc | apply pw_below_drewN | apply below_drew1) | exact HB.out)) hb); clear HO_3; clear HB; have HO_3 := n0_; have HO110 := n1_; have HB := n2_; clear n0_ n1_ n2_; (try clear hb); (try clear hb2); (try clear hk); (try clear hi); (try clear ho0)) | ((with_reducible refine gate_callee (f := 15) rfl ?_); refine goesL_ (some 37) rfl rfl Try.func15 (by kernel_rfl) rfl #[.string t105, .int .i64 ji15, .int .i64 x4_1] rfl (by (try simp only [List.map_toArray, List.map_cons, List.map_nil]); first | done | (simp only [hji15]; rfl) | rfl | (simp only [List.length_drop, List.length_take]; rfl)) ?_; (with_reducible refine (tree_Get.calls t105 ji15 x4_1 t111 t112 _ A7.out).mono ?_); rintro e w23 ⟨v113, rfl, ho0, hb⟩; refine ⟨_, rfl, ?_⟩; have n0_ := Aside0.mk (Kd.R_elder' (by (with_reducible repeat (first | apply Kd.R_alloc | apply Kd.R_drewN | apply Kd.R_drew)); exact HO_3.out) (Kd.R_base ho0) hb); have n1_ := Aside0.mk (Kd.R_elder' (by (with_reducible repeat (first | apply Kd.R_alloc | apply Kd.R_drewN | apply Kd.R_drew)); exact HO110.out) (Kd.R_base ho0) hb); have n2_ := Aside0.mk (Kd.R_lower (Kd.R_new' (Kd.R_new' ho0 (Kd.R_lt (by (with_reducible repeat (first | apply Kd.R_alloc | apply Kd.R_drewN | apply Kd.R_drew)); exact HO_3.out))) (Kd.R_lt (by (with_reducible repeat (first | apply Kd.R_alloc | apply Kd.R_drewN | apply Kd.R_drew)); exact HO110.out))) (below_size (by repeat (first | (with_reducible first | exact HB.out | apply below_alloc | apply pw_below_drewN | apply below_drew1) | exact HB.out)))); have n3_ := Aside0.mk (below_step (by repeat (first | (with_reducible first | exact HB.out | apply below_alloc | apply pw_below_drewN | apply below_drew1) | exact HB.out)) hb); clear HO_3; clear HO110; clear HB; have HO_3 := n0_; have HO110 := n1_; have HO114 := n2_; have HB := n3_; clear n0_ n1_ n2_ n3_; (try clear hb); (try clear hb2); (try clear hk); (try clear hi); (try clear ho0)) | ((with_reducible refine gate_callee (f := 17) rfl ?_); refine goesL_ (some 41) rfl rfl Try.func17 (by kernel_rfl) rfl #[.int .i64 t106] rfl (by (try simp only [List.map_toArray, List.map_cons, List.map_nil]); first | done | rfl | (simp only [List.length_drop, List.length_take]; rfl)) ?_; (with_reducible refine (wringerlaw1_Err.calls t106 t115 _ A8.out).mono ?_); rintro e w' ⟨rfl, ⟨nd, rfl⟩⟩; refine ⟨_, rfl, ?_⟩) | ((with_reducible refine gate_callee (f := 17) rfl ?_); refine goesL_ (some 43) rfl rfl Try.func17 (by kernel_rfl) rfl #[.int .i64 t108] rfl (by (try simp only [List.map_toArray, List.map_cons, List.map_nil]); first | done | rfl | (simp only [List.length_drop, List.length_take]; rfl)) ?_; (with_reducible refine (wringerlaw1_Err.calls t108 t116 _ A9.out).mono ?_); rintro e w' ⟨rfl, ⟨nd, rfl⟩⟩; refine ⟨_, rfl, ?_⟩; obtain ⟨Ao24, co24, eo24⟩ := Kd.R_slice HO110.out; subst eo24) | (go_at_call 20; (with_reducible refine (wringerref7_SameInts.calls k1 _ _ t107 _ _ t101 true _ ?side1 ?side2 ?side3 ?side4 A11.out).mono ?_); (case side1 => repeat (first | exact (Kd.R_reads' HO110.out).2.2 | (with_reducible refine Kd.C_alloc ?_ _) | (with_reducible refine Kd.C_drewN ?_ _) | (with_reducible refine Kd.C_drew ?_))); (case side2 => exact (Kd.R_reads' HO110.out).2.1); (case side3 => repeat (first | exact (Kd.R_reads' HO_3.out).2.2 | (with_reducible refine Kd.C_alloc ?_ _) | (with_reducible refine Kd.C_drewN ?_ _) | (with_reducible refine Kd.C_drew ?_))); (case side4 => exact (Kd.R_reads' HO_3.out).2.1); rintro e w' ⟨rfl, ⟨nd, rfl⟩⟩) | (go_at_call 17; (with_reducible refine (wringerlaw1_Err.calls t112 t118 _ A13.out).mono ?_); rintro e w' ⟨rfl, ⟨nd, rfl⟩⟩; have q25 : ((ji15) : Int) ≤ ((t101.length : Int) : Int) := of_decide_eq_true (by first | (with_reducible assumption) | assumption); obtain ⟨i025, hi025, _, hsz25, _⟩ := info_parts info3; have hroom25 : t101.length ≤ co20 := (Kd.R_reads' HO_3.out).2.1; have hC25 : Kd.C (Kd.int .i64) _ Ao20 t101.length t101 := (Kd.R_reads' HO_3.out).2.2; have hcut25 := cut_to (P := Try.prog) 25 3 .i64 Try.underlying25 hi025 Ao20 t101.length co20 (ji15) (of_decide_eq_true (by first | (with_reducible assumption) | assumption)) q25 hroom25; have hr25 := Kd.C_take (m := ((ji15) : Int).toNat) hC25 (by omega); have hy25 : y119.length = ((ji15) : Int).toNat := (by rw [Ny119.out, List.length_take]; omega); rw [← Ny119.out] at hr25; rw [← hy25] at hcut25; have HR122 := Aside0.mk hr25; have HC122 := Aside0.mk (show y119.length ≤ co20 from by omega); clear hr25 hC25 hroom25 hi025 hsz25; have KY25 := Aside0.mk hy25; clear hy25; have KL25 := Aside0.mk (show ((ji15) : Int).toNat ≤ t101.length from by omega); replace q25 := eq_true q25; obtain ⟨Ao26, co26, eo26⟩ := Kd.R_slice HO114.out; subst eo26) | (go_at_call 20; (with_reducible refine (wringerref7_SameInts.calls k1 _ _ t111 _ _ y119 true _ ?side1 ?side2 ?side3 ?side4 A18.out).mono ?_); (case side1 => repeat (first | exact (Kd.R_reads' HO114.out).2.2 | (with_reducible refine Kd.C_alloc ?_ _) | (with_reducible refine Kd.C_drewN ?_ _) | (with_reducible refine Kd.C_drew ?_))); (case side2 => exact (Kd.R_reads' HO114.out).2.1); (case side3 => repeat (first | exact (by repeat (first | (with_reducible exact HR122.out) | (with_reducible refine Kd.C_alloc ?_ _) | (with_reducible refine Kd.C_drewN ?_ _) | (with_reducible refine Kd.C_drew ?_) | exact HR122.out)) | (with_reducible refine Kd.C_alloc ?_ _) | (with_reducible refine Kd.C_drewN ?_ _) | (with_reducible refine Kd.C_drew ?_))); (case side4 => exact HC122.out); rintro e w' ⟨rfl, ⟨nd, rfl⟩⟩))
                    go_roundg k1
                    case measure => have := HK1.out; omega
                    case rel => exact ⟨(wrap64 (x4_1 + 1)), (by first | rfl | (simp; done) | (simp [*]; done)), H', ⟨by have := HK1.out; omega⟩, ⟨by (with_reducible repeat (first | apply Kd.R_alloc | apply Kd.R_drewN | apply Kd.R_drew)); exact Kd.R_mono HO_3.out (fun _ hk => trivial)⟩, ⟨by repeat (first | (with_reducible first | exact HB.out | apply below_alloc | apply pw_below_drewN | apply below_drew1) | exact HB.out)⟩⟩
                  · replace c19 := Bool.eq_false_iff.mpr c19
                    subst c19
                    have H1 : (none) = some r := by rw [if_neg (show ¬ (false = true) by decide)] at H; exact H
                    clear H
                    have H := H1
                    clear H1
                    exact absurd H (by simp)
                · rw [if_neg c17] at H
                  exact absurd H (by simp)
              · rw [if_neg c16] at H
                exact absurd H (by simp)
            · rw [if_neg c14] at H
              have c14b0 : (t118 == 0) = false := beq_eq_false_iff_ne.mpr c14
              have c14b1 : (t118 != 0) = true := bne_iff_ne.mpr c14
              have H' := Aside0.mk H
              clear H
              obtain ⟨Ao27, co27, eo27⟩ := Kd.R_slice HO_3.out
              subst eo27
              go_wp2_with (first | ((with_reducible refine gate_callee (f := 14) rfl ?_); refine goesL_ (some 20) rfl rfl Try.func14 (by kernel_rfl) rfl #[.slice Ao27 t101.length co27, .int .i64 x4_1] rfl (by (try simp only [List.map_toArray, List.map_cons, List.map_nil]); first | done | rfl | (simp only [List.length_drop, List.length_take]; rfl)) ?_; (with_reducible refine (tree_Put.calls _ _ t101 x4_1 t105 t106 _ ?side1 ?side2 A5.out).mono ?_); (case side1 => repeat (first | exact (Kd.R_reads' HO_3.out).2.2 | (with_reducible refine Kd.C_alloc ?_ _) | (with_reducible refine Kd.C_drewN ?_ _) | (with_reducible refine Kd.C_drew ?_))); (case side2 => exact (Kd.R_reads' HO_3.out).2.1); rintro e w28 ⟨rfl, hb⟩; refine ⟨_, rfl, ?_⟩; have n0_ := Aside0.mk (Kd.R_below (by (with_reducible repeat (first | apply Kd.R_alloc | apply Kd.R_drewN | apply Kd.R_drew)); exact HO_3.out) hb); have n1_ := Aside0.mk (below_step (by repeat (first | (with_reducible first | exact HB.out | apply below_alloc | apply pw_below_drewN | apply below_drew1) | exact HB.out)) hb); clear HO_3; clear HB; have HO_3 := n0_; have HB := n1_; clear n0_ n1_; (try clear hb); (try clear hb2); (try clear hk); (try clear hi)) | ((with_reducible refine gate_callee (f := 15) rfl ?_); refine goesL_ (some 28) rfl rfl Try.func15 (by kernel_rfl) rfl #[.string t105, .int .i64 (t101.length : Int), .int .i64 x4_1] rfl (by (try simp only [List.map_toArray, List.map_cons, List.map_nil]); first | done | rfl | (simp only [List.length_drop, List.length_take]; rfl)) ?_; (with_reducible refine (tree_Get.calls t105 (t101.length : Int) x4_1 t107 t108 _ A6.out).mono ?_); rintro e w29 ⟨v109, rfl, ho0, hb⟩; refine ⟨_, rfl, ?_⟩; have n0_ := Aside0.mk (Kd.R_elder' (by (with_reducible repeat (first | apply Kd.R_alloc | apply Kd.R_drewN | apply Kd.R_drew)); exact HO_3.out) (Kd.R_base ho0) hb); have n1_ := Aside0.mk (Kd.R_lower (Kd.R_new' ho0 (Kd.R_lt (by (with_reducible repeat (first | apply Kd.R_alloc | apply Kd.R_drewN | apply Kd.R_drew)); exact HO_3.out))) (below_size (by repeat (first | (with_reducible first | exact HB.out | apply below_alloc | apply pw_below_drewN | apply below_drew1) | exact HB.out)))); have n2_ := Aside0.mk (below_step (by repeat (first | (with_reducible first | exact HB.out | apply below_alloc | apply pw_below_drewN | apply below_drew1) | exact HB.out)) hb); clear HO_3; clear HB; have HO_3 := n0_; have HO110 := n1_; have HB := n2_; clear n0_ n1_ n2_; (try clear hb); (try clear hb2); (try clear hk); (try clear hi); (try clear ho0)) | ((with_reducible refine gate_callee (f := 15) rfl ?_); refine goesL_ (some 37) rfl rfl Try.func15 (by kernel_rfl) rfl #[.string t105, .int .i64 (wrap64 ((t101.length : Int) / 2)), .int .i64 x4_1] rfl (by (try simp only [List.map_toArray, List.map_cons, List.map_nil]); first | done | rfl | (simp only [List.length_drop, List.length_take]; rfl)) ?_; (with_reducible refine (tree_Get.calls t105 (wrap64 ((t101.length : Int) / 2)) x4_1 t111 t112 _ A7.out).mono ?_); rintro e w30 ⟨v113, rfl, ho0, hb⟩; refine ⟨_, rfl, ?_⟩; have n0_ := Aside0.mk (Kd.R_elder' (by (with_reducible repeat (first | apply Kd.R_alloc | apply Kd.R_drewN | apply Kd.R_drew)); exact HO_3.out) (Kd.R_base ho0) hb); have n1_ := Aside0.mk (Kd.R_elder' (by (with_reducible repeat (first | apply Kd.R_alloc | apply Kd.R_drewN | apply Kd.R_drew)); exact HO110.out) (Kd.R_base ho0) hb); have n2_ := Aside0.mk (Kd.R_lower (Kd.R_new' (Kd.R_new' ho0 (Kd.R_lt (by (with_reducible repeat (first | apply Kd.R_alloc | apply Kd.R_drewN | apply Kd.R_drew)); exact HO_3.out))) (Kd.R_lt (by (with_reducible repeat (first | apply Kd.R_alloc | apply Kd.R_drewN | apply Kd.R_drew)); exact HO110.out))) (below_size (by repeat (first | (with_reducible first | exact HB.out | apply below_alloc | apply pw_below_drewN | apply below_drew1) | exact HB.out)))); have n3_ := Aside0.mk (below_step (by repeat (first | (with_reducible first | exact HB.out | apply below_alloc | apply pw_below_drewN | apply below_drew1) | exact HB.out)) hb); clear HO_3; clear HO110; clear HB; have HO_3 := n0_; have HO110 := n1_; have HO114 := n2_; have HB := n3_; clear n0_ n1_ n2_ n3_; (try clear hb); (try clear hb2); (try clear hk); (try clear hi); (try clear ho0)) | ((with_reducible refine gate_callee (f := 17) rfl ?_); refine goesL_ (some 41) rfl rfl Try.func17 (by kernel_rfl) rfl #[.int .i64 t106] rfl (by (try simp only [List.map_toArray, List.map_cons, List.map_nil]); first | done | rfl | (simp only [List.length_drop, List.length_take]; rfl)) ?_; (with_reducible refine (wringerlaw1_Err.calls t106 t115 _ A8.out).mono ?_); rintro e w' ⟨rfl, ⟨nd, rfl⟩⟩; refine ⟨_, rfl, ?_⟩) | ((with_reducible refine gate_callee (f := 17) rfl ?_); refine goesL_ (some 43) rfl rfl Try.func17 (by kernel_rfl) rfl #[.int .i64 t108] rfl (by (try simp only [List.map_toArray, List.map_cons, List.map_nil]); first | done | rfl | (simp only [List.length_drop, List.length_take]; rfl)) ?_; (with_reducible refine (wringerlaw1_Err.calls t108 t116 _ A9.out).mono ?_); rintro e w' ⟨rfl, ⟨nd, rfl⟩⟩; refine ⟨_, rfl, ?_⟩; obtain ⟨Ao31, co31, eo31⟩ := Kd.R_slice HO110.out; subst eo31) | (go_at_call 20; (with_reducible refine (wringerref7_SameInts.calls k1 _ _ t107 _ _ t101 true _ ?side1 ?side2 ?side3 ?side4 A11.out).mono ?_); (case side1 => repeat (first | exact (Kd.R_reads' HO110.out).2.2 | (with_reducible refine Kd.C_alloc ?_ _) | (with_reducible refine Kd.C_drewN ?_ _) | (with_reducible refine Kd.C_drew ?_))); (case side2 => exact (Kd.R_reads' HO110.out).2.1); (case side3 => repeat (first | exact (Kd.R_reads' HO_3.out).2.2 | (with_reducible refine Kd.C_alloc ?_ _) | (with_reducible refine Kd.C_drewN ?_ _) | (with_reducible refine Kd.C_drew ?_))); (case side4 => exact (Kd.R_reads' HO_3.out).2.1); rintro e w' ⟨rfl, ⟨nd, rfl⟩⟩) | (go_at_call 17; (with_reducible refine (wringerlaw1_Err.calls t112 t118 _ A13.out).mono ?_); rintro e w' ⟨rfl, ⟨nd, rfl⟩⟩))
              go_roundg k1
              case measure => have := HK1.out; omega
              case rel => exact ⟨(wrap64 (x4_1 + 1)), (by first | rfl | (simp; done) | (simp [*]; done)), H', ⟨by have := HK1.out; omega⟩, ⟨by (with_reducible repeat (first | apply Kd.R_alloc | apply Kd.R_drewN | apply Kd.R_drew)); exact Kd.R_mono HO_3.out (fun _ hk => trivial)⟩, ⟨by repeat (first | (with_reducible first | exact HB.out | apply below_alloc | apply pw_below_drewN | apply below_drew1) | exact HB.out)⟩⟩
          · replace c12 := Bool.eq_false_iff.mpr c12
            subst c12
            have H1 : (none) = some r := by rw [if_neg (show ¬ (false = true) by decide)] at H; exact H
            clear H
            have H := H1
            clear H1
            exact absurd H (by simp)
        · rw [if_neg c10] at H
          exact absurd H (by simp)
      · rw [if_neg c4] at H
        have c4b0 : decide (x4_1 ≤ 7) = false := decide_eq_false c4
        clear c4
        replace H := Option.bind_eq_some_iff.mp H
        obtain ⟨t104, A320, H⟩ := H
        replace H : (some t104) = some r := H
        have A32 := Aside0.mk A320
        clear A320
        obtain rfl := Option.some.inj H
        go_wp2_with (first | ((with_reducible refine gate_callee (f := 18) rfl ?_); refine goesL_ (some 67) rfl rfl Try.func18 (by kernel_rfl) rfl #[] rfl (by (try simp only [List.map_toArray, List.map_cons, List.map_nil]); first | done | rfl | (simp only [List.length_drop, List.length_take]; rfl)) ?_; (with_reducible refine (wringerlaw16_awake.calls k1  t104 _ A32.out).mono ?_); rintro e w33 ⟨rfl, hb⟩; refine ⟨_, rfl, ?_⟩; have n0_ := Aside0.mk (Kd.R_below (by (with_reducible repeat (first | apply Kd.R_alloc | apply Kd.R_drewN | apply Kd.R_drew)); exact HO_3.out) hb); have n1_ := Aside0.mk (below_step (by repeat (first | (with_reducible first | exact HB.out | apply below_alloc | apply pw_below_drewN | apply below_drew1) | exact HB.out)) hb); clear HO_3; clear HB; have HO_3 := n0_; have HB := n1_; clear n0_ n1_; (try clear hb); (try clear hb2); (try clear hk); (try clear hi)))
        go_ret
        exact ⟨by first | rfl | (simp [errW_none, errW_some] <;> rfl) | (simp [*, errW_none, errW_some] <;> rfl), by repeat (first | (with_reducible first | exact HB.out | apply below_alloc | apply pw_below_drewN | apply below_drew1) | exact HB.out)⟩

/-- THE ONE PURE STATEMENT of wringerlaw16_TreeShifts: yours. -/
def wringerlaw16_TreeShifts.Pure : Prop := ∀ (l0 : List Int), l0.length ≤ maxLen → l0.length * 1 ≤ 140737488351232 → (∀ x ∈ l0, (Lit.int .u8 x).wf = true) → ∃ k, wringerlaw16_TreeShifts.f k l0 = some true
theorem wringerlaw16_TreeShifts.walk (P : wringerlaw16_TreeShifts.Pure) (a0 : Option Addr) (len0 cap0 : Nat) (z0 : List Int) (w : World) (w0 : (a0 = none ∧ len0 = 0 ∧ cap0 = 0 ∧ z0 = []) ∨ ∃ x, a0 = some x ∧ len0 ≤ cap0 ∧ cap0 ≤ maxLen ∧ z0.length = cap0 ∧ (∀ i, i < z0.length → w.cell? (x.add i) = some (.int .u8 (z0.getD i 0))) ∧ ∀ n ∈ z0, (Lit.int .u8 n).wf = true) (y0 : len0 * 1 ≤ 140737488351232) :
    Calls Try.prog 4 #[.slice a0 len0 cap0] w fun e w' => e = .returned (.bool true) ∧ Below w.heap.size w w' := by
  obtain ⟨l0, rfl, hr0, hm0, hw0, hc0⟩ := ReadsInt.ofRowC w0
  obtain ⟨k, h⟩ := P l0 hm0 y0 hw0
  refine (wringerlaw16_TreeShifts.calls k _ _ l0 true w (Kd.C_of_reads (d := (0 : Int)) (h1 := fun _ => rfl) hr0) hc0 h).mono ?_
  rintro e w' ⟨rfl, hd⟩
  exact ⟨rfl, hd⟩

end Go.Proofs.Ytgldblakdhalkaa.PTreeShifts
