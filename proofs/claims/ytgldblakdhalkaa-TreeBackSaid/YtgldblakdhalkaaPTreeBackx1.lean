/- Written by this session's program wip/tools/giv.py over the seat's translation: Lean functions of the Go functions named below and the proofs that the calls come to them. Conditions: as each contract states. -/
import Derived.Test.YtgldblakdhalkaaPTreeBackx0
namespace Go.Proofs.Ytgldblakdhalkaa.PTreeBack
open Go.Proofs.Ytgldblakdhalkaa.PBase
open Go.RowKit Go.Proofs.YtgldblakdhalkaaW.PrintWords Go.Proofs.YtgldblakdhalkaaW.PrintLast Go.Proofs.YtgldblakdhalkaaW.PrintMore
attribute [local go_sem] max2_mx min2_mn max_two min_two max_three min_three max_four min_four   -- for this text's walks alone
set_option linter.unusedVariables false
set_option linter.unusedSimpArgs false

-- given: function 14 (tree_Put)

-- given: function 15 (tree_Get)

-- given: function 17 (wringerlaw1_Err)

-- given: function 18 (wringerlaw16_awake)

-- given: function 19 (wringerlaw16_Classes)

-- given: function 20 (wringerref7_SameInts)

/-! ### wringerlaw16_TreeBack: function 13 -/
def wringerlaw16_TreeBack.l0 : Nat → Int → List Int → Int → List Int → Int → List Int → Int → Option (Bool)
  | 0, _, _, _, _, _, _, _ => none
  | k + 1, x2, x9, x12, x13, x14, x15, x16 => if x16 < (x15.length : Int) then (if 0 ≤ x16 then (wringerlaw16_TreeBack.l0 k x2 x9 x12 x13 x14 (x15.set (x16 : Int).toNat (Int.tmod (wrap64 (x2)) 65)) (wrap64 (x16 + 1))) else (none)) else ((tree_Put.f x15 4).bind fun bt114 => ((wringerlaw1_Err.f x12).bind fun t116 => ((wringerlaw1_Err.f x14).bind fun t117 => ((wringerlaw1_Err.f bt114.2).bind fun t118 => (if (wrap64 ((wrap64 (t116 + t117)) + t118)) = 0 then ((wringerref7_SameInts.f k x13 x9).bind fun t119 => (if t119 = true then (if (bt114.1.size : Int) ≤ (wrap64 (16 + (wrap64 ((x15.length : Int) / 8)))) then ((wringerlaw16_awake.f k).bind fun t120 => (some t120)) else (none)) else (none))) else (none))))))
def wringerlaw16_TreeBack.f (k : Nat) (l0 : List Int) (a1 : Int) (a2 : Int) (a3 : Int) : Option (Bool) := (wringerlaw16_Classes.f k l0).bind fun t101 => ((tree_Put.f t101 (wrap64 (4 + (Int.tmod (wrap64 (a1)) 4)))).bind fun bt104 => ((tree_Get.f bt104.1 (t101.length : Int) (wrap64 (4 + (Int.tmod (wrap64 (a1)) 4)))).bind fun bt106 => (if 0 ≤ (wrap64 (a3)) then (if (wrap64 (a3) : Int).toNat ≤ 35184372088832 then (wringerlaw16_TreeBack.l0 k a2 t101 bt104.2 bt106.1 bt106.2 (List.replicate (wrap64 (a3) : Int).toNat 0) 0) else (none)) else (none))))
theorem wringerlaw16_TreeBack.mono_l : ∀ k, (∀ y0 y1 y2 y3 y4 y5 y6, LeO (wringerlaw16_TreeBack.l0 k y0 y1 y2 y3 y4 y5 y6) (wringerlaw16_TreeBack.l0 (k + 1) y0 y1 y2 y3 y4 y5 y6))
  | 0 => fun _ _ _ _ _ _ _ r h => by simp [wringerlaw16_TreeBack.l0] at h
  | k + 1 => by
    have ih0 := wringerlaw16_TreeBack.mono_l k
    · intro y0 y1 y2 y3 y4 y5 y6
      unfold wringerlaw16_TreeBack.l0
      repeat' first
      | (with_reducible exact ih0 _ _ _ _ _ _ _)
      | (with_reducible exact wringerlaw16_Classes.mono _ _)
      | (with_reducible exact wringerlaw16_awake.mono _)
      | (with_reducible exact wringerref7_SameInts.mono _ _ _)
      | (with_reducible exact LeO.refl _)
      | (with_reducible exact LeO.none _)
      | (with_reducible refine LeO.ite ?_ ?_)
      | (with_reducible refine LeO.bind ?_ (fun _ => ?_))
      | exact ih0 _ _ _ _ _ _ _
      | exact wringerlaw16_Classes.mono _ _
      | exact wringerlaw16_awake.mono _
      | exact wringerref7_SameInts.mono _ _ _
      | exact LeO.none _
      | refine LeO.ite ?_ ?_
      | refine LeO.bind ?_ (fun _ => ?_)
theorem wringerlaw16_TreeBack.mono : ∀ a0 a1 a2 a3 k, LeO (wringerlaw16_TreeBack.f k a0 a1 a2 a3) (wringerlaw16_TreeBack.f (k + 1) a0 a1 a2 a3) := by
  intro a0 a1 a2 a3 k
  have ih0 := wringerlaw16_TreeBack.mono_l k
  unfold wringerlaw16_TreeBack.f
  repeat' first
      | (with_reducible exact ih0 _ _ _ _ _ _ _)
      | (with_reducible exact wringerlaw16_Classes.mono _ _)
      | (with_reducible exact wringerlaw16_awake.mono _)
      | (with_reducible exact wringerref7_SameInts.mono _ _ _)
      | (with_reducible exact LeO.refl _)
      | (with_reducible exact LeO.none _)
      | (with_reducible refine LeO.ite ?_ ?_)
      | (with_reducible refine LeO.bind ?_ (fun _ => ?_))
      | exact ih0 _ _ _ _ _ _ _
      | exact wringerlaw16_Classes.mono _ _
      | exact wringerlaw16_awake.mono _
      | exact wringerref7_SameInts.mono _ _ _
      | exact LeO.none _
      | refine LeO.ite ?_ ?_
      | refine LeO.bind ?_ (fun _ => ?_)
set_option maxHeartbeats 8000000 in
set_option maxRecDepth 100000 in
theorem wringerlaw16_TreeBack.calls (k : Nat) (A0 : Option Addr) (c0 : Nat) (l0 : List Int) (a1 : Int) (a2 : Int) (a3 : Int) (r : Bool) (w : World) (hr0 : Kd.C (Kd.int .u8) w A0 l0.length l0) (hc0 : l0.length ≤ c0) (h : wringerlaw16_TreeBack.f k l0 a1 a2 a3 = some r) :
    Calls Try.prog 13 #[.slice A0 l0.length c0, .int .u8 a1, .int .u8 a2, .int .u8 a3] w fun e w' => e = .returned (.bool r) ∧ Below w.heap.size w w' := by
  have HR0 := Aside0.mk hr0
  have HC0 := Aside0.mk hc0
  clear hr0 hc0
  have HB := Aside0.mk (Below.refl w.heap.size w)
  have H : ((wringerlaw16_Classes.f k l0).bind fun t101 => ((tree_Put.f t101 (wrap64 (4 + (Int.tmod (wrap64 (a1)) 4)))).bind fun bt104 => ((tree_Get.f bt104.1 (t101.length : Int) (wrap64 (4 + (Int.tmod (wrap64 (a1)) 4)))).bind fun bt106 => (if 0 ≤ (wrap64 (a3)) then (if (wrap64 (a3) : Int).toNat ≤ 35184372088832 then (wringerlaw16_TreeBack.l0 k a2 t101 bt104.2 bt106.1 bt106.2 (List.replicate (wrap64 (a3) : Int).toNat 0) 0) else (none)) else (none))))) = some r := h
  clear h
  replace H := Option.bind_eq_some_iff.mp H
  obtain ⟨t101, A50, H⟩ := H
  replace H : ((tree_Put.f t101 (wrap64 (4 + (Int.tmod (wrap64 (a1)) 4)))).bind fun bt104 => ((tree_Get.f bt104.1 (t101.length : Int) (wrap64 (4 + (Int.tmod (wrap64 (a1)) 4)))).bind fun bt106 => (if 0 ≤ (wrap64 (a3)) then (if (wrap64 (a3) : Int).toNat ≤ 35184372088832 then (wringerlaw16_TreeBack.l0 k a2 t101 bt104.2 bt106.1 bt106.2 (List.replicate (wrap64 (a3) : Int).toNat 0) 0) else (none)) else (none)))) = some r := H
  have A5 := Aside0.mk A50
  clear A50
  replace H := Option.bind_eq_some_iff.mp H
  obtain ⟨⟨t104, t105⟩, A60, H⟩ := H
  replace H : ((tree_Get.f t104 (t101.length : Int) (wrap64 (4 + (Int.tmod (wrap64 (a1)) 4)))).bind fun bt106 => (if 0 ≤ (wrap64 (a3)) then (if (wrap64 (a3) : Int).toNat ≤ 35184372088832 then (wringerlaw16_TreeBack.l0 k a2 t101 t105 bt106.1 bt106.2 (List.replicate (wrap64 (a3) : Int).toNat 0) 0) else (none)) else (none))) = some r := H
  have A6 := Aside0.mk A60
  clear A60
  replace H := Option.bind_eq_some_iff.mp H
  obtain ⟨⟨t106, t107⟩, A70, H⟩ := H
  replace H : (if 0 ≤ (wrap64 (a3)) then (if (wrap64 (a3) : Int).toNat ≤ 35184372088832 then (wringerlaw16_TreeBack.l0 k a2 t101 t105 t106 t107 (List.replicate (wrap64 (a3) : Int).toNat 0) 0) else (none)) else (none)) = some r := H
  have A7 := Aside0.mk A70
  clear A70
  obtain ⟨ji8, hji8⟩ : ∃ j_ : Int, (wrap64 (a3)) = j_ := ⟨_, rfl⟩
  replace H : (if 0 ≤ (ji8) then (if (ji8 : Int).toNat ≤ 35184372088832 then (wringerlaw16_TreeBack.l0 k a2 t101 t105 t106 t107 (List.replicate (ji8 : Int).toNat 0) 0) else (none)) else (none)) = some r := by first | (rw [hji8] at H; exact H) | (simp only [hji8] at H ⊢; exact H)
  (try rw [hji8] at A5)
  (try rw [hji8] at A6)
  (try rw [hji8] at A7)
  have hji8w : (IntKind.i64.wrap (a3)) = ji8 := (i64_w _).trans hji8
  by_cases c9 : 0 ≤ (ji8)
  · rw [if_pos c9] at H
    have c9b0 := eq_true c9
    have c9b1 : decide (0 ≤ (ji8)) = true := decide_eq_true c9
    clear c9
    by_cases c10 : (ji8 : Int).toNat ≤ 35184372088832
    · rw [if_pos c10] at H
      have c10b0 := eq_true c10
      have c10b1 : decide ((ji8 : Int).toNat ≤ 35184372088832) = true := decide_eq_true c10
      clear c10
      obtain ⟨y110, hy110⟩ : ∃ y_ : List Int, y_ = (List.replicate (ji8 : Int).toNat 0) := ⟨_, rfl⟩
      replace H : (wringerlaw16_TreeBack.l0 k a2 t101 t105 t106 t107 y110 0) = some r := by first | (rw [hy110]; with_reducible exact H) | (have H2_ := (Option.bind_some _ _).symm.trans H; rw [hy110]; with_reducible exact H2_) | (have H2_ := (Option.bind_some _ _).symm.trans H; with_reducible exact H2_) | with_reducible exact H | (rw [hy110]; exact H) | exact H
      have Ny110 := Aside0.mk hy110
      clear hy110
      have H' := Aside0.mk H
      clear H
      go_enter Try.func13, Try.ntmps13
      go_wp2_with (first | ((with_reducible refine gate_callee (f := 19) rfl ?_); refine goesL_ (some 20) rfl rfl Try.func19 (by kernel_rfl) rfl #[.slice A0 l0.length c0] rfl (by (try simp only [List.map_toArray, List.map_cons, List.map_nil]); first | done | rfl | (simp only [List.length_drop, List.length_take]; rfl)) ?_; (with_reducible refine (wringerlaw16_Classes.calls k _ _ l0 t101 _ ?side1 ?side2 A5.out).mono ?_); (case side1 => repeat (first | exact HR0.out | (with_reducible refine Kd.C_alloc ?_ _) | (with_reducible refine Kd.C_drewN ?_ _) | (with_reducible refine Kd.C_drew ?_))); (case side2 => exact HC0.out); rintro e w11 ⟨v102, rfl, ho0, hb⟩; refine ⟨_, rfl, ?_⟩; have n0_ := Aside0.mk (Kd.R_lower ho0 (below_size (by repeat (first | (with_reducible first | exact HB.out | apply below_alloc | apply pw_below_drewN | apply below_drew1) | exact HB.out)))); have n1_ := Aside0.mk (below_step (by repeat (first | (with_reducible first | exact HB.out | apply below_alloc | apply pw_below_drewN | apply below_drew1) | exact HB.out)) hb); clear HB; have HO103 := n0_; have HB := n1_; clear n0_ n1_; (try clear hb); (try clear hb2); (try clear hk); (try clear hi); (try clear ho0); obtain ⟨Ao12, co12, eo12⟩ := Kd.R_slice HO103.out; subst eo12) | ((with_reducible refine gate_callee (f := 14) rfl ?_); refine goesL_ (some 28) rfl rfl Try.func14 (by kernel_rfl) rfl #[.slice Ao12 t101.length co12, .int .i64 (wrap64 (4 + (Int.tmod (wrap64 (a1)) 4)))] rfl (by (try simp only [List.map_toArray, List.map_cons, List.map_nil]); first | done | rfl | (simp only [List.length_drop, List.length_take]; rfl)) ?_; (with_reducible refine (tree_Put.calls _ _ t101 (wrap64 (4 + (Int.tmod (wrap64 (a1)) 4))) t104 t105 _ ?side1 ?side2 A6.out).mono ?_); (case side1 => repeat (first | exact (Kd.R_reads' HO103.out).2.2 | (with_reducible refine Kd.C_alloc ?_ _) | (with_reducible refine Kd.C_drewN ?_ _) | (with_reducible refine Kd.C_drew ?_))); (case side2 => exact (Kd.R_reads' HO103.out).2.1); rintro e w13 ⟨rfl, hb⟩; refine ⟨_, rfl, ?_⟩; have n0_ := Aside0.mk (Kd.R_below (by (with_reducible repeat (first | apply Kd.R_alloc | apply Kd.R_drewN | apply Kd.R_drew)); exact HO103.out) hb); have n1_ := Aside0.mk (below_step (by repeat (first | (with_reducible first | exact HB.out | apply below_alloc | apply pw_below_drewN | apply below_drew1) | exact HB.out)) hb); clear HO103; clear HB; have HO103 := n0_; have HB := n1_; clear n0_ n1_; (try clear hb); (try clear hb2); (try clear hk); (try clear hi)) | ((with_reducible refine gate_callee (f := 15) rfl ?_); refine goesL_ (some 36) rfl rfl Try.func15 (by kernel_rfl) rfl #[.string t104, .int .i64 (t101.length : Int), .int .i64 (wrap64 (4 + (Int.tmod (wrap64 (a1)) 4)))] rfl (by (try simp only [List.map_toArray, List.map_cons, List.map_nil]); first | done | rfl | (simp only [List.length_drop, List.length_take]; rfl)) ?_; (with_reducible refine (tree_Get.calls t104 (t101.length : Int) (wrap64 (4 + (Int.tmod (wrap64 (a1)) 4))) t106 t107 _ A7.out).mono ?_); rintro e w14 ⟨v108, rfl, ho0, hb⟩; refine ⟨_, rfl, ?_⟩; have n0_ := Aside0.mk (Kd.R_elder' (by (with_reducible repeat (first | apply Kd.R_alloc | apply Kd.R_drewN | apply Kd.R_drew)); exact HO103.out) (Kd.R_base ho0) hb); have n1_ := Aside0.mk (Kd.R_lower (Kd.R_new' ho0 (Kd.R_lt (by (with_reducible repeat (first | apply Kd.R_alloc | apply Kd.R_drewN | apply Kd.R_drew)); exact HO103.out))) (below_size (by repeat (first | (with_reducible first | exact HB.out | apply below_alloc | apply pw_below_drewN | apply below_drew1) | exact HB.out)))); have n2_ := Aside0.mk (below_step (by repeat (first | (with_reducible first | exact HB.out | apply below_alloc | apply pw_below_drewN | apply below_drew1) | exact HB.out)) hb); clear HO103; clear HB; have HO103 := n0_; have HO109 := n1_; have HB := n2_; clear n0_ n1_ n2_; (try clear hb); (try clear hb2); (try clear hk); (try clear hi); (try clear ho0)) | ((with_reducible refine gate_dst (N := 41) rfl ?_); (try (refine gate_guard (by rfl) ?_; dsimp only)); refine Kd.R_make (Kd.int .i64) _ 3 rfl (N := 41) rfl 25 _ _ rfl ji8 rfl rfl Try.underlying25 (.int .i64 0) 8 info3 rfl (by decide) (by omega) 0 (ok := fun _ => True) (okp := fun _ => True) rfl (fun _ hk => hk) trivial (of_decide_eq_true (by first | (with_reducible assumption) | assumption)) (Nat.le_trans (Nat.mul_le_mul_right _ (of_decide_eq_true (by first | (with_reducible assumption) | assumption) : ji8.toNat ≤ 35184372088832)) (by omega)) (Below.refl _ _) (Nat.le_refl _) ?_; intro v111 w15 ho16 hb hg_ hnew_; clear hg_ hnew_; (first | rw [← Ny110.out] at ho16 | (simp only [Int.reduceToNat] at ho16; rw [← Ny110.out] at ho16)); have n0_ := Aside0.mk (Kd.R_elder' (by (with_reducible repeat (first | apply Kd.R_alloc | apply Kd.R_drewN | apply Kd.R_drew)); exact HO103.out) (Kd.R_base ho16) hb); have n1_ := Aside0.mk (Kd.R_elder' (by (with_reducible repeat (first | apply Kd.R_alloc | apply Kd.R_drewN | apply Kd.R_drew)); exact HO109.out) (Kd.R_base ho16) hb); have n2_ := Aside0.mk (Kd.R_lower (Kd.R_new' (Kd.R_new' ho16 (Kd.R_lt (by (with_reducible repeat (first | apply Kd.R_alloc | apply Kd.R_drewN | apply Kd.R_drew)); exact HO103.out))) (Kd.R_lt (by (with_reducible repeat (first | apply Kd.R_alloc | apply Kd.R_drewN | apply Kd.R_drew)); exact HO109.out))) (below_size (by repeat (first | (with_reducible first | exact HB.out | apply below_alloc | apply pw_below_drewN | apply below_drew1) | exact HB.out)))); have n3_ := Aside0.mk (below_step (by repeat (first | (with_reducible first | exact HB.out | apply below_alloc | apply pw_below_drewN | apply below_drew1) | exact HB.out)) hb); clear HO103; clear HO109; clear HB; have HO103 := n0_; have HO109 := n1_; have HO112 := n2_; have HB := n3_; clear n0_ n1_ n2_ n3_; clear hb ho16))
      go_loopg [16] k (fun kq v16 w' => ∃ (x15_1 : List Int) (x16_1 : Int), v16 = .int .i64 x16_1 ∧ Aside0 (wringerlaw16_TreeBack.l0 kq a2 t101 t105 t106 t107 x15_1 x16_1 = some r) ∧ Aside0 (kq ≤ k) ∧ Aside0 (Kd.R (Kd.int .i64) 3 w' w.heap.size (fun k_ => some k_ ≠ (v108 : Value).ownBlock ∧ some k_ ≠ (v111 : Value).ownBlock) (.slice Ao12 t101.length co12) t101) ∧ Aside0 (Kd.R (Kd.int .i64) 3 w' w.heap.size (fun k_ => some k_ ≠ ((.slice Ao12 t101.length co12) : Value).ownBlock ∧ some k_ ≠ (v111 : Value).ownBlock) v108 t106) ∧ Aside0 (Kd.R (Kd.int .i64) 3 w' w.heap.size (fun k_ => some k_ ≠ ((.slice Ao12 t101.length co12) : Value).ownBlock ∧ some k_ ≠ (v108 : Value).ownBlock) v111 x15_1) ∧ Aside0 (Below w.heap.size w w'))
      case atStart => exact ⟨(y110), (0), (by first | rfl | (simp; done) | (simp [*]; done)), H', ⟨Nat.le_refl _⟩, ⟨by (with_reducible repeat (first | apply Kd.R_alloc | apply Kd.R_drewN | apply Kd.R_drew)); exact Kd.R_mono HO103.out (fun _ hk => ⟨hk.1.2, hk.2⟩)⟩, ⟨by (with_reducible repeat (first | apply Kd.R_alloc | apply Kd.R_drewN | apply Kd.R_drew)); exact Kd.R_mono HO109.out (fun _ hk => ⟨hk.1.2, hk.2⟩)⟩, ⟨by (with_reducible repeat (first | apply Kd.R_alloc | apply Kd.R_drewN | apply Kd.R_drew)); exact Kd.R_mono HO112.out (fun _ hk => ⟨hk.1.2, hk.2⟩)⟩, ⟨by repeat (first | (with_reducible first | exact HB.out | apply below_alloc | apply pw_below_drewN | apply below_drew1) | exact HB.out)⟩⟩
      case round =>
        clear H'
        try clear c1
        try clear p2
        try clear p6
        try clear c9
        try clear c9b0
        try clear c9b1
        try clear c10
        try clear c10b0
        try clear c10b1
        try clear c13
        try clear c14
        try clear c15
        obtain ⟨x15_1, x16_1, rfl, HA, HK1, HO_9, HO_13, HO_15, HB⟩ := hrel
        cases gk with
        | zero => exact absurd HA.out (by simp [wringerlaw16_TreeBack.l0])
        | succ k1 =>
          have H := HA.out
          clear HA
          simp only [wringerlaw16_TreeBack.l0] at H
          by_cases c17 : x16_1 < (x15_1.length : Int)
          · rw [if_pos c17] at H
            have c17b0 : decide (x16_1 < (x15_1.length : Int)) = true := decide_eq_true c17
            clear c17
            by_cases c18 : 0 ≤ x16_1
            · rw [if_pos c18] at H
              have c18b0 : decide (0 ≤ x16_1) = true := decide_eq_true c18
              clear c18
              obtain ⟨y113, hy113⟩ : ∃ y_ : List Int, y_ = (x15_1.set (x16_1 : Int).toNat (Int.tmod (wrap64 (a2)) 65)) := ⟨_, rfl⟩
              replace H : (wringerlaw16_TreeBack.l0 k1 a2 t101 t105 t106 t107 y113 (wrap64 (x16_1 + 1))) = some r := by first | (rw [hy113]; with_reducible exact H) | (have H2_ := (Option.bind_some _ _).symm.trans H; rw [hy113]; with_reducible exact H2_) | (have H2_ := (Option.bind_some _ _).symm.trans H; with_reducible exact H2_) | with_reducible exact H | (rw [hy113]; exact H) | exact H
              have Ny113 := Aside0.mk hy113
              clear hy113
              have H' := Aside0.mk H
              clear H
              obtain ⟨Ao20, co20, eo20⟩ := Kd.R_slice HO_15.out
              subst eo20
              have p19 : 0 ≤ (x16_1 : Int) := of_decide_eq_true (by first | (with_reducible assumption) | assumption)
              have q19 : (x16_1 : Int) < ((x15_1.length : Int) : Int) := of_decide_eq_true (by first | (with_reducible assumption) | assumption)
              obtain ⟨go19, co19, eo19, gb19, gl19, cl19, HG19⟩ := Kd.R_form HO_15.out (by omega)
              (first | cases eo19 | (injection eo19 with ea_ en_ ec_; (first | subst ea_ | (injection ea_ with ea_; subst ea_)); subst ec_; clear en_))
              have GB19 := Aside0.mk gb19
              have GG19 := Aside0.mk HG19
              clear gb19 gl19 HG19
              obtain ⟨hx19_0, hf19_0⟩ := Kd.R_celln 0 HO_15.out (x16_1 : Int) p19 q19
              replace p19 := eq_true p19
              replace q19 := eq_true q19
              have HP21 := Kd.R_putg HO_15.out (x16_1 : Int) (Int.tmod (wrap64 (a2)) 65)
              go_wp2_with (first | ((with_reducible refine gate_store (t := 3) (p := 53) rfl ?_); refine store_event (t := 3) (p := 53) (v := ?vo_w22) (w1 := (wr.setCell ⟨go19, (x16_1 : Int).toNat, none⟩ (.int .i64 (Int.tmod (wrap64 (a2)) 65)))) ?hg ?ho ?hn ?hr ?_; (case ho => rfl); (case hg => rfl); (case hn => rfl); (case hr => first | (go_simp; done) | (go_simp; rfl)); intro w22 hw; have hg : wr.grownBy w22 (some go19) := (by rw [hw]; exact HP21.2); have hp_ : Kd.R (Kd.int .i64) 3 w22 w.heap.size (fun k_ => some k_ ≠ (.slice Ao12 t101.length co12 : Value).ownBlock ∧ some k_ ≠ (v108 : Value).ownBlock) (.slice (some ⟨go19, 0, none⟩) x15_1.length co20) y113 := (by rw [hw, Ny113.out]; exact HP21.1); clear HP21; have n0_ := Aside0.mk (Kd.R_after (v := (.slice (some ⟨go19, 0, none⟩) x15_1.length co20)) (v1 := (.slice (some ⟨go19, 0, none⟩) x15_1.length co20)) (ok := (fun k_ => some k_ ≠ (v108 : Value).ownBlock)) (by (with_reducible repeat (first | apply Kd.R_alloc | apply Kd.R_drewN | apply Kd.R_drew)); exact HO_9.out) hg (.inl rfl)); have n1_ := Aside0.mk (Kd.R_after (v := (.slice (some ⟨go19, 0, none⟩) x15_1.length co20)) (v1 := (.slice (some ⟨go19, 0, none⟩) x15_1.length co20)) (ok := (fun k_ => some k_ ≠ (.slice Ao12 t101.length co12 : Value).ownBlock)) (by (with_reducible repeat (first | apply Kd.R_alloc | apply Kd.R_drewN | apply Kd.R_drew)); exact HO_13.out) hg (.inl rfl)); have n2_ := Aside0.mk (hp_); have n3_ := Aside0.mk ((by rw [hw]; exact below_set (HB.out) GB19.out : Below w.heap.size w w22)); clear HO_9; clear HO_13; clear HO_15; clear HB; have HO_9 := n0_; have HO_13 := n1_; have HO_15 := n2_; have HB := n3_; clear n0_ n1_ n2_ n3_; clear hg hw hp_))
              go_roundg k1
              case measure => have := HK1.out; omega
              case rel => exact ⟨(y113), (wrap64 (x16_1 + 1)), (by first | rfl | (simp; done) | (simp [*]; done)), H', ⟨by have := HK1.out; omega⟩, ⟨by (with_reducible repeat (first | apply Kd.R_alloc | apply Kd.R_drewN | apply Kd.R_drew)); exact HO_9.out⟩, ⟨by (with_reducible repeat (first | apply Kd.R_alloc | apply Kd.R_drewN | apply Kd.R_drew)); exact HO_13.out⟩, ⟨by (with_reducible repeat (first | apply Kd.R_alloc | apply Kd.R_drewN | apply Kd.R_drew)); exact HO_15.out⟩, ⟨by repeat (first | (with_reducible first | exact HB.out | apply below_alloc | apply pw_below_drewN | apply below_drew1) | exact HB.out)⟩⟩
            · rw [if_neg c18] at H
              exact absurd H (by simp)
          · rw [if_neg c17] at H
            have c17b0 : decide (x16_1 < (x15_1.length : Int)) = false := decide_eq_false c17
            clear c17
            replace H := Option.bind_eq_some_iff.mp H
            obtain ⟨⟨t114, t115⟩, A230, H⟩ := H
            replace H : ((wringerlaw1_Err.f t105).bind fun t116 => ((wringerlaw1_Err.f t107).bind fun t117 => ((wringerlaw1_Err.f t115).bind fun t118 => (if (wrap64 ((wrap64 (t116 + t117)) + t118)) = 0 then ((wringerref7_SameInts.f k1 t106 t101).bind fun t119 => (if t119 = true then (if (t114.size : Int) ≤ (wrap64 (16 + (wrap64 ((x15_1.length : Int) / 8)))) then ((wringerlaw16_awake.f k1).bind fun t120 => (some t120)) else (none)) else (none))) else (none))))) = some r := H
            have A23 := Aside0.mk A230
            clear A230
            replace H := Option.bind_eq_some_iff.mp H
            obtain ⟨t116, A240, H⟩ := H
            replace H : ((wringerlaw1_Err.f t107).bind fun t117 => ((wringerlaw1_Err.f t115).bind fun t118 => (if (wrap64 ((wrap64 (t116 + t117)) + t118)) = 0 then ((wringerref7_SameInts.f k1 t106 t101).bind fun t119 => (if t119 = true then (if (t114.size : Int) ≤ (wrap64 (16 + (wrap64 ((x15_1.length : Int) / 8)))) then ((wringerlaw16_awake.f k1).bind fun t120 => (some t120)) else (none)) else (none))) else (none)))) = some r := H
            have A24 := Aside0.mk A240
            clear A240
            replace H := Option.bind_eq_some_iff.mp H
            obtain ⟨t117, A250, H⟩ := H
            replace H : ((wringerlaw1_Err.f t115).bind fun t118 => (if (wrap64 ((wrap64 (t116 + t117)) + t118)) = 0 then ((wringerref7_SameInts.f k1 t106 t101).bind fun t119 => (if t119 = true then (if (t114.size : Int) ≤ (wrap64 (16 + (wrap64 ((x15_1.length : Int) / 8)))) then ((wringerlaw16_awake.f k1).bind fun t120 => (some t120)) else (none)) else (none))) else (none))) = some r := H
            have A25 := Aside0.mk A250
            clear A250
            replace H := Option.bind_eq_some_iff.mp H
            obtain ⟨t118, A260, H⟩ := H
            replace H : (if (wrap64 ((wrap64 (t116 + t117)) + t118)) = 0 then ((wringerref7_SameInts.f k1 t106 t101).bind fun t119 => (if t119 = true then (if (t114.size : Int) ≤ (wrap64 (16 + (wrap64 ((x15_1.length : Int) / 8)))) then ((wringerlaw16_awake.f k1).bind fun t120 => (some t120)) else (none)) else (none))) else (none)) = some r := H
            have A26 := Aside0.mk A260
            clear A260
            by_cases c27 : (wrap64 ((wrap64 (t116 + t117)) + t118)) = 0
            · rw [if_pos c27] at H
              have c27b0 : ((wrap64 ((wrap64 (t116 + t117)) + t118)) == 0) = true := beq_iff_eq.mpr c27
              have c27b1 : ((wrap64 ((wrap64 (t116 + t117)) + t118)) != 0) = false := bne_eq_false_iff_eq.mpr c27
              clear c27
              replace H := Option.bind_eq_some_iff.mp H
              obtain ⟨t119, A280, H⟩ := H
              replace H : (if t119 = true then (if (t114.size : Int) ≤ (wrap64 (16 + (wrap64 ((x15_1.length : Int) / 8)))) then ((wringerlaw16_awake.f k1).bind fun t120 => (some t120)) else (none)) else (none)) = some r := H
              have A28 := Aside0.mk A280
              clear A280
              by_cases c29 : t119 = true
              · subst c29
                have H1 : (if (t114.size : Int) ≤ (wrap64 (16 + (wrap64 ((x15_1.length : Int) / 8)))) then ((wringerlaw16_awake.f k1).bind fun t120 => (some t120)) else (none)) = some r := by rw [if_pos rfl] at H; exact H
                clear H
                have H := H1
                clear H1
                by_cases c30 : (t114.size : Int) ≤ (wrap64 (16 + (wrap64 ((x15_1.length : Int) / 8))))
                · rw [if_pos c30] at H
                  have c30b0 : decide ((t114.size : Int) ≤ (wrap64 (16 + (wrap64 ((x15_1.length : Int) / 8))))) = true := decide_eq_true c30
                  clear c30
                  replace H := Option.bind_eq_some_iff.mp H
                  obtain ⟨t120, A310, H⟩ := H
                  replace H : (some t120) = some r := H
                  have A31 := Aside0.mk A310
                  clear A310
                  obtain rfl := Option.some.inj H
                  obtain ⟨Ao32, co32, eo32⟩ := Kd.R_slice HO_15.out
                  subst eo32
                  go_wp2_with (first | ((with_reducible refine gate_callee (f := 14) rfl ?_); refine goesL_ (some 56) rfl rfl Try.func14 (by kernel_rfl) rfl #[.slice Ao32 x15_1.length co32, .int .i64 4] rfl (by (try simp only [List.map_toArray, List.map_cons, List.map_nil]); first | done | rfl | (simp only [List.length_drop, List.length_take]; rfl)) ?_; (with_reducible refine (tree_Put.calls _ _ x15_1 4 t114 t115 _ ?side1 ?side2 A23.out).mono ?_); (case side1 => repeat (first | exact (Kd.R_reads' HO_15.out).2.2 | (with_reducible refine Kd.C_alloc ?_ _) | (with_reducible refine Kd.C_drewN ?_ _) | (with_reducible refine Kd.C_drew ?_))); (case side2 => exact (Kd.R_reads' HO_15.out).2.1); rintro e w33 ⟨rfl, hb⟩; refine ⟨_, rfl, ?_⟩; have n0_ := Aside0.mk (Kd.R_below (by (with_reducible repeat (first | apply Kd.R_alloc | apply Kd.R_drewN | apply Kd.R_drew)); exact HO_9.out) hb); have n1_ := Aside0.mk (Kd.R_below (by (with_reducible repeat (first | apply Kd.R_alloc | apply Kd.R_drewN | apply Kd.R_drew)); exact HO_13.out) hb); have n2_ := Aside0.mk (Kd.R_below (by (with_reducible repeat (first | apply Kd.R_alloc | apply Kd.R_drewN | apply Kd.R_drew)); exact HO_15.out) hb); have n3_ := Aside0.mk (below_step (by repeat (first | (with_reducible first | exact HB.out | apply below_alloc | apply pw_below_drewN | apply below_drew1) | exact HB.out)) hb); clear HO_9; clear HO_13; clear HO_15; clear HB; have HO_9 := n0_; have HO_13 := n1_; have HO_15 := n2_; have HB := n3_; clear n0_ n1_ n2_ n3_; (try clear hb); (try clear hb2); (try clear hk); (try clear hi)) | ((with_reducible refine gate_callee (f := 17) rfl ?_); refine goesL_ (some 60) rfl rfl Try.func17 (by kernel_rfl) rfl #[.int .i64 t105] rfl (by (try simp only [List.map_toArray, List.map_cons, List.map_nil]); first | done | rfl | (simp only [List.length_drop, List.length_take]; rfl)) ?_; (with_reducible refine (wringerlaw1_Err.calls t105 t116 _ A24.out).mono ?_); rintro e w' ⟨rfl, ⟨nd, rfl⟩⟩; refine ⟨_, rfl, ?_⟩) | ((with_reducible refine gate_callee (f := 17) rfl ?_); refine goesL_ (some 62) rfl rfl Try.func17 (by kernel_rfl) rfl #[.int .i64 t107] rfl (by (try simp only [List.map_toArray, List.map_cons, List.map_nil]); first | done | rfl | (simp only [List.length_drop, List.length_take]; rfl)) ?_; (with_reducible refine (wringerlaw1_Err.calls t107 t117 _ A25.out).mono ?_); rintro e w' ⟨rfl, ⟨nd, rfl⟩⟩; refine ⟨_, rfl, ?_⟩) | ((with_reducible refine gate_callee (f := 17) rfl ?_); refine goesL_ (some 65) rfl rfl Try.func17 (by kernel_rfl) rfl #[.int .i64 t115] rfl (by (try simp only [List.map_toArray, List.map_cons, List.map_nil]); first | done | rfl | (simp only [List.length_drop, List.length_take]; rfl)) ?_; (with_reducible refine (wringerlaw1_Err.calls t115 t118 _ A26.out).mono ?_); rintro e w' ⟨rfl, ⟨nd, rfl⟩⟩; refine ⟨_, rfl, ?_⟩; obtain ⟨Ao34, co34, eo34⟩ := Kd.R_slice HO_13.out; subst eo34) | (go_at_call 20; (with_reducible refine (wringerref7_SameInts.calls k1 _ _ t106 _ _ t101 true _ ?side1 ?side2 ?side3 ?side4 A28.out).mono ?_); (case side1 => repeat (first | exact (Kd.R_reads' HO_13.out).2.2 | (with_reducible refine Kd.C_alloc ?_ _) | (with_reducible refine Kd.C_drewN ?_ _) | (with_reducible refine Kd.C_drew ?_))); (case side2 => exact (Kd.R_reads' HO_13.out).2.1); (case side3 => repeat (first | exact (Kd.R_reads' HO_9.out).2.2 | (with_reducible refine Kd.C_alloc ?_ _) | (with_reducible refine Kd.C_drewN ?_ _) | (with_reducible refine Kd.C_drew ?_))); (case side4 => exact (Kd.R_reads' HO_9.out).2.1); rintro e w' ⟨rfl, ⟨nd, rfl⟩⟩) | (go_at_call 18; (with_reducible refine (wringerlaw16_awake.calls k1  t120 _ A31.out).mono ?_); rintro e w35 ⟨rfl, hb⟩; have n0_ := Aside0.mk (Kd.R_below (by (with_reducible repeat (first | apply Kd.R_alloc | apply Kd.R_drewN | apply Kd.R_drew)); exact HO_9.out) hb); have n1_ := Aside0.mk (Kd.R_below (by (with_reducible repeat (first | apply Kd.R_alloc | apply Kd.R_drewN | apply Kd.R_drew)); exact HO_13.out) hb); have n2_ := Aside0.mk (Kd.R_below (by (with_reducible repeat (first | apply Kd.R_alloc | apply Kd.R_drewN | apply Kd.R_drew)); exact HO_15.out) hb); have n3_ := Aside0.mk (below_step (by repeat (first | (with_reducible first | exact HB.out | apply below_alloc | apply pw_below_drewN | apply below_drew1) | exact HB.out)) hb); clear HO_9; clear HO_13; clear HO_15; clear HB; have HO_9 := n0_; have HO_13 := n1_; have HO_15 := n2_; have HB := n3_; clear n0_ n1_ n2_ n3_; (try clear hb); (try clear hb2); (try clear hk); (try clear hi)))
                  go_ret
                  exact ⟨by first | rfl | (simp [errW_none, errW_some] <;> rfl) | (simp only [← hji8]; first | rfl | (simp [errW_none, errW_some] <;> rfl)) | (simp [*, errW_none, errW_some] <;> rfl), by repeat (first | (with_reducible first | exact HB.out | apply below_alloc | apply pw_below_drewN | apply below_drew1) | exact HB.out)⟩
                · rw [if_neg c30] at H
                  exact absurd H (by simp)
              · replace c29 := Bool.eq_false_iff.mpr c29
                subst c29
                have H1 : (none) = some r := by rw [if_neg (show ¬ (false = true) by decide)] at H; exact H
                clear H
                have H := H1
                clear H1
                exact absurd H (by simp)
            · rw [if_neg c27] at H
              exact absurd H (by simp)
    · rw [if_neg c10] at H
      exact absurd H (by simp)
  · rw [if_neg c9] at H
    exact absurd H (by simp)

/-- THE ONE PURE STATEMENT of wringerlaw16_TreeBack: yours. -/
def wringerlaw16_TreeBack.Pure : Prop := ∀ (l0 : List Int) (a1 : Int) (a2 : Int) (a3 : Int), l0.length ≤ maxLen → l0.length * 1 ≤ 140737488351232 → (∀ x ∈ l0, (Lit.int .u8 x).wf = true) → (Lit.int .u8 a1).wf = true → (Lit.int .u8 a2).wf = true → (Lit.int .u8 a3).wf = true → ∃ k, wringerlaw16_TreeBack.f k l0 a1 a2 a3 = some true
theorem wringerlaw16_TreeBack.walk (P : wringerlaw16_TreeBack.Pure) (a0 : Option Addr) (len0 cap0 : Nat) (z0 : List Int) (a1 : Int) (a2 : Int) (a3 : Int) (w : World) (w0 : (a0 = none ∧ len0 = 0 ∧ cap0 = 0 ∧ z0 = []) ∨ ∃ x, a0 = some x ∧ len0 ≤ cap0 ∧ cap0 ≤ maxLen ∧ z0.length = cap0 ∧ (∀ i, i < z0.length → w.cell? (x.add i) = some (.int .u8 (z0.getD i 0))) ∧ ∀ n ∈ z0, (Lit.int .u8 n).wf = true) (y0 : len0 * 1 ≤ 140737488351232) (w1 : (Lit.int .u8 a1).wf = true) (w2 : (Lit.int .u8 a2).wf = true) (w3 : (Lit.int .u8 a3).wf = true) :
    Calls Try.prog 13 #[.slice a0 len0 cap0, .int .u8 a1, .int .u8 a2, .int .u8 a3] w fun e w' => e = .returned (.bool true) ∧ Below w.heap.size w w' := by
  obtain ⟨l0, rfl, hr0, hm0, hw0, hc0⟩ := ReadsInt.ofRowC w0
  obtain ⟨k, h⟩ := P l0 a1 a2 a3 hm0 y0 hw0 w1 w2 w3
  refine (wringerlaw16_TreeBack.calls k _ _ l0 a1 a2 a3 true w (Kd.C_of_reads (d := (0 : Int)) (h1 := fun _ => rfl) hr0) hc0 h).mono ?_
  rintro e w' ⟨rfl, hd⟩
  exact ⟨rfl, hd⟩

end Go.Proofs.Ytgldblakdhalkaa.PTreeBack
