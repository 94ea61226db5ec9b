/- Written by this session's program wip/tools/giv.py over the seat's translation: Lean functions of the Go functions named below and the proofs that the calls come to them. Conditions: as each contract states. -/
import Derived.Test.YtgldblakdhalkaaPTreeRefusesx0
namespace Go.Proofs.Ytgldblakdhalkaa.PTreeRefuses
open Go.Proofs.Ytgldblakdhalkaa.PBase
open Go.RowKit Go.Proofs.YtgldblakdhalkaaW.PrintWords Go.Proofs.YtgldblakdhalkaaW.PrintLast Go.Proofs.YtgldblakdhalkaaW.PrintMore
attribute [local go_sem] max2_mx min2_mn max_two min_two max_three min_three max_four min_four   -- for this text's walks alone
set_option linter.unusedVariables false
set_option linter.unusedSimpArgs false

-- given: function 14 (tree_Put)

-- given: function 15 (tree_Get)

-- given: function 16 (tree_Nodes)

-- given: function 17 (wringerlaw1_Err)

-- given: function 18 (wringerlaw16_awake)

/-! ### wringerlaw16_TreeRefuses: function 3 -/
mutual
def wringerlaw16_TreeRefuses.j0 : Nat → Int → Int → Int → Bool → Option (Bool)
  | 0, _, _, _, _ => none
  | k + 1, x1, x2, x7, x29 => if x29 = true then (wringerlaw16_TreeRefuses.j1 k x1 x2 (wrap64 ((-1) - x7))) else (wringerlaw16_TreeRefuses.j1 k x1 x2 x7)
def wringerlaw16_TreeRefuses.j1 : Nat → Int → Int → Int → Option (Bool)
  | 0, _, _, _ => none
  | k + 1, x1, x2, x7 => if x1 ≥ 4 then (wringerlaw16_TreeRefuses.j2 k x2 x7 x1 (decide (x1 ≤ 7))) else (wringerlaw16_TreeRefuses.j2 k x2 x7 x1 false)
def wringerlaw16_TreeRefuses.j2 : Nat → Int → Int → Int → Bool → Option (Bool)
  | 0, _, _, _, _ => none
  | k + 1, x2, x7, x8, x38 => if x38 = true then (wringerlaw16_TreeRefuses.j3 k x2 x7 (wrap64 (x8 + 4))) else (wringerlaw16_TreeRefuses.j3 k x2 x7 x8)
def wringerlaw16_TreeRefuses.j3 : Nat → Int → Int → Int → Option (Bool)
  | 0, _, _, _ => none
  | k + 1, x2, x7, x8 => (tree_Put.f (([0, x7] : List Int)) 5).bind fun bt104 => ((tree_Put.f ([] : List Int) x8).bind fun bt106 => ((tree_Get.f (⟨#[]⟩ : ByteArray) 0 x8).bind fun bt108 => ((tree_Get.f (⟨#[]⟩ : ByteArray) (mn x2 (-1)) 5).bind fun bt112 => ((tree_Get.f (⟨#[]⟩ : ByteArray) (mx x2 4097) 5).bind fun bt116 => ((tree_Get.f (⟨#[0, 0, 0, 0, 0]⟩ : ByteArray) 0 5).bind fun bt120 => ((tree_Nodes.f k x7).bind fun bt124 => (if bt104.1.toList = ([] : List UInt8) then ((wringerlaw1_Err.f bt104.2).bind fun t130 => (if t130 = 1 then ((wringerlaw1_Err.f bt106.2).bind fun t131 => (if t131 = 1 then ((wringerlaw1_Err.f bt108.2).bind fun t132 => (if t132 = 1 then ((wringerlaw1_Err.f bt112.2).bind fun t133 => (if t133 = 1 then ((wringerlaw1_Err.f bt116.2).bind fun t134 => (if t134 = 1 then ((wringerlaw1_Err.f bt120.2).bind fun t135 => (if t135 = 0 then (if (wrap64 ((wrap64 ((bt120.1.length : Int) + (bt124.1.length : Int))) + (bt124.2.length : Int))) = 0 then ((wringerlaw16_awake.f k).bind fun t136 => (some t136)) else (none)) else (none))) else (none))) else (none))) else (none))) else (none))) else (none))) else (none))))))))
end
def wringerlaw16_TreeRefuses.f (k : Nat) (a0 : Int) (a1 : Int) (a2 : Int) : Option (Bool) := if a0 ≥ 0 then (wringerlaw16_TreeRefuses.j0 k a1 a2 a0 (decide (a0 < 65))) else (wringerlaw16_TreeRefuses.j0 k a1 a2 a0 false)
theorem wringerlaw16_TreeRefuses.mono_l : ∀ k, (∀ y0 y1 y2 y3, LeO (wringerlaw16_TreeRefuses.j0 k y0 y1 y2 y3) (wringerlaw16_TreeRefuses.j0 (k + 1) y0 y1 y2 y3)) ∧ (∀ y0 y1 y2, LeO (wringerlaw16_TreeRefuses.j1 k y0 y1 y2) (wringerlaw16_TreeRefuses.j1 (k + 1) y0 y1 y2)) ∧ (∀ y0 y1 y2 y3, LeO (wringerlaw16_TreeRefuses.j2 k y0 y1 y2 y3) (wringerlaw16_TreeRefuses.j2 (k + 1) y0 y1 y2 y3)) ∧ (∀ y0 y1 y2, LeO (wringerlaw16_TreeRefuses.j3 k y0 y1 y2) (wringerlaw16_TreeRefuses.j3 (k + 1) y0 y1 y2))
  | 0 => ⟨fun _ _ _ _ r h => by simp [wringerlaw16_TreeRefuses.j0] at h, fun _ _ _ r h => by simp [wringerlaw16_TreeRefuses.j1] at h, fun _ _ _ _ r h => by simp [wringerlaw16_TreeRefuses.j2] at h, fun _ _ _ r h => by simp [wringerlaw16_TreeRefuses.j3] at h⟩
  | k + 1 => by
    obtain ⟨ih0, ih1, ih2, ih3⟩ := wringerlaw16_TreeRefuses.mono_l k
    refine ⟨?_, ?_, ?_, ?_⟩
    · intro y0 y1 y2 y3
      unfold wringerlaw16_TreeRefuses.j0
      repeat' first
      | (with_reducible exact ih0 _ _ _ _)
      | (with_reducible exact ih1 _ _ _)
      | (with_reducible exact ih2 _ _ _ _)
      | (with_reducible exact ih3 _ _ _)
      | (with_reducible exact tree_Nodes.mono _ _)
      | (with_reducible exact wringerlaw16_awake.mono _)
      | (with_reducible exact LeO.refl _)
      | (with_reducible exact LeO.none _)
      | (with_reducible refine LeO.ite ?_ ?_)
      | (with_reducible refine LeO.bind ?_ (fun _ => ?_))
      | exact ih0 _ _ _ _
      | exact ih1 _ _ _
      | exact ih2 _ _ _ _
      | exact ih3 _ _ _
      | exact tree_Nodes.mono _ _
      | exact wringerlaw16_awake.mono _
      | exact LeO.none _
      | refine LeO.ite ?_ ?_
      | refine LeO.bind ?_ (fun _ => ?_)
    · intro y0 y1 y2
      unfold wringerlaw16_TreeRefuses.j1
      repeat' first
      | (with_reducible exact ih0 _ _ _ _)
      | (with_reducible exact ih1 _ _ _)
      | (with_reducible exact ih2 _ _ _ _)
      | (with_reducible exact ih3 _ _ _)
      | (with_reducible exact tree_Nodes.mono _ _)
      | (with_reducible exact wringerlaw16_awake.mono _)
      | (with_reducible exact LeO.refl _)
      | (with_reducible exact LeO.none _)
      | (with_reducible refine LeO.ite ?_ ?_)
      | (with_reducible refine LeO.bind ?_ (fun _ => ?_))
      | exact ih0 _ _ _ _
      | exact ih1 _ _ _
      | exact ih2 _ _ _ _
      | exact ih3 _ _ _
      | exact tree_Nodes.mono _ _
      | exact wringerlaw16_awake.mono _
      | exact LeO.none _
      | refine LeO.ite ?_ ?_
      | refine LeO.bind ?_ (fun _ => ?_)
    · intro y0 y1 y2 y3
      unfold wringerlaw16_TreeRefuses.j2
      repeat' first
      | (with_reducible exact ih0 _ _ _ _)
      | (with_reducible exact ih1 _ _ _)
      | (with_reducible exact ih2 _ _ _ _)
      | (with_reducible exact ih3 _ _ _)
      | (with_reducible exact tree_Nodes.mono _ _)
      | (with_reducible exact wringerlaw16_awake.mono _)
      | (with_reducible exact LeO.refl _)
      | (with_reducible exact LeO.none _)
      | (with_reducible refine LeO.ite ?_ ?_)
      | (with_reducible refine LeO.bind ?_ (fun _ => ?_))
      | exact ih0 _ _ _ _
      | exact ih1 _ _ _
      | exact ih2 _ _ _ _
      | exact ih3 _ _ _
      | exact tree_Nodes.mono _ _
      | exact wringerlaw16_awake.mono _
      | exact LeO.none _
      | refine LeO.ite ?_ ?_
      | refine LeO.bind ?_ (fun _ => ?_)
    · intro y0 y1 y2
      unfold wringerlaw16_TreeRefuses.j3
      repeat' first
      | (with_reducible exact ih0 _ _ _ _)
      | (with_reducible exact ih1 _ _ _)
      | (with_reducible exact ih2 _ _ _ _)
      | (with_reducible exact ih3 _ _ _)
      | (with_reducible exact tree_Nodes.mono _ _)
      | (with_reducible exact wringerlaw16_awake.mono _)
      | (with_reducible exact LeO.refl _)
      | (with_reducible exact LeO.none _)
      | (with_reducible refine LeO.ite ?_ ?_)
      | (with_reducible refine LeO.bind ?_ (fun _ => ?_))
      | exact ih0 _ _ _ _
      | exact ih1 _ _ _
      | exact ih2 _ _ _ _
      | exact ih3 _ _ _
      | exact tree_Nodes.mono _ _
      | exact wringerlaw16_awake.mono _
      | exact LeO.none _
      | refine LeO.ite ?_ ?_
      | refine LeO.bind ?_ (fun _ => ?_)
theorem wringerlaw16_TreeRefuses.mono : ∀ a0 a1 a2 k, LeO (wringerlaw16_TreeRefuses.f k a0 a1 a2) (wringerlaw16_TreeRefuses.f (k + 1) a0 a1 a2) := by
  intro a0 a1 a2 k
  obtain ⟨ih0, ih1, ih2, ih3⟩ := wringerlaw16_TreeRefuses.mono_l k
  unfold wringerlaw16_TreeRefuses.f
  repeat' first
      | (with_reducible exact ih0 _ _ _ _)
      | (with_reducible exact ih1 _ _ _)
      | (with_reducible exact ih2 _ _ _ _)
      | (with_reducible exact ih3 _ _ _)
      | (with_reducible exact tree_Nodes.mono _ _)
      | (with_reducible exact wringerlaw16_awake.mono _)
      | (with_reducible exact LeO.refl _)
      | (with_reducible exact LeO.none _)
      | (with_reducible refine LeO.ite ?_ ?_)
      | (with_reducible refine LeO.bind ?_ (fun _ => ?_))
      | exact ih0 _ _ _ _
      | exact ih1 _ _ _
      | exact ih2 _ _ _ _
      | exact ih3 _ _ _
      | exact tree_Nodes.mono _ _
      | exact wringerlaw16_awake.mono _
      | exact LeO.none _
      | refine LeO.ite ?_ ?_
      | refine LeO.bind ?_ (fun _ => ?_)
set_option maxHeartbeats 8000000 in
set_option maxRecDepth 100000 in
theorem wringerlaw16_TreeRefuses.calls (k : Nat) (a0 : Int) (a1 : Int) (a2 : Int) (r : Bool) (w : World) (h : wringerlaw16_TreeRefuses.f k a0 a1 a2 = some r) :
    Calls Try.prog 3 #[.int .i64 a0, .int .i64 a1, .int .i64 a2] w fun e w' => e = .returned (.bool r) ∧ Below w.heap.size w w' := by
  have HB := Aside0.mk (Below.refl w.heap.size w)
  have H : (if a0 ≥ 0 then (wringerlaw16_TreeRefuses.j0 k a1 a2 a0 (decide (a0 < 65))) else (wringerlaw16_TreeRefuses.j0 k a1 a2 a0 false)) = some r := h
  clear h
  have HC4 := Aside0.mk H
  clear H
  go_enter Try.func3, Try.ntmps3
  go_upto_region 2 with (fail)
  go_cut [29] (fun v29 wc => ∃ (kq : Nat) (x29_3 : Bool), v29 = .bool x29_3 ∧ Aside0 (wringerlaw16_TreeRefuses.j0 kq a1 a2 a0 x29_3 = some r) ∧ Aside0 (kq ≤ k) ∧ Aside0 (Below w.heap.size w wc))
  case first =>
    have H := HC4.out
    clear HC4
    by_cases c5 : a0 ≥ 0
    · rw [if_pos c5] at H
      have c5b0 : decide (0 ≤ a0) = true := decide_eq_true c5
      clear c5
      (first | rw [c5b0] | (simp only [i64_w, i32_w]; rw [c5b0]) | skip)
      have H' := Aside0.mk H
      clear H
      go_wp2
      go_meet
      case rel => exact ⟨_, (decide (a0 < 65)), (by first | rfl | (simp; done) | (simp [*]; done)), H', ⟨by first | omega | exact Nat.le_refl _⟩, ⟨by repeat (first | (with_reducible first | exact HB.out | apply below_alloc | apply pw_below_drewN | apply below_drew1) | exact HB.out)⟩⟩
    · rw [if_neg c5] at H
      have c5b0 : decide (0 ≤ a0) = false := decide_eq_false c5
      clear c5
      (first | rw [c5b0] | (simp only [i64_w, i32_w]; rw [c5b0]) | skip)
      have H' := Aside0.mk H
      clear H
      go_wp2
      go_meet
      case rel => exact ⟨_, (false), (by first | rfl | (simp; done) | (simp [*]; done)), H', ⟨by first | omega | exact Nat.le_refl _⟩, ⟨by repeat (first | (with_reducible first | exact HB.out | apply below_alloc | apply pw_below_drewN | apply below_drew1) | exact HB.out)⟩⟩
  case rest =>
    clear HC4
    try clear p2
    try clear c3
    try clear c5
    try clear c5b0
    obtain ⟨kq, x29_3, rfl, HA, HJ3, HB⟩ := hcut
    cases kq with
    | zero => exact absurd HA.out (by simp [wringerlaw16_TreeRefuses.j0])
    | succ kj3 =>
      have H := HA.out
      clear HA
      simp only [wringerlaw16_TreeRefuses.j0] at H
      have HC6 := Aside0.mk H
      clear H
      go_upto_if 29 with (fail)
      go_cut [7] (fun v7 wc => ∃ (kq : Nat) (x7_5 : Int), v7 = .int .i64 x7_5 ∧ Aside0 (wringerlaw16_TreeRefuses.j1 kq a1 a2 x7_5 = some r) ∧ Aside0 (kq ≤ kj3) ∧ Aside0 (Below w.heap.size w wc))
      case first =>
        have H := HC6.out
        clear HC6
        by_cases c7 : x29_3 = true
        · subst c7
          have H1 : (wringerlaw16_TreeRefuses.j1 kj3 a1 a2 (wrap64 ((-1) - a0))) = some r := by rw [if_pos rfl] at H; exact H
          clear H
          have H := H1
          clear H1
          have H' := Aside0.mk H
          clear H
          go_wp2
          go_meet
          case rel => exact ⟨_, (wrap64 ((-1) - a0)), (by first | rfl | (simp; done) | (simp [*]; done)), H', ⟨by have := HJ3.out; first | omega | exact Nat.le_refl _⟩, ⟨by repeat (first | (with_reducible first | exact HB.out | apply below_alloc | apply pw_below_drewN | apply below_drew1) | exact HB.out)⟩⟩
        · replace c7 := Bool.eq_false_iff.mpr c7
          subst c7
          have H1 : (wringerlaw16_TreeRefuses.j1 kj3 a1 a2 a0) = some r := by rw [if_neg (show ¬ (false = true) by decide)] at H; exact H
          clear H
          have H := H1
          clear H1
          have H' := Aside0.mk H
          clear H
          go_wp2
          go_meet
          case rel => exact ⟨_, (a0), (by first | rfl | (simp; done) | (simp [*]; done)), H', ⟨by have := HJ3.out; first | omega | exact Nat.le_refl _⟩, ⟨by repeat (first | (with_reducible first | exact HB.out | apply below_alloc | apply pw_below_drewN | apply below_drew1) | exact HB.out)⟩⟩
      case rest =>
        clear HC6
        try clear p2
        try clear c3
        try clear c5
        try clear c5b0
        try clear p6
        try clear c7
        try clear p2
        obtain ⟨kq, x7_5, rfl, HA, HJ5, HB⟩ := hcut
        cases kq with
        | zero => exact absurd HA.out (by simp [wringerlaw16_TreeRefuses.j1])
        | succ kj5 =>
          have H := HA.out
          clear HA
          simp only [wringerlaw16_TreeRefuses.j1] at H
          have HC8 := Aside0.mk H
          clear H
          go_upto_region 5 with (fail)
          go_cut [38] (fun v38 wc => ∃ (kq : Nat) (x38_7 : Bool), v38 = .bool x38_7 ∧ Aside0 (wringerlaw16_TreeRefuses.j2 kq a2 x7_5 a1 x38_7 = some r) ∧ Aside0 (kq ≤ kj5) ∧ Aside0 (Below w.heap.size w wc))
          case first =>
            have H := HC8.out
            clear HC8
            by_cases c9 : a1 ≥ 4
            · rw [if_pos c9] at H
              have c9b0 : decide (4 ≤ a1) = true := decide_eq_true c9
              clear c9
              (first | rw [c9b0] | (simp only [i64_w, i32_w]; rw [c9b0]) | skip)
              have H' := Aside0.mk H
              clear H
              go_wp2
              go_meet
              case rel => exact ⟨_, (decide (a1 ≤ 7)), (by first | rfl | (simp; done) | (simp [*]; done)), H', ⟨by have := HJ3.out; have := HJ5.out; first | omega | exact Nat.le_refl _⟩, ⟨by repeat (first | (with_reducible first | exact HB.out | apply below_alloc | apply pw_below_drewN | apply below_drew1) | exact HB.out)⟩⟩
            · rw [if_neg c9] at H
              have c9b0 : decide (4 ≤ a1) = false := decide_eq_false c9
              clear c9
              (first | rw [c9b0] | (simp only [i64_w, i32_w]; rw [c9b0]) | skip)
              have H' := Aside0.mk H
              clear H
              go_wp2
              go_meet
              case rel => exact ⟨_, (false), (by first | rfl | (simp; done) | (simp [*]; done)), H', ⟨by have := HJ3.out; have := HJ5.out; first | omega | exact Nat.le_refl _⟩, ⟨by repeat (first | (with_reducible first | exact HB.out | apply below_alloc | apply pw_below_drewN | apply below_drew1) | exact HB.out)⟩⟩
          case rest =>
            clear HC8
            try clear p2
            try clear c3
            try clear c5
            try clear c5b0
            try clear p6
            try clear c7
            try clear c9
            try clear c9b0
            try clear p2
            try clear p6
            obtain ⟨kq, x38_7, rfl, HA, HJ7, HB⟩ := hcut
            cases kq with
            | zero => exact absurd HA.out (by simp [wringerlaw16_TreeRefuses.j2])
            | succ kj7 =>
              have H := HA.out
              clear HA
              simp only [wringerlaw16_TreeRefuses.j2] at H
              have HC10 := Aside0.mk H
              clear H
              go_upto_if 38 with (fail)
              go_cut [8] (fun v8 wc => ∃ (kq : Nat) (x8_9 : Int), v8 = .int .i64 x8_9 ∧ Aside0 (wringerlaw16_TreeRefuses.j3 kq a2 x7_5 x8_9 = some r) ∧ Aside0 (kq ≤ kj7) ∧ Aside0 (Below w.heap.size w wc))
              case first =>
                have H := HC10.out
                clear HC10
                by_cases c11 : x38_7 = true
                · subst c11
                  have H1 : (wringerlaw16_TreeRefuses.j3 kj7 a2 x7_5 (wrap64 (a1 + 4))) = some r := by rw [if_pos rfl] at H; exact H
                  clear H
                  have H := H1
                  clear H1
                  have H' := Aside0.mk H
                  clear H
                  go_wp2
                  go_meet
                  case rel => exact ⟨_, (wrap64 (a1 + 4)), (by first | rfl | (simp; done) | (simp [*]; done)), H', ⟨by have := HJ3.out; have := HJ5.out; have := HJ7.out; first | omega | exact Nat.le_refl _⟩, ⟨by repeat (first | (with_reducible first | exact HB.out | apply below_alloc | apply pw_below_drewN | apply below_drew1) | exact HB.out)⟩⟩
                · replace c11 := Bool.eq_false_iff.mpr c11
                  subst c11
                  have H1 : (wringerlaw16_TreeRefuses.j3 kj7 a2 x7_5 a1) = some r := by rw [if_neg (show ¬ (false = true) by decide)] at H; exact H
                  clear H
                  have H := H1
                  clear H1
                  have H' := Aside0.mk H
                  clear H
                  go_wp2
                  go_meet
                  case rel => exact ⟨_, (a1), (by first | rfl | (simp; done) | (simp [*]; done)), H', ⟨by have := HJ3.out; have := HJ5.out; have := HJ7.out; first | omega | exact Nat.le_refl _⟩, ⟨by repeat (first | (with_reducible first | exact HB.out | apply below_alloc | apply pw_below_drewN | apply below_drew1) | exact HB.out)⟩⟩
              case rest =>
                clear HC10
                try clear c1
                try clear p2
                try clear c3
                try clear c5
                try clear c5b0
                try clear p6
                try clear c7
                try clear c9
                try clear c9b0
                try clear c11
                try clear p2
                try clear p6
                obtain ⟨kq, x8_9, rfl, HA, HJ9, HB⟩ := hcut
                cases kq with
                | zero => exact absurd HA.out (by simp [wringerlaw16_TreeRefuses.j3])
                | succ kj9 =>
                  have H := HA.out
                  clear HA
                  simp only [wringerlaw16_TreeRefuses.j3] at H
                  obtain ⟨y101, hy101⟩ : ∃ y_ : List Int, y_ = (([0, x7_5] : List Int)) := ⟨_, rfl⟩
                  replace H : ((tree_Put.f y101 5).bind fun bt104 => ((tree_Put.f ([] : List Int) x8_9).bind fun bt106 => ((tree_Get.f (⟨#[]⟩ : ByteArray) 0 x8_9).bind fun bt108 => ((tree_Get.f (⟨#[]⟩ : ByteArray) (mn a2 (-1)) 5).bind fun bt112 => ((tree_Get.f (⟨#[]⟩ : ByteArray) (mx a2 4097) 5).bind fun bt116 => ((tree_Get.f (⟨#[0, 0, 0, 0, 0]⟩ : ByteArray) 0 5).bind fun bt120 => ((tree_Nodes.f kj9 x7_5).bind fun bt124 => (if bt104.1.toList = ([] : List UInt8) then ((wringerlaw1_Err.f bt104.2).bind fun t130 => (if t130 = 1 then ((wringerlaw1_Err.f bt106.2).bind fun t131 => (if t131 = 1 then ((wringerlaw1_Err.f bt108.2).bind fun t132 => (if t132 = 1 then ((wringerlaw1_Err.f bt112.2).bind fun t133 => (if t133 = 1 then ((wringerlaw1_Err.f bt116.2).bind fun t134 => (if t134 = 1 then ((wringerlaw1_Err.f bt120.2).bind fun t135 => (if t135 = 0 then (if (wrap64 ((wrap64 ((bt120.1.length : Int) + (bt124.1.length : Int))) + (bt124.2.length : Int))) = 0 then ((wringerlaw16_awake.f kj9).bind fun t136 => (some t136)) else (none)) else (none))) else (none))) else (none))) else (none))) else (none))) else (none))) else (none))))))))) = some r := by first | (rw [hy101]; with_reducible exact H) | (have H2_ := (Option.bind_some _ _).symm.trans H; rw [hy101]; with_reducible exact H2_) | (have H2_ := (Option.bind_some _ _).symm.trans H; with_reducible exact H2_) | with_reducible exact H | (rw [hy101]; exact H) | exact H
                  have Ny101 := Aside0.mk hy101
                  clear hy101
                  replace H := Option.bind_eq_some_iff.mp H
                  obtain ⟨⟨t104, t105⟩, A120, H⟩ := H
                  replace H : ((tree_Put.f ([] : List Int) x8_9).bind fun bt106 => ((tree_Get.f (⟨#[]⟩ : ByteArray) 0 x8_9).bind fun bt108 => ((tree_Get.f (⟨#[]⟩ : ByteArray) (mn a2 (-1)) 5).bind fun bt112 => ((tree_Get.f (⟨#[]⟩ : ByteArray) (mx a2 4097) 5).bind fun bt116 => ((tree_Get.f (⟨#[0, 0, 0, 0, 0]⟩ : ByteArray) 0 5).bind fun bt120 => ((tree_Nodes.f kj9 x7_5).bind fun bt124 => (if t104.toList = ([] : List UInt8) then ((wringerlaw1_Err.f t105).bind fun t130 => (if t130 = 1 then ((wringerlaw1_Err.f bt106.2).bind fun t131 => (if t131 = 1 then ((wringerlaw1_Err.f bt108.2).bind fun t132 => (if t132 = 1 then ((wringerlaw1_Err.f bt112.2).bind fun t133 => (if t133 = 1 then ((wringerlaw1_Err.f bt116.2).bind fun t134 => (if t134 = 1 then ((wringerlaw1_Err.f bt120.2).bind fun t135 => (if t135 = 0 then (if (wrap64 ((wrap64 ((bt120.1.length : Int) + (bt124.1.length : Int))) + (bt124.2.length : Int))) = 0 then ((wringerlaw16_awake.f kj9).bind fun t136 => (some t136)) else (none)) else (none))) else (none))) else (none))) else (none))) else (none))) else (none))) else (none)))))))) = some r := H
                  have A12 := Aside0.mk A120
                  clear A120
                  replace H := Option.bind_eq_some_iff.mp H
                  obtain ⟨⟨t106, t107⟩, A130, H⟩ := H
                  replace H : ((tree_Get.f (⟨#[]⟩ : ByteArray) 0 x8_9).bind fun bt108 => ((tree_Get.f (⟨#[]⟩ : ByteArray) (mn a2 (-1)) 5).bind fun bt112 => ((tree_Get.f (⟨#[]⟩ : ByteArray) (mx a2 4097) 5).bind fun bt116 => ((tree_Get.f (⟨#[0, 0, 0, 0, 0]⟩ : ByteArray) 0 5).bind fun bt120 => ((tree_Nodes.f kj9 x7_5).bind fun bt124 => (if t104.toList = ([] : List UInt8) then ((wringerlaw1_Err.f t105).bind fun t130 => (if t130 = 1 then ((wringerlaw1_Err.f t107).bind fun t131 => (if t131 = 1 then ((wringerlaw1_Err.f bt108.2).bind fun t132 => (if t132 = 1 then ((wringerlaw1_Err.f bt112.2).bind fun t133 => (if t133 = 1 then ((wringerlaw1_Err.f bt116.2).bind fun t134 => (if t134 = 1 then ((wringerlaw1_Err.f bt120.2).bind fun t135 => (if t135 = 0 then (if (wrap64 ((wrap64 ((bt120.1.length : Int) + (bt124.1.length : Int))) + (bt124.2.length : Int))) = 0 then ((wringerlaw16_awake.f kj9).bind fun t136 => (some t136)) else (none)) else (none))) else (none))) else (none))) else (none))) else (none))) else (none))) else (none))))))) = some r := H
                  have A13 := Aside0.mk A130
                  clear A130
                  replace H := Option.bind_eq_some_iff.mp H
                  obtain ⟨⟨t108, t109⟩, A140, H⟩ := H
                  replace H : ((tree_Get.f (⟨#[]⟩ : ByteArray) (mn a2 (-1)) 5).bind fun bt112 => ((tree_Get.f (⟨#[]⟩ : ByteArray) (mx a2 4097) 5).bind fun bt116 => ((tree_Get.f (⟨#[0, 0, 0, 0, 0]⟩ : ByteArray) 0 5).bind fun bt120 => ((tree_Nodes.f kj9 x7_5).bind fun bt124 => (if t104.toList = ([] : List UInt8) then ((wringerlaw1_Err.f t105).bind fun t130 => (if t130 = 1 then ((wringerlaw1_Err.f t107).bind fun t131 => (if t131 = 1 then ((wringerlaw1_Err.f t109).bind fun t132 => (if t132 = 1 then ((wringerlaw1_Err.f bt112.2).bind fun t133 => (if t133 = 1 then ((wringerlaw1_Err.f bt116.2).bind fun t134 => (if t134 = 1 then ((wringerlaw1_Err.f bt120.2).bind fun t135 => (if t135 = 0 then (if (wrap64 ((wrap64 ((bt120.1.length : Int) + (bt124.1.length : Int))) + (bt124.2.length : Int))) = 0 then ((wringerlaw16_awake.f kj9).bind fun t136 => (some t136)) else (none)) else (none))) else (none))) else (none))) else (none))) else (none))) else (none))) else (none)))))) = some r := H
                  have A14 := Aside0.mk A140
                  clear A140
                  obtain ⟨ji15, hji15⟩ : ∃ j_ : Int, (mn a2 (-1)) = j_ := ⟨_, rfl⟩
                  replace H : ((tree_Get.f (⟨#[]⟩ : ByteArray) (ji15) 5).bind fun bt112 => ((tree_Get.f (⟨#[]⟩ : ByteArray) (mx a2 4097) 5).bind fun bt116 => ((tree_Get.f (⟨#[0, 0, 0, 0, 0]⟩ : ByteArray) 0 5).bind fun bt120 => ((tree_Nodes.f kj9 x7_5).bind fun bt124 => (if t104.toList = ([] : List UInt8) then ((wringerlaw1_Err.f t105).bind fun t130 => (if t130 = 1 then ((wringerlaw1_Err.f t107).bind fun t131 => (if t131 = 1 then ((wringerlaw1_Err.f t109).bind fun t132 => (if t132 = 1 then ((wringerlaw1_Err.f bt112.2).bind fun t133 => (if t133 = 1 then ((wringerlaw1_Err.f bt116.2).bind fun t134 => (if t134 = 1 then ((wringerlaw1_Err.f bt120.2).bind fun t135 => (if t135 = 0 then (if (wrap64 ((wrap64 ((bt120.1.length : Int) + (bt124.1.length : Int))) + (bt124.2.length : Int))) = 0 then ((wringerlaw16_awake.f kj9).bind fun t136 => (some t136)) else (none)) else (none))) else (none))) else (none))) else (none))) else (none))) else (none))) else (none)))))) = some r := by first | (rw [hji15] at H; exact H) | (simp only [hji15] at H ⊢; exact H)
                  (try rw [hji15] at A12)
                  (try rw [hji15] at A13)
                  (try rw [hji15] at A14)
                  have hji15_ : (if (-1) < a2 then (-1) else a2) = ji15 := hji15
                  replace H := Option.bind_eq_some_iff.mp H
                  obtain ⟨⟨t112, t113⟩, A160, H⟩ := H
                  replace H : ((tree_Get.f (⟨#[]⟩ : ByteArray) (mx a2 4097) 5).bind fun bt116 => ((tree_Get.f (⟨#[0, 0, 0, 0, 0]⟩ : ByteArray) 0 5).bind fun bt120 => ((tree_Nodes.f kj9 x7_5).bind fun bt124 => (if t104.toList = ([] : List UInt8) then ((wringerlaw1_Err.f t105).bind fun t130 => (if t130 = 1 then ((wringerlaw1_Err.f t107).bind fun t131 => (if t131 = 1 then ((wringerlaw1_Err.f t109).bind fun t132 => (if t132 = 1 then ((wringerlaw1_Err.f t113).bind fun t133 => (if t133 = 1 then ((wringerlaw1_Err.f bt116.2).bind fun t134 => (if t134 = 1 then ((wringerlaw1_Err.f bt120.2).bind fun t135 => (if t135 = 0 then (if (wrap64 ((wrap64 ((bt120.1.length : Int) + (bt124.1.length : Int))) + (bt124.2.length : Int))) = 0 then ((wringerlaw16_awake.f kj9).bind fun t136 => (some t136)) else (none)) else (none))) else (none))) else (none))) else (none))) else (none))) else (none))) else (none))))) = some r := H
                  have A16 := Aside0.mk A160
                  clear A160
                  obtain ⟨ji17, hji17⟩ : ∃ j_ : Int, (mx a2 4097) = j_ := ⟨_, rfl⟩
                  replace H : ((tree_Get.f (⟨#[]⟩ : ByteArray) (ji17) 5).bind fun bt116 => ((tree_Get.f (⟨#[0, 0, 0, 0, 0]⟩ : ByteArray) 0 5).bind fun bt120 => ((tree_Nodes.f kj9 x7_5).bind fun bt124 => (if t104.toList = ([] : List UInt8) then ((wringerlaw1_Err.f t105).bind fun t130 => (if t130 = 1 then ((wringerlaw1_Err.f t107).bind fun t131 => (if t131 = 1 then ((wringerlaw1_Err.f t109).bind fun t132 => (if t132 = 1 then ((wringerlaw1_Err.f t113).bind fun t133 => (if t133 = 1 then ((wringerlaw1_Err.f bt116.2).bind fun t134 => (if t134 = 1 then ((wringerlaw1_Err.f bt120.2).bind fun t135 => (if t135 = 0 then (if (wrap64 ((wrap64 ((bt120.1.length : Int) + (bt124.1.length : Int))) + (bt124.2.length : Int))) = 0 then ((wringerlaw16_awake.f kj9).bind fun t136 => (some t136)) else (none)) else (none))) else (none))) else (none))) else (none))) else (none))) else (none))) else (none))))) = some r := by first | (rw [hji17] at H; exact H) | (simp only [hji17] at H ⊢; exact H)
                  (try rw [hji17] at A12)
                  (try rw [hji17] at A13)
                  (try rw [hji17] at A14)
                  (try rw [hji17] at A16)
                  have hji17_ : (if a2 < 4097 then 4097 else a2) = ji17 := hji17
                  replace H := Option.bind_eq_some_iff.mp H
                  obtain ⟨⟨t116, t117⟩, A180, H⟩ := H
                  replace H : ((tree_Get.f (⟨#[0, 0, 0, 0, 0]⟩ : ByteArray) 0 5).bind fun bt120 => ((tree_Nodes.f kj9 x7_5).bind fun bt124 => (if t104.toList = ([] : List UInt8) then ((wringerlaw1_Err.f t105).bind fun t130 => (if t130 = 1 then ((wringerlaw1_Err.f t107).bind fun t131 => (if t131 = 1 then ((wringerlaw1_Err.f t109).bind fun t132 => (if t132 = 1 then ((wringerlaw1_Err.f t113).bind fun t133 => (if t133 = 1 then ((wringerlaw1_Err.f t117).bind fun t134 => (if t134 = 1 then ((wringerlaw1_Err.f bt120.2).bind fun t135 => (if t135 = 0 then (if (wrap64 ((wrap64 ((bt120.1.length : Int) + (bt124.1.length : Int))) + (bt124.2.length : Int))) = 0 then ((wringerlaw16_awake.f kj9).bind fun t136 => (some t136)) else (none)) else (none))) else (none))) else (none))) else (none))) else (none))) else (none))) else (none)))) = some r := H
                  have A18 := Aside0.mk A180
                  clear A180
                  replace H := Option.bind_eq_some_iff.mp H
                  obtain ⟨⟨t120, t121⟩, A190, H⟩ := H
                  replace H : ((tree_Nodes.f kj9 x7_5).bind fun bt124 => (if t104.toList = ([] : List UInt8) then ((wringerlaw1_Err.f t105).bind fun t130 => (if t130 = 1 then ((wringerlaw1_Err.f t107).bind fun t131 => (if t131 = 1 then ((wringerlaw1_Err.f t109).bind fun t132 => (if t132 = 1 then ((wringerlaw1_Err.f t113).bind fun t133 => (if t133 = 1 then ((wringerlaw1_Err.f t117).bind fun t134 => (if t134 = 1 then ((wringerlaw1_Err.f t121).bind fun t135 => (if t135 = 0 then (if (wrap64 ((wrap64 ((t120.length : Int) + (bt124.1.length : Int))) + (bt124.2.length : Int))) = 0 then ((wringerlaw16_awake.f kj9).bind fun t136 => (some t136)) else (none)) else (none))) else (none))) else (none))) else (none))) else (none))) else (none))) else (none))) = some r := H
                  have A19 := Aside0.mk A190
                  clear A190
                  replace H := Option.bind_eq_some_iff.mp H
                  obtain ⟨⟨t124, t125⟩, A200, H⟩ := H
                  replace H : (if t104.toList = ([] : List UInt8) then ((wringerlaw1_Err.f t105).bind fun t130 => (if t130 = 1 then ((wringerlaw1_Err.f t107).bind fun t131 => (if t131 = 1 then ((wringerlaw1_Err.f t109).bind fun t132 => (if t132 = 1 then ((wringerlaw1_Err.f t113).bind fun t133 => (if t133 = 1 then ((wringerlaw1_Err.f t117).bind fun t134 => (if t134 = 1 then ((wringerlaw1_Err.f t121).bind fun t135 => (if t135 = 0 then (if (wrap64 ((wrap64 ((t120.length : Int) + (t124.length : Int))) + (t125.length : Int))) = 0 then ((wringerlaw16_awake.f kj9).bind fun t136 => (some t136)) else (none)) else (none))) else (none))) else (none))) else (none))) else (none))) else (none))) else (none)) = some r := H
                  have A20 := Aside0.mk A200
                  clear A200
                  by_cases c21 : t104.toList = ([] : List UInt8)
                  · rw [if_pos c21] at H
                    have c21b0 : (t104.toList == ([] : List UInt8)) = true := beq_iff_eq.mpr c21
                    have c21b1 : (t104.toList != ([] : List UInt8)) = false := bne_eq_false_iff_eq.mpr c21
                    clear c21
                    replace H := Option.bind_eq_some_iff.mp H
                    obtain ⟨t130, A220, H⟩ := H
                    replace H : (if t130 = 1 then ((wringerlaw1_Err.f t107).bind fun t131 => (if t131 = 1 then ((wringerlaw1_Err.f t109).bind fun t132 => (if t132 = 1 then ((wringerlaw1_Err.f t113).bind fun t133 => (if t133 = 1 then ((wringerlaw1_Err.f t117).bind fun t134 => (if t134 = 1 then ((wringerlaw1_Err.f t121).bind fun t135 => (if t135 = 0 then (if (wrap64 ((wrap64 ((t120.length : Int) + (t124.length : Int))) + (t125.length : Int))) = 0 then ((wringerlaw16_awake.f kj9).bind fun t136 => (some t136)) else (none)) else (none))) else (none))) else (none))) else (none))) else (none))) else (none)) = some r := H
                    have A22 := Aside0.mk A220
                    clear A220
                    by_cases c23 : t130 = 1
                    · rw [if_pos c23] at H
                      have c23b0 : (t130 == 1) = true := beq_iff_eq.mpr c23
                      have c23b1 : (t130 != 1) = false := bne_eq_false_iff_eq.mpr c23
                      clear c23
                      replace H := Option.bind_eq_some_iff.mp H
                      obtain ⟨t131, A240, H⟩ := H
                      replace H : (if t131 = 1 then ((wringerlaw1_Err.f t109).bind fun t132 => (if t132 = 1 then ((wringerlaw1_Err.f t113).bind fun t133 => (if t133 = 1 then ((wringerlaw1_Err.f t117).bind fun t134 => (if t134 = 1 then ((wringerlaw1_Err.f t121).bind fun t135 => (if t135 = 0 then (if (wrap64 ((wrap64 ((t120.length : Int) + (t124.length : Int))) + (t125.length : Int))) = 0 then ((wringerlaw16_awake.f kj9).bind fun t136 => (some t136)) else (none)) else (none))) else (none))) else (none))) else (none))) else (none)) = some r := H
                      have A24 := Aside0.mk A240
                      clear A240
                      by_cases c25 : t131 = 1
                      · rw [if_pos c25] at H
                        have c25b0 : (t131 == 1) = true := beq_iff_eq.mpr c25
                        have c25b1 : (t131 != 1) = false := bne_eq_false_iff_eq.mpr c25
                        clear c25
                        replace H := Option.bind_eq_some_iff.mp H
                        obtain ⟨t132, A260, H⟩ := H
                        replace H : (if t132 = 1 then ((wringerlaw1_Err.f t113).bind fun t133 => (if t133 = 1 then ((wringerlaw1_Err.f t117).bind fun t134 => (if t134 = 1 then ((wringerlaw1_Err.f t121).bind fun t135 => (if t135 = 0 then (if (wrap64 ((wrap64 ((t120.length : Int) + (t124.length : Int))) + (t125.length : Int))) = 0 then ((wringerlaw16_awake.f kj9).bind fun t136 => (some t136)) else (none)) else (none))) else (none))) else (none))) else (none)) = some r := H
                        have A26 := Aside0.mk A260
                        clear A260
                        by_cases c27 : t132 = 1
                        · rw [if_pos c27] at H
                          have c27b0 : (t132 == 1) = true := beq_iff_eq.mpr c27
                          have c27b1 : (t132 != 1) = false := bne_eq_false_iff_eq.mpr c27
                          clear c27
                          replace H := Option.bind_eq_some_iff.mp H
                          obtain ⟨t133, A280, H⟩ := H
                          replace H : (if t133 = 1 then ((wringerlaw1_Err.f t117).bind fun t134 => (if t134 = 1 then ((wringerlaw1_Err.f t121).bind fun t135 => (if t135 = 0 then (if (wrap64 ((wrap64 ((t120.length : Int) + (t124.length : Int))) + (t125.length : Int))) = 0 then ((wringerlaw16_awake.f kj9).bind fun t136 => (some t136)) else (none)) else (none))) else (none))) else (none)) = some r := H
                          have A28 := Aside0.mk A280
                          clear A280
                          by_cases c29 : t133 = 1
                          · rw [if_pos c29] at H
                            have c29b0 : (t133 == 1) = true := beq_iff_eq.mpr c29
                            have c29b1 : (t133 != 1) = false := bne_eq_false_iff_eq.mpr c29
                            clear c29
                            replace H := Option.bind_eq_some_iff.mp H
                            obtain ⟨t134, A300, H⟩ := H
                            replace H : (if t134 = 1 then ((wringerlaw1_Err.f t121).bind fun t135 => (if t135 = 0 then (if (wrap64 ((wrap64 ((t120.length : Int) + (t124.length : Int))) + (t125.length : Int))) = 0 then ((wringerlaw16_awake.f kj9).bind fun t136 => (some t136)) else (none)) else (none))) else (none)) = some r := H
                            have A30 := Aside0.mk A300
                            clear A300
                            by_cases c31 : t134 = 1
                            · rw [if_pos c31] at H
                              have c31b0 : (t134 == 1) = true := beq_iff_eq.mpr c31
                              have c31b1 : (t134 != 1) = false := bne_eq_false_iff_eq.mpr c31
                              clear c31
                              replace H := Option.bind_eq_some_iff.mp H
                              obtain ⟨t135, A320, H⟩ := H
                              replace H : (if t135 = 0 then (if (wrap64 ((wrap64 ((t120.length : Int) + (t124.length : Int))) + (t125.length : Int))) = 0 then ((wringerlaw16_awake.f kj9).bind fun t136 => (some t136)) else (none)) else (none)) = some r := H
                              have A32 := Aside0.mk A320
                              clear A320
                              by_cases c33 : t135 = 0
                              · rw [if_pos c33] at H
                                have c33b0 : (t135 == 0) = true := beq_iff_eq.mpr c33
                                have c33b1 : (t135 != 0) = false := bne_eq_false_iff_eq.mpr c33
                                clear c33
                                by_cases c34 : (wrap64 ((wrap64 ((t120.length : Int) + (t124.length : Int))) + (t125.length : Int))) = 0
                                · rw [if_pos c34] at H
                                  have c34b0 : ((wrap64 ((wrap64 ((t120.length : Int) + (t124.length : Int))) + (t125.length : Int))) == 0) = true := beq_iff_eq.mpr c34
                                  have c34b1 : ((wrap64 ((wrap64 ((t120.length : Int) + (t124.length : Int))) + (t125.length : Int))) != 0) = false := bne_eq_false_iff_eq.mpr c34
                                  clear c34
                                  replace H := Option.bind_eq_some_iff.mp H
                                  obtain ⟨t136, A350, H⟩ := H
                                  replace H : (some t136) = some r := H
                                  have A35 := Aside0.mk A350
                                  clear A350
                                  obtain rfl := Option.some.inj H
                                  go_wp2_with (first | ((with_reducible refine gate_dst (N := 43) rfl ?_); (try (refine gate_guard (by rfl) ?_; dsimp only)); refine Kd.R_lit (Kd.int .i64) _ 3 ?hg (N := 43) ?hd (xs := ([0, x7_5] : List Int)) (inner := [.int .i64 0, .int .i64 x7_5]) (ok := fun _ => True) (okp := fun _ => True) ?hr ?hp (fun _ hk => hk) trivial (Below.refl _ _) (Nat.le_refl _) (by simp) ?_; (case hd => rfl); (case hg => rfl); (case hr => first | (go_simp; done) | (go_simp; rfl)); (case hp => exact (Reps.one (show Kd.M (Kd.int .i64) _ _ _ 0 [.int .i64 0] from rfl) (Reps.one (show Kd.M (Kd.int .i64) _ _ _ x7_5 [.int .i64 x7_5] from rfl) (Reps.none _ _)))); intro v102 w36 ho37 hb hg_ hnew_; clear hg_ hnew_; (first | rw [← Ny101.out] at ho37 | (simp only [Int.reduceToNat] at ho37; rw [← Ny101.out] at ho37)); have n0_ := Aside0.mk (Kd.R_lower ho37 (below_size (by repeat (first | (with_reducible first | exact HB.out | apply below_alloc | apply pw_below_drewN | apply below_drew1) | exact HB.out)))); have n1_ := Aside0.mk (below_step (by repeat (first | (with_reducible first | exact HB.out | apply below_alloc | apply pw_below_drewN | apply below_drew1) | exact HB.out)) hb); clear HB; have HO103 := n0_; have HB := n1_; clear n0_ n1_; clear hb ho37; obtain ⟨Ao38, co38, eo38⟩ := Kd.R_slice HO103.out; subst eo38) | ((with_reducible refine gate_callee (f := 14) rfl ?_); refine goesL_ (some 44) rfl rfl Try.func14 (by kernel_rfl) rfl #[.slice Ao38 y101.length co38, .int .i64 5] rfl (by (try simp only [List.map_toArray, List.map_cons, List.map_nil]); first | done | rfl | (simp only [List.length_drop, List.length_take]; rfl)) ?_; (with_reducible refine (tree_Put.calls _ _ y101 5 t104 t105 _ ?side1 ?side2 A12.out).mono ?_); (case side1 => repeat (first | exact (Kd.R_reads' HO103.out).2.2 | (with_reducible refine Kd.C_alloc ?_ _) | (with_reducible refine Kd.C_drewN ?_ _) | (with_reducible refine Kd.C_drew ?_))); (case side2 => exact (Kd.R_reads' HO103.out).2.1); rintro e w39 ⟨rfl, hb⟩; refine ⟨_, rfl, ?_⟩; have n0_ := Aside0.mk (Kd.R_below (by (with_reducible repeat (first | apply Kd.R_alloc | apply Kd.R_drewN | apply Kd.R_drew)); exact HO103.out) hb); have n1_ := Aside0.mk (below_step (by repeat (first | (with_reducible first | exact HB.out | apply below_alloc | apply pw_below_drewN | apply below_drew1) | exact HB.out)) hb); clear HO103; clear HB; have HO103 := n0_; have HB := n1_; clear n0_ n1_; (try clear hb); (try clear hb2); (try clear hk); (try clear hi)) | ((with_reducible refine gate_callee (f := 14) rfl ?_); refine goesL_ (some 49) rfl rfl Try.func14 (by kernel_rfl) rfl #[.slice none 0 0, .int .i64 x8_9] rfl (by (try simp only [List.map_toArray, List.map_cons, List.map_nil]); first | done | rfl | (simp only [List.length_drop, List.length_take]; rfl)) ?_; (refine (tree_Put.calls _ _ ([] : List Int) x8_9 t106 t107 _ ?side1 ?side2 A13.out).mono ?_); (case side1 => exact Kd.C_nil _ _); (case side2 => exact Nat.le_refl _); rintro e w40 ⟨rfl, hb⟩; refine ⟨_, rfl, ?_⟩; have n0_ := Aside0.mk (Kd.R_below (by (with_reducible repeat (first | apply Kd.R_alloc | apply Kd.R_drewN | apply Kd.R_drew)); exact HO103.out) hb); have n1_ := Aside0.mk (below_step (by repeat (first | (with_reducible first | exact HB.out | apply below_alloc | apply pw_below_drewN | apply below_drew1) | exact HB.out)) hb); clear HO103; clear HB; have HO103 := n0_; have HB := n1_; clear n0_ n1_; (try clear hb); (try clear hb2); (try clear hk); (try clear hi)) | ((with_reducible refine gate_callee (f := 15) rfl ?_); refine goesL_ (some 54) rfl rfl Try.func15 (by kernel_rfl) rfl #[.string (⟨#[]⟩ : ByteArray), .int .i64 0, .int .i64 x8_9] rfl (by (try simp only [List.map_toArray, List.map_cons, List.map_nil]); first | done | rfl | (simp only [List.length_drop, List.length_take]; rfl)) ?_; (with_reducible refine (tree_Get.calls (⟨#[]⟩ : ByteArray) 0 x8_9 t108 t109 _ A14.out).mono ?_); rintro e w41 ⟨v110, rfl, ho0, hb⟩; refine ⟨_, rfl, ?_⟩; have n0_ := Aside0.mk (Kd.R_elder' (by (with_reducible repeat (first | apply Kd.R_alloc | apply Kd.R_drewN | apply Kd.R_drew)); exact HO103.out) (Kd.R_base ho0) hb); have n1_ := Aside0.mk (Kd.R_lower (Kd.R_new' ho0 (Kd.R_lt (by (with_reducible repeat (first | apply Kd.R_alloc | apply Kd.R_drewN | apply Kd.R_drew)); exact HO103.out))) (below_size (by repeat (first | (with_reducible first | exact HB.out | apply below_alloc | apply pw_below_drewN | apply below_drew1) | exact HB.out)))); have n2_ := Aside0.mk (below_step (by repeat (first | (with_reducible first | exact HB.out | apply below_alloc | apply pw_below_drewN | apply below_drew1) | exact HB.out)) hb); clear HO103; clear HB; have HO103 := n0_; have HO111 := n1_; have HB := n2_; clear n0_ n1_ n2_; (try clear hb); (try clear hb2); (try clear hk); (try clear hi); (try clear ho0)) | ((with_reducible refine gate_callee (f := 15) rfl ?_); refine goesL_ (some 60) rfl rfl Try.func15 (by kernel_rfl) rfl #[.string (⟨#[]⟩ : ByteArray), .int .i64 ji15, .int .i64 5] rfl (by (try simp only [List.map_toArray, List.map_cons, List.map_nil]); first | done | (simp only [hji15]; rfl) | rfl | (simp only [List.length_drop, List.length_take]; rfl)) ?_; (with_reducible refine (tree_Get.calls (⟨#[]⟩ : ByteArray) ji15 5 t112 t113 _ A16.out).mono ?_); rintro e w42 ⟨v114, rfl, ho0, hb⟩; refine ⟨_, rfl, ?_⟩; have n0_ := Aside0.mk (Kd.R_elder' (by (with_reducible repeat (first | apply Kd.R_alloc | apply Kd.R_drewN | apply Kd.R_drew)); exact HO103.out) (Kd.R_base ho0) hb); have n1_ := Aside0.mk (Kd.R_elder' (by (with_reducible repeat (first | apply Kd.R_alloc | apply Kd.R_drewN | apply Kd.R_drew)); exact HO111.out) (Kd.R_base ho0) hb); have n2_ := Aside0.mk (Kd.R_lower (Kd.R_new' (Kd.R_new' ho0 (Kd.R_lt (by (with_reducible repeat (first | apply Kd.R_alloc | apply Kd.R_drewN | apply Kd.R_drew)); exact HO103.out))) (Kd.R_lt (by (with_reducible repeat (first | apply Kd.R_alloc | apply Kd.R_drewN | apply Kd.R_drew)); exact HO111.out))) (below_size (by repeat (first | (with_reducible first | exact HB.out | apply below_alloc | apply pw_below_drewN | apply below_drew1) | exact HB.out)))); have n3_ := Aside0.mk (below_step (by repeat (first | (with_reducible first | exact HB.out | apply below_alloc | apply pw_below_drewN | apply below_drew1) | exact HB.out)) hb); clear HO103; clear HO111; clear HB; have HO103 := n0_; have HO111 := n1_; have HO115 := n2_; have HB := n3_; clear n0_ n1_ n2_ n3_; (try clear hb); (try clear hb2); (try clear hk); (try clear hi); (try clear ho0)) | ((with_reducible refine gate_callee (f := 15) rfl ?_); refine goesL_ (some 66) rfl rfl Try.func15 (by kernel_rfl) rfl #[.string (⟨#[]⟩ : ByteArray), .int .i64 ji17, .int .i64 5] rfl (by (try simp only [List.map_toArray, List.map_cons, List.map_nil]); first | done | (simp only [hji17]; rfl) | rfl | (simp only [List.length_drop, List.length_take]; rfl)) ?_; (with_reducible refine (tree_Get.calls (⟨#[]⟩ : ByteArray) ji17 5 t116 t117 _ A18.out).mono ?_); rintro e w43 ⟨v118, rfl, ho0, hb⟩; refine ⟨_, rfl, ?_⟩; have n0_ := Aside0.mk (Kd.R_elder' (by (with_reducible repeat (first | apply Kd.R_alloc | apply Kd.R_drewN | apply Kd.R_drew)); exact HO103.out) (Kd.R_base ho0) hb); have n1_ := Aside0.mk (Kd.R_elder' (by (with_reducible repeat (first | apply Kd.R_alloc | apply Kd.R_drewN | apply Kd.R_drew)); exact HO111.out) (Kd.R_base ho0) hb); have n2_ := Aside0.mk (Kd.R_elder' (by (with_reducible repeat (first | apply Kd.R_alloc | apply Kd.R_drewN | apply Kd.R_drew)); exact HO115.out) (Kd.R_base ho0) hb); have n3_ := Aside0.mk (Kd.R_lower (Kd.R_new' (Kd.R_new' (Kd.R_new' ho0 (Kd.R_lt (by (with_reducible repeat (first | apply Kd.R_alloc | apply Kd.R_drewN | apply Kd.R_drew)); exact HO103.out))) (Kd.R_lt (by (with_reducible repeat (first | apply Kd.R_alloc | apply Kd.R_drewN | apply Kd.R_drew)); exact HO111.out))) (Kd.R_lt (by (with_reducible repeat (first | apply Kd.R_alloc | apply Kd.R_drewN | apply Kd.R_drew)); exact HO115.out))) (below_size (by repeat (first | (with_reducible first | exact HB.out | apply below_alloc | apply pw_below_drewN | apply below_drew1) | exact HB.out)))); have n4_ := Aside0.mk (below_step (by repeat (first | (with_reducible first | exact HB.out | apply below_alloc | apply pw_below_drewN | apply below_drew1) | exact HB.out)) hb); clear HO103; clear HO111; clear HO115; clear HB; have HO103 := n0_; have HO111 := n1_; have HO115 := n2_; have HO119 := n3_; have HB := n4_; clear n0_ n1_ n2_ n3_ n4_; (try clear hb); (try clear hb2); (try clear hk); (try clear hi); (try clear ho0)) | ((with_reducible refine gate_callee (f := 15) rfl ?_); refine goesL_ (some 70) rfl rfl Try.func15 (by kernel_rfl) rfl #[.string (⟨#[0, 0, 0, 0, 0]⟩ : ByteArray), .int .i64 0, .int .i64 5] rfl (by (try simp only [List.map_toArray, List.map_cons, List.map_nil]); first | done | rfl | (simp only [List.length_drop, List.length_take]; rfl)) ?_; (with_reducible refine (tree_Get.calls (⟨#[0, 0, 0, 0, 0]⟩ : ByteArray) 0 5 t120 t121 _ A19.out).mono ?_); rintro e w44 ⟨v122, rfl, ho0, hb⟩; refine ⟨_, rfl, ?_⟩; have n0_ := Aside0.mk (Kd.R_elder' (by (with_reducible repeat (first | apply Kd.R_alloc | apply Kd.R_drewN | apply Kd.R_drew)); exact HO103.out) (Kd.R_base ho0) hb); have n1_ := Aside0.mk (Kd.R_elder' (by (with_reducible repeat (first | apply Kd.R_alloc | apply Kd.R_drewN | apply Kd.R_drew)); exact HO111.out) (Kd.R_base ho0) hb); have n2_ := Aside0.mk (Kd.R_elder' (by (with_reducible repeat (first | apply Kd.R_alloc | apply Kd.R_drewN | apply Kd.R_drew)); exact HO115.out) (Kd.R_base ho0) hb); have n3_ := Aside0.mk (Kd.R_elder' (by (with_reducible repeat (first | apply Kd.R_alloc | apply Kd.R_drewN | apply Kd.R_drew)); exact HO119.out) (Kd.R_base ho0) hb); have n4_ := Aside0.mk (Kd.R_lower (Kd.R_new' (Kd.R_new' (Kd.R_new' (Kd.R_new' ho0 (Kd.R_lt (by (with_reducible repeat (first | apply Kd.R_alloc | apply Kd.R_drewN | apply Kd.R_drew)); exact HO103.out))) (Kd.R_lt (by (with_reducible repeat (first | apply Kd.R_alloc | apply Kd.R_drewN | apply Kd.R_drew)); exact HO111.out))) (Kd.R_lt (by (with_reducible repeat (first | apply Kd.R_alloc | apply Kd.R_drewN | apply Kd.R_drew)); exact HO115.out))) (Kd.R_lt (by (with_reducible repeat (first | apply Kd.R_alloc | apply Kd.R_drewN | apply Kd.R_drew)); exact HO119.out))) (below_size (by repeat (first | (with_reducible first | exact HB.out | apply below_alloc | apply pw_below_drewN | apply below_drew1) | exact HB.out)))); have n5_ := Aside0.mk (below_step (by repeat (first | (with_reducible first | exact HB.out | apply below_alloc | apply pw_below_drewN | apply below_drew1) | exact HB.out)) hb); clear HO103; clear HO111; clear HO115; clear HO119; clear HB; have HO103 := n0_; have HO111 := n1_; have HO115 := n2_; have HO119 := n3_; have HO123 := n4_; have HB := n5_; clear n0_ n1_ n2_ n3_ n4_ n5_; (try clear hb); (try clear hb2); (try clear hk); (try clear hi); (try clear ho0)) | ((with_reducible refine gate_callee (f := 16) rfl ?_); refine goesL_ (some 75) rfl rfl Try.func16 (by kernel_rfl) rfl #[.int .i64 x7_5] rfl (by (try simp only [List.map_toArray, List.map_cons, List.map_nil]); first | done | rfl | (simp only [List.length_drop, List.length_take]; rfl)) ?_; (with_reducible refine (tree_Nodes.calls kj9 x7_5 t124 t125 _ A20.out).mono ?_); rintro e w45 ⟨v126, v128, rfl, ho0, ho1, hb⟩; refine ⟨_, rfl, ?_⟩; have n0_ := Aside0.mk (Kd.R_mono (Kd.R_told (Kd.R_told (Kd.R_old (by (with_reducible repeat (first | apply Kd.R_alloc | apply Kd.R_drewN | apply Kd.R_drew)); exact HO103.out) hb) (Kd.R_base ho0)) (Kd.R_base ho1)) (fun _ h_ => h_.1)); have n1_ := Aside0.mk (Kd.R_mono (Kd.R_told (Kd.R_told (Kd.R_old (by (with_reducible repeat (first | apply Kd.R_alloc | apply Kd.R_drewN | apply Kd.R_drew)); exact HO111.out) hb) (Kd.R_base ho0)) (Kd.R_base ho1)) (fun _ h_ => h_.1)); have n2_ := Aside0.mk (Kd.R_mono (Kd.R_told (Kd.R_told (Kd.R_old (by (with_reducible repeat (first | apply Kd.R_alloc | apply Kd.R_drewN | apply Kd.R_drew)); exact HO115.out) hb) (Kd.R_base ho0)) (Kd.R_base ho1)) (fun _ h_ => h_.1)); have n3_ := Aside0.mk (Kd.R_mono (Kd.R_told (Kd.R_told (Kd.R_old (by (with_reducible repeat (first | apply Kd.R_alloc | apply Kd.R_drewN | apply Kd.R_drew)); exact HO119.out) hb) (Kd.R_base ho0)) (Kd.R_base ho1)) (fun _ h_ => h_.1)); have n4_ := Aside0.mk (Kd.R_mono (Kd.R_told (Kd.R_told (Kd.R_old (by (with_reducible repeat (first | apply Kd.R_alloc | apply Kd.R_drewN | apply Kd.R_drew)); exact HO123.out) hb) (Kd.R_base ho0)) (Kd.R_base ho1)) (fun _ h_ => h_.1)); have n5_ := Aside0.mk (Kd.R_lower (Kd.R_new' (Kd.R_new' (Kd.R_new' (Kd.R_new' (Kd.R_new' ho0 (Kd.R_lt (by (with_reducible repeat (first | apply Kd.R_alloc | apply Kd.R_drewN | apply Kd.R_drew)); exact HO103.out))) (Kd.R_lt (by (with_reducible repeat (first | apply Kd.R_alloc | apply Kd.R_drewN | apply Kd.R_drew)); exact HO111.out))) (Kd.R_lt (by (with_reducible repeat (first | apply Kd.R_alloc | apply Kd.R_drewN | apply Kd.R_drew)); exact HO115.out))) (Kd.R_lt (by (with_reducible repeat (first | apply Kd.R_alloc | apply Kd.R_drewN | apply Kd.R_drew)); exact HO119.out))) (Kd.R_lt (by (with_reducible repeat (first | apply Kd.R_alloc | apply Kd.R_drewN | apply Kd.R_drew)); exact HO123.out))) (below_size (by repeat (first | (with_reducible first | exact HB.out | apply below_alloc | apply pw_below_drewN | apply below_drew1) | exact HB.out)))); have n6_ := Aside0.mk (Kd.R_lower (Kd.R_new' (Kd.R_new' (Kd.R_new' (Kd.R_new' (Kd.R_new' ho1 (Kd.R_lt (by (with_reducible repeat (first | apply Kd.R_alloc | apply Kd.R_drewN | apply Kd.R_drew)); exact HO103.out))) (Kd.R_lt (by (with_reducible repeat (first | apply Kd.R_alloc | apply Kd.R_drewN | apply Kd.R_drew)); exact HO111.out))) (Kd.R_lt (by (with_reducible repeat (first | apply Kd.R_alloc | apply Kd.R_drewN | apply Kd.R_drew)); exact HO115.out))) (Kd.R_lt (by (with_reducible repeat (first | apply Kd.R_alloc | apply Kd.R_drewN | apply Kd.R_drew)); exact HO119.out))) (Kd.R_lt (by (with_reducible repeat (first | apply Kd.R_alloc | apply Kd.R_drewN | apply Kd.R_drew)); exact HO123.out))) (below_size (by repeat (first | (with_reducible first | exact HB.out | apply below_alloc | apply pw_below_drewN | apply below_drew1) | exact HB.out)))); have n7_ := Aside0.mk (below_step (by repeat (first | (with_reducible first | exact HB.out | apply below_alloc | apply pw_below_drewN | apply below_drew1) | exact HB.out)) hb); clear HO103; clear HO111; clear HO115; clear HO119; clear HO123; clear HB; have HO103 := n0_; have HO111 := n1_; have HO115 := n2_; have HO119 := n3_; have HO123 := n4_; have HO127 := n5_; have HO129 := n6_; have HB := n7_; clear n0_ n1_ n2_ n3_ n4_ n5_ n6_ n7_; (try clear hb); (try clear hb2); (try clear hk); (try clear hi); (try clear ho0); (try clear ho1)) | (go_at_call 17; (with_reducible refine (wringerlaw1_Err.calls t105 t130 _ A22.out).mono ?_); rintro e w' ⟨rfl, ⟨nd, rfl⟩⟩) | (go_at_call 17; (with_reducible refine (wringerlaw1_Err.calls t107 t131 _ A24.out).mono ?_); rintro e w' ⟨rfl, ⟨nd, rfl⟩⟩) | (go_at_call 17; (with_reducible refine (wringerlaw1_Err.calls t109 t132 _ A26.out).mono ?_); rintro e w' ⟨rfl, ⟨nd, rfl⟩⟩) | (go_at_call 17; (with_reducible refine (wringerlaw1_Err.calls t113 t133 _ A28.out).mono ?_); rintro e w' ⟨rfl, ⟨nd, rfl⟩⟩) | (go_at_call 17; (with_reducible refine (wringerlaw1_Err.calls t117 t134 _ A30.out).mono ?_); rintro e w' ⟨rfl, ⟨nd, rfl⟩⟩) | (go_at_call 17; (with_reducible refine (wringerlaw1_Err.calls t121 t135 _ A32.out).mono ?_); rintro e w' ⟨rfl, ⟨nd, rfl⟩⟩; obtain ⟨Ao46, co46, eo46⟩ := Kd.R_slice HO123.out; subst eo46; obtain ⟨Ao47, co47, eo47⟩ := Kd.R_slice HO127.out; subst eo47; obtain ⟨Ao48, co48, eo48⟩ := Kd.R_slice HO129.out; subst eo48) | (go_at_call 18; (with_reducible refine (wringerlaw16_awake.calls kj9  t136 _ A35.out).mono ?_); rintro e w49 ⟨rfl, hb⟩; have n0_ := Aside0.mk (Kd.R_below (by (with_reducible repeat (first | apply Kd.R_alloc | apply Kd.R_drewN | apply Kd.R_drew)); exact HO103.out) hb); have n1_ := Aside0.mk (Kd.R_below (by (with_reducible repeat (first | apply Kd.R_alloc | apply Kd.R_drewN | apply Kd.R_drew)); exact HO111.out) hb); have n2_ := Aside0.mk (Kd.R_below (by (with_reducible repeat (first | apply Kd.R_alloc | apply Kd.R_drewN | apply Kd.R_drew)); exact HO115.out) hb); have n3_ := Aside0.mk (Kd.R_below (by (with_reducible repeat (first | apply Kd.R_alloc | apply Kd.R_drewN | apply Kd.R_drew)); exact HO119.out) hb); have n4_ := Aside0.mk (Kd.R_below (by (with_reducible repeat (first | apply Kd.R_alloc | apply Kd.R_drewN | apply Kd.R_drew)); exact HO123.out) hb); have n5_ := Aside0.mk (Kd.R_below (by (with_reducible repeat (first | apply Kd.R_alloc | apply Kd.R_drewN | apply Kd.R_drew)); exact HO127.out) hb); have n6_ := Aside0.mk (Kd.R_below (by (with_reducible repeat (first | apply Kd.R_alloc | apply Kd.R_drewN | apply Kd.R_drew)); exact HO129.out) hb); have n7_ := Aside0.mk (below_step (by repeat (first | (with_reducible first | exact HB.out | apply below_alloc | apply pw_below_drewN | apply below_drew1) | exact HB.out)) hb); clear HO103; clear HO111; clear HO115; clear HO119; clear HO123; clear HO127; clear HO129; clear HB; have HO103 := n0_; have HO111 := n1_; have HO115 := n2_; have HO119 := n3_; have HO123 := n4_; have HO127 := n5_; have HO129 := n6_; have HB := n7_; clear n0_ n1_ n2_ n3_ n4_ n5_ n6_ n7_; (try clear hb); (try clear hb2); (try clear hk); (try clear hi)))
                                  go_ret
                                  exact ⟨by first | rfl | (simp [errW_none, errW_some] <;> rfl) | (simp only [← hji15, ← hji17]; first | rfl | (simp [errW_none, errW_some] <;> rfl)) | (simp [*, errW_none, errW_some] <;> rfl), by repeat (first | (with_reducible first | exact HB.out | apply below_alloc | apply pw_below_drewN | apply below_drew1) | exact HB.out)⟩
                                · rw [if_neg c34] at H
                                  exact absurd H (by simp)
                              · rw [if_neg c33] at H
                                exact absurd H (by simp)
                            · rw [if_neg c31] at H
                              exact absurd H (by simp)
                          · rw [if_neg c29] at H
                            exact absurd H (by simp)
                        · rw [if_neg c27] at H
                          exact absurd H (by simp)
                      · rw [if_neg c25] at H
                        exact absurd H (by simp)
                    · rw [if_neg c23] at H
                      exact absurd H (by simp)
                  · rw [if_neg c21] at H
                    exact absurd H (by simp)

/-- THE ONE PURE STATEMENT of wringerlaw16_TreeRefuses: yours. -/
def wringerlaw16_TreeRefuses.Pure : Prop := ∀ (a0 : Int) (a1 : Int) (a2 : Int), (Lit.int .i64 a0).wf = true → (Lit.int .i64 a1).wf = true → (Lit.int .i64 a2).wf = true → ∃ k, wringerlaw16_TreeRefuses.f k a0 a1 a2 = some true
theorem wringerlaw16_TreeRefuses.walk (P : wringerlaw16_TreeRefuses.Pure) (a0 : Int) (a1 : Int) (a2 : Int) (w : World) (w0 : (Lit.int .i64 a0).wf = true) (w1 : (Lit.int .i64 a1).wf = true) (w2 : (Lit.int .i64 a2).wf = true) :
    Calls Try.prog 3 #[.int .i64 a0, .int .i64 a1, .int .i64 a2] w fun e w' => e = .returned (.bool true) ∧ Below w.heap.size w w' := by
  obtain ⟨k, h⟩ := P a0 a1 a2 w0 w1 w2
  refine (wringerlaw16_TreeRefuses.calls k a0 a1 a2 true w h).mono ?_
  rintro e w' ⟨rfl, hd⟩
  exact ⟨rfl, hd⟩

end Go.Proofs.Ytgldblakdhalkaa.PTreeRefuses
