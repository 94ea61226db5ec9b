/- Written by this session's program wip/tools/giv.py over the seat's translation: Lean functions of the Go functions named below and the proofs that the calls come to them. Conditions: as each contract states. -/
import Derived.Test.YtlcngcbiacmagaaPVintShortx0
namespace Go.Proofs.Ytlcngcbiacmagaa.PVintShort
open Go.Proofs.Ytlcngcbiacmagaa.PBase
open Go.RowKit Go.Proofs.YtlcngcbiacmagaaW.PrintWords Go.Proofs.YtlcngcbiacmagaaW.PrintLast Go.Proofs.YtlcngcbiacmagaaW.PrintMore
attribute [local go_sem] fld0 fld1 fld2 max2_mx min2_mn max_two min_two max_three min_three max_four min_four   -- for this text's walks alone
set_option linter.unusedVariables false
set_option linter.unusedSimpArgs false

-- given: function 12 (vint_Put)

-- given: function 15 (wringerlaw2_awake)

/-! ### wringerlaw2_VintShort: function 4 -/
mutual
def wringerlaw2_VintShort.l0 : Nat → ByteArray → Int → Int → Option (Bool)
  | 0, _, _, _ => none
  | k + 1, x5, x6, x7 => if x7 > 0 then (wringerlaw2_VintShort.l0 k x5 (wrap64 (x6 + 1)) (x7 / 128)) else (if (x5.size : Int) = x6 then (wringerlaw2_VintShort.l1 k x5 x6 0) else (some false))
def wringerlaw2_VintShort.l1 : Nat → ByteArray → Int → Int → Option (Bool)
  | 0, _, _, _ => none
  | k + 1, x5, x6, x8 => if x8 < x6 then (if 0 ≤ x8 then (if x8 < (x5.size : Int) then (if ((decide ((bt x5 x8) ≥ 128)) != (decide (x8 < (wrap64 (x6 - 1))))) = true then (some false) else (wringerlaw2_VintShort.l1 k x5 x6 (wrap64 (x8 + 1)))) else (none)) else (none)) else ((wringerlaw2_awake.f k).bind fun t102 => (some t102))
end
def wringerlaw2_VintShort.f (k : Nat) (a0 : Int) (a1 : Int) : Option (Bool) := if 0 ≤ (Int.tmod a1 64) then ((vint_Put.f k (shr .u64 a0 (Int.tmod a1 64))).bind fun t101 => (wringerlaw2_VintShort.l0 k t101 1 ((shr .u64 a0 (Int.tmod a1 64)) / 128))) else (none)
theorem wringerlaw2_VintShort.mono_l : ∀ k, (∀ y0 y1 y2, LeO (wringerlaw2_VintShort.l0 k y0 y1 y2) (wringerlaw2_VintShort.l0 (k + 1) y0 y1 y2)) ∧ (∀ y0 y1 y2, LeO (wringerlaw2_VintShort.l1 k y0 y1 y2) (wringerlaw2_VintShort.l1 (k + 1) y0 y1 y2))
  | 0 => ⟨fun _ _ _ r h => by simp [wringerlaw2_VintShort.l0] at h, fun _ _ _ r h => by simp [wringerlaw2_VintShort.l1] at h⟩
  | k + 1 => by
    obtain ⟨ih0, ih1⟩ := wringerlaw2_VintShort.mono_l k
    refine ⟨?_, ?_⟩
    · intro y0 y1 y2
      unfold wringerlaw2_VintShort.l0
      repeat' first
      | (with_reducible exact ih0 _ _ _)
      | (with_reducible exact ih1 _ _ _)
      | (with_reducible exact vint_Put.mono _ _)
      | (with_reducible exact wringerlaw2_awake.mono _)
      | (with_reducible exact LeO.refl _)
      | (with_reducible exact LeO.none _)
      | (with_reducible refine LeO.ite ?_ ?_)
      | (with_reducible refine LeO.bind ?_ (fun _ => ?_))
      | exact ih0 _ _ _
      | exact ih1 _ _ _
      | exact vint_Put.mono _ _
      | exact wringerlaw2_awake.mono _
      | exact LeO.none _
      | refine LeO.ite ?_ ?_
      | refine LeO.bind ?_ (fun _ => ?_)
    · intro y0 y1 y2
      unfold wringerlaw2_VintShort.l1
      repeat' first
      | (with_reducible exact ih0 _ _ _)
      | (with_reducible exact ih1 _ _ _)
      | (with_reducible exact vint_Put.mono _ _)
      | (with_reducible exact wringerlaw2_awake.mono _)
      | (with_reducible exact LeO.refl _)
      | (with_reducible exact LeO.none _)
      | (with_reducible refine LeO.ite ?_ ?_)
      | (with_reducible refine LeO.bind ?_ (fun _ => ?_))
      | exact ih0 _ _ _
      | exact ih1 _ _ _
      | exact vint_Put.mono _ _
      | exact wringerlaw2_awake.mono _
      | exact LeO.none _
      | refine LeO.ite ?_ ?_
      | refine LeO.bind ?_ (fun _ => ?_)
theorem wringerlaw2_VintShort.mono : ∀ a0 a1 k, LeO (wringerlaw2_VintShort.f k a0 a1) (wringerlaw2_VintShort.f (k + 1) a0 a1) := by
  intro a0 a1 k
  obtain ⟨ih0, ih1⟩ := wringerlaw2_VintShort.mono_l k
  unfold wringerlaw2_VintShort.f
  repeat' first
      | (with_reducible exact ih0 _ _ _)
      | (with_reducible exact ih1 _ _ _)
      | (with_reducible exact vint_Put.mono _ _)
      | (with_reducible exact wringerlaw2_awake.mono _)
      | (with_reducible exact LeO.refl _)
      | (with_reducible exact LeO.none _)
      | (with_reducible refine LeO.ite ?_ ?_)
      | (with_reducible refine LeO.bind ?_ (fun _ => ?_))
      | exact ih0 _ _ _
      | exact ih1 _ _ _
      | exact vint_Put.mono _ _
      | exact wringerlaw2_awake.mono _
      | exact LeO.none _
      | refine LeO.ite ?_ ?_
      | refine LeO.bind ?_ (fun _ => ?_)
set_option maxHeartbeats 8000000 in
set_option maxRecDepth 100000 in
theorem wringerlaw2_VintShort.calls (k : Nat) (a0 : Int) (a1 : Int) (r : Bool) (w : World) (h : wringerlaw2_VintShort.f k a0 a1 = some r) :
    Calls Try.prog 4 #[.int .u64 a0, .int .u8 a1] w fun e w' => e = .returned (.bool r) ∧ Below w.heap.size w w' := by
  have HB := Aside0.mk (Below.refl w.heap.size w)
  have H : (if 0 ≤ (Int.tmod a1 64) then ((vint_Put.f k (shr .u64 a0 (Int.tmod a1 64))).bind fun t101 => (wringerlaw2_VintShort.l0 k t101 1 ((shr .u64 a0 (Int.tmod a1 64)) / 128))) else (none)) = some r := h
  clear h
  obtain ⟨ji3, hji3⟩ : ∃ j_ : Int, (Int.tmod a1 64) = j_ := ⟨_, rfl⟩
  replace H : (if 0 ≤ (ji3) then ((vint_Put.f k (shr .u64 a0 (ji3))).bind fun t101 => (wringerlaw2_VintShort.l0 k t101 1 ((shr .u64 a0 (ji3)) / 128))) else (none)) = some r := by first | (rw [hji3] at H; exact H) | (simp only [hji3] at H ⊢; exact H)
  by_cases c4 : 0 ≤ (ji3)
  · rw [if_pos c4] at H
    have c4b0 := eq_true c4
    have c4b1 : decide (0 ≤ (ji3)) = true := decide_eq_true c4
    clear c4
    obtain ⟨ji5, hji5⟩ : ∃ j_ : Int, (shr .u64 a0 (ji3)) = j_ := ⟨_, rfl⟩
    replace H : ((vint_Put.f k (ji5)).bind fun t101 => (wringerlaw2_VintShort.l0 k t101 1 ((ji5) / 128))) = some r := by first | (rw [hji5] at H; exact H) | (simp only [hji5] at H ⊢; exact H)
    have hji5_ : (a0 / 2 ^ min (ji3).toNat 64) = ji5 := hji5
    have hji5z : (ji3) ≤ 64 → (a0 / 2 ^ (ji3).toNat) = ji5 := shr_small hji5
    replace H := Option.bind_eq_some_iff.mp H
    obtain ⟨t101, A60, H⟩ := H
    replace H : (wringerlaw2_VintShort.l0 k t101 1 ((ji5) / 128)) = some r := H
    have A6 := Aside0.mk A60
    clear A60
    have H' := Aside0.mk H
    clear H
    go_enter Try.func4, Try.ntmps4
    go_wp2_with (first | ((with_reducible refine gate_callee (f := 12) rfl ?_); refine goesL_ (some 14) rfl rfl Try.func12 (by kernel_rfl) rfl #[.int .u64 ji5] rfl (by (try simp only [List.map_toArray, List.map_cons, List.map_nil]); first | done | (simp only [hji5]; rfl) | rfl | (simp only [List.length_drop, List.length_take]; rfl)) ?_; (with_reducible refine (vint_Put.calls k ji5 t101 _ A6.out).mono ?_); rintro e w7 ⟨rfl, hb⟩; refine ⟨_, rfl, ?_⟩; have n0_ := Aside0.mk (below_step (by repeat (first | (with_reducible first | exact HB.out | apply below_alloc | apply pw_below_drewN | apply below_drew1) | exact HB.out)) hb); clear HB; have HB := n0_; clear n0_; (try clear hb); (try clear hb2); (try clear hk); (try clear hi)))
    go_loopg [6, 7] k (fun kq v6 v7 w' => ∃ (x6_1 : Int) (x7_1 : Int), v6 = .int .i64 x6_1 ∧ v7 = .int .u64 x7_1 ∧ Aside0 (wringerlaw2_VintShort.l0 kq t101 x6_1 x7_1 = some r) ∧ Aside0 (kq ≤ k) ∧ Aside0 (Below w.heap.size w w'))
    case atStart => exact ⟨(1), ((ji5) / 128), (by first | rfl | (simp; done) | (simp [*]; done)), (by first | rfl | (simp; done) | (simp only [← hji5] <;> (first | rfl | simp)) | (simp [*]; done)), H', ⟨Nat.le_refl _⟩, ⟨by repeat (first | (with_reducible first | exact HB.out | apply below_alloc | apply pw_below_drewN | apply below_drew1) | exact HB.out)⟩⟩
    case round =>
      clear H'
      try clear c1
      try clear p2
      try clear c4
      try clear c4b0
      try clear c4b1
      obtain ⟨x6_1, x7_1, rfl, rfl, HA, HK1, HB⟩ := hrel
      cases gk with
      | zero => exact absurd HA.out (by simp [wringerlaw2_VintShort.l0])
      | succ k1 =>
        have H := HA.out
        clear HA
        simp only [wringerlaw2_VintShort.l0] at H
        by_cases c8 : x7_1 > 0
        · rw [if_pos c8] at H
          have c8b0 : decide (0 < x7_1) = true := decide_eq_true c8
          clear c8
          have H' := Aside0.mk H
          clear H
          go_wp2
          go_roundg k1
          case measure => have := HK1.out; omega
          case rel => exact ⟨(wrap64 (x6_1 + 1)), (x7_1 / 128), (by first | rfl | (simp; done) | (simp [*]; done)), (by first | rfl | (simp; done) | (simp [*]; done)), H', ⟨by have := HK1.out; omega⟩, ⟨by repeat (first | (with_reducible first | exact HB.out | apply below_alloc | apply pw_below_drewN | apply below_drew1) | exact HB.out)⟩⟩
        · rw [if_neg c8] at H
          have c8b0 : decide (0 < x7_1) = false := decide_eq_false c8
          clear c8
          by_cases c9 : (t101.size : Int) = x6_1
          · rw [if_pos c9] at H
            have c9b0 : ((t101.size : Int) == x6_1) = true := beq_iff_eq.mpr c9
            have c9b1 : ((t101.size : Int) != x6_1) = false := bne_eq_false_iff_eq.mpr c9
            clear c9
            have H' := Aside0.mk H
            clear H
            go_wp2
            go_loopg [8] k1 (fun kq v8 w' => ∃ (x8_2 : Int), v8 = .int .i64 x8_2 ∧ Aside0 (wringerlaw2_VintShort.l1 kq t101 x6_1 x8_2 = some r) ∧ Aside0 (kq ≤ k1) ∧ Aside0 (Below w.heap.size w w'))
            case atStart => exact ⟨(0), (by first | rfl | (simp; done) | (simp [*]; done)), H', ⟨Nat.le_refl _⟩, ⟨by repeat (first | (with_reducible first | exact HB.out | apply below_alloc | apply pw_below_drewN | apply below_drew1) | exact HB.out)⟩⟩
            case round =>
              clear H'
              try clear c1
              try clear p2
              try clear c4
              try clear c4b0
              try clear c4b1
              try clear p6
              try clear c8
              try clear c8b0
              try clear c9
              try clear c9b0
              try clear c9b1
              try clear p2
              obtain ⟨x8_2, rfl, HA, HK2, HB⟩ := hrel
              cases gk with
              | zero => exact absurd HA.out (by simp [wringerlaw2_VintShort.l1])
              | succ k2 =>
                have H := HA.out
                clear HA
                simp only [wringerlaw2_VintShort.l1] at H
                by_cases c10 : x8_2 < x6_1
                · rw [if_pos c10] at H
                  have c10b0 : decide (x8_2 < x6_1) = true := decide_eq_true c10
                  clear c10
                  by_cases c11 : 0 ≤ x8_2
                  · rw [if_pos c11] at H
                    have c11b0 : decide (0 ≤ x8_2) = true := decide_eq_true c11
                    clear c11
                    by_cases c12 : x8_2 < (t101.size : Int)
                    · rw [if_pos c12] at H
                      have c12b0 : decide (x8_2 < (t101.size : Int)) = true := decide_eq_true c12
                      clear c12
                      by_cases c14 : ((decide ((bt t101 x8_2) ≥ 128)) != (decide (x8_2 < (wrap64 (x6_1 - 1))))) = true
                      · rw [if_pos c14] at H
                        have c14b0 : ((decide ((bt t101 x8_2) ≥ 128)) != (decide (x8_2 < (wrap64 (x6_1 - 1))))) = true := c14
                        (try (have c14b1 : decide ((decide ((bt t101 x8_2) ≥ 128)) = (decide (x8_2 < (wrap64 (x6_1 - 1))))) = false := by simpa using c14))
                        (try (have c14b2 : ((decide ((bt t101 x8_2) ≥ 128)) == (decide (x8_2 < (wrap64 (x6_1 - 1))))) = false := by simpa using c14))
                        (try (have c14b3 : ¬ ((decide ((bt t101 x8_2) ≥ 128)) = (decide (x8_2 < (wrap64 (x6_1 - 1))))) := by simpa using c14))
                        clear c14
                        obtain rfl := Option.some.inj H
                        have p13 : 0 ≤ (x8_2 : Int) := of_decide_eq_true (by first | (with_reducible assumption) | assumption)
                        have q13 : x8_2 < (t101.size : Int) := of_decide_eq_true (by first | (with_reducible assumption) | assumption)
                        have hx13 := bt_at t101 x8_2
                        replace p13 := eq_true p13
                        replace q13 := eq_true q13
                        go_wp2
                        go_ret
                        exact ⟨by first | rfl | (simp [errW_none, errW_some] <;> rfl) | (simp only [← hji3, ← hji5]; first | rfl | (simp [errW_none, errW_some] <;> rfl)) | (simp [*, errW_none, errW_some] <;> rfl), by repeat (first | (with_reducible first | exact HB.out | apply below_alloc | apply pw_below_drewN | apply below_drew1) | exact HB.out)⟩
                      · rw [if_neg c14] at H
                        have c14b0 : ((decide ((bt t101 x8_2) ≥ 128)) != (decide (x8_2 < (wrap64 (x6_1 - 1))))) = false := by simpa using c14
                        (try (have c14b1 : decide ((decide ((bt t101 x8_2) ≥ 128)) = (decide (x8_2 < (wrap64 (x6_1 - 1))))) = true := by simpa using c14))
                        (try (have c14b2 : ((decide ((bt t101 x8_2) ≥ 128)) == (decide (x8_2 < (wrap64 (x6_1 - 1))))) = true := by simpa using c14))
                        clear c14
                        have H' := Aside0.mk H
                        clear H
                        have p13 : 0 ≤ (x8_2 : Int) := of_decide_eq_true (by first | (with_reducible assumption) | assumption)
                        have q13 : x8_2 < (t101.size : Int) := of_decide_eq_true (by first | (with_reducible assumption) | assumption)
                        have hx13 := bt_at t101 x8_2
                        replace p13 := eq_true p13
                        replace q13 := eq_true q13
                        go_wp2
                        go_roundg k2
                        case measure => have := HK1.out; have := HK2.out; omega
                        case rel => exact ⟨(wrap64 (x8_2 + 1)), (by first | rfl | (simp; done) | (simp [*]; done)), H', ⟨by have := HK1.out; have := HK2.out; omega⟩, ⟨by repeat (first | (with_reducible first | exact HB.out | apply below_alloc | apply pw_below_drewN | apply below_drew1) | exact HB.out)⟩⟩
                    · rw [if_neg c12] at H
                      exact absurd H (by simp)
                  · rw [if_neg c11] at H
                    exact absurd H (by simp)
                · rw [if_neg c10] at H
                  have c10b0 : decide (x8_2 < x6_1) = false := decide_eq_false c10
                  clear c10
                  replace H := Option.bind_eq_some_iff.mp H
                  obtain ⟨t102, A150, H⟩ := H
                  replace H : (some t102) = some r := H
                  have A15 := Aside0.mk A150
                  clear A150
                  obtain rfl := Option.some.inj H
                  go_wp2_with (first | ((with_reducible refine gate_callee (f := 15) rfl ?_); refine goesL_ (some 41) rfl rfl Try.func15 (by kernel_rfl) rfl #[] rfl (by (try simp only [List.map_toArray, List.map_cons, List.map_nil]); first | done | rfl | (simp only [List.length_drop, List.length_take]; rfl)) ?_; (with_reducible refine (wringerlaw2_awake.calls k2  t102 _ A15.out).mono ?_); rintro e w16 ⟨rfl, hb⟩; refine ⟨_, rfl, ?_⟩; have n0_ := Aside0.mk (below_step (by repeat (first | (with_reducible first | exact HB.out | apply below_alloc | apply pw_below_drewN | apply below_drew1) | exact HB.out)) hb); clear HB; have HB := n0_; clear n0_; (try clear hb); (try clear hb2); (try clear hk); (try clear hi)))
                  go_ret
                  exact ⟨by first | rfl | (simp [errW_none, errW_some] <;> rfl) | (simp only [← hji3, ← hji5]; first | rfl | (simp [errW_none, errW_some] <;> rfl)) | (simp [*, errW_none, errW_some] <;> rfl), by repeat (first | (with_reducible first | exact HB.out | apply below_alloc | apply pw_below_drewN | apply below_drew1) | exact HB.out)⟩
          · rw [if_neg c9] at H
            have c9b0 : ((t101.size : Int) == x6_1) = false := beq_eq_false_iff_ne.mpr c9
            have c9b1 : ((t101.size : Int) != x6_1) = true := bne_iff_ne.mpr c9
            obtain rfl := Option.some.inj H
            go_wp2
            go_ret
            exact ⟨by first | rfl | (simp [errW_none, errW_some] <;> rfl) | (simp only [← hji3, ← hji5]; first | rfl | (simp [errW_none, errW_some] <;> rfl)) | (simp [*, errW_none, errW_some] <;> rfl), by repeat (first | (with_reducible first | exact HB.out | apply below_alloc | apply pw_below_drewN | apply below_drew1) | exact HB.out)⟩
  · rw [if_neg c4] at H
    exact absurd H (by simp)

/-- THE ONE PURE STATEMENT of wringerlaw2_VintShort: yours. -/
def wringerlaw2_VintShort.Pure : Prop := ∀ (a0 : Int) (a1 : Int), (Lit.int .u64 a0).wf = true → (Lit.int .u8 a1).wf = true → ∃ k, wringerlaw2_VintShort.f k a0 a1 = some true
theorem wringerlaw2_VintShort.walk (P : wringerlaw2_VintShort.Pure) (a0 : Int) (a1 : Int) (w : World) (w0 : (Lit.int .u64 a0).wf = true) (w1 : (Lit.int .u8 a1).wf = true) :
    Calls Try.prog 4 #[.int .u64 a0, .int .u8 a1] w fun e w' => e = .returned (.bool true) ∧ Below w.heap.size w w' := by
  obtain ⟨k, h⟩ := P a0 a1 w0 w1
  refine (wringerlaw2_VintShort.calls k a0 a1 true w h).mono ?_
  rintro e w' ⟨rfl, hd⟩
  exact ⟨rfl, hd⟩

end Go.Proofs.Ytlcngcbiacmagaa.PVintShort
