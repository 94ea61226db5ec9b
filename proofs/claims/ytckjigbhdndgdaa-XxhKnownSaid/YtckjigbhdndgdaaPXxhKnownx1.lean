/- Written by this session's program wip/tools/giv.py over the seat's translation: Lean functions of the Go functions named below and the proofs that the calls come to them. Conditions: as each contract states. -/
import Derived.Test.YtckjigbhdndgdaaPXxhKnownx0
namespace Go.Proofs.Ytckjigbhdndgdaa.PXxhKnown
open Go.Proofs.Ytckjigbhdndgdaa.PBits
open Go.Proofs.Ytckjigbhdndgdaa.PRef
open Go.Proofs.Ytckjigbhdndgdaa.PXawk
open Go.RowKit Go.Proofs.YtckjigbhdndgdaaW.PrintWords Go.Proofs.YtckjigbhdndgdaaW.PrintLast Go.Proofs.YtckjigbhdndgdaaW.PrintMore
attribute [local go_sem] max2_mx min2_mn max_two min_two max_three min_three max_four min_four   -- for this text's walks alone
set_option linter.unusedVariables false
set_option linter.unusedSimpArgs false

-- given: function 11 (wringerlaw5_awake)

-- given: function 12 (xxh_Sum)

/-! ### wringerlaw5_XxhKnown: function 4 -/
def wringerlaw5_XxhKnown.f (k : Nat) (a0 : Int) : Option (Bool) := (some (([(⟨#[]⟩ : ByteArray), (⟨#[97]⟩ : ByteArray), (⟨#[97, 98, 99]⟩ : ByteArray), (⟨#[67, 97, 108, 108, 32, 109, 101, 32, 73, 115, 104, 109, 97, 101, 108, 46, 32, 83, 111, 109, 101, 32, 121, 101, 97, 114, 115, 32, 97, 103, 111, 45, 45, 110, 101, 118, 101, 114, 32, 109, 105, 110, 100, 32, 104, 111, 119, 32, 108, 111, 110, 103, 32, 112, 114, 101, 99, 105, 115, 101, 108, 121, 45]⟩ : ByteArray)] : List ByteArray) : List ByteArray)).bind fun y101 => ((some (([17241709254077376921, 15154266338359012955, 4952883123889572249, 189969583671016854] : List Int) : List Int)).bind fun y104 => (if 0 ≤ (Int.tmod (wrap64 (a0)) 4) then (if (Int.tmod (wrap64 (a0)) 4) < (y101.length : Int) then ((xxh_Sum.f k 0 (rdOf ByteArray.empty y101 (Int.tmod (wrap64 (a0)) 4))).bind fun t108 => (if (Int.tmod (wrap64 (a0)) 4) < (y104.length : Int) then (if t108 = (rd y104 (Int.tmod (wrap64 (a0)) 4)) then ((wringerlaw5_awake.f k).bind fun t110 => (some t110)) else (none)) else (none))) else (none)) else (none)))
theorem wringerlaw5_XxhKnown.mono : ∀ a0 k, LeO (wringerlaw5_XxhKnown.f k a0) (wringerlaw5_XxhKnown.f (k + 1) a0) := by
  intro a0 k
  unfold wringerlaw5_XxhKnown.f
  repeat' first
      | (with_reducible exact wringerlaw5_awake.mono _)
      | (with_reducible exact xxh_Sum.mono _ _ _)
      | (with_reducible exact LeO.refl _)
      | (with_reducible exact LeO.none _)
      | (with_reducible refine LeO.ite ?_ ?_)
      | (with_reducible refine LeO.bind ?_ (fun _ => ?_))
      | exact wringerlaw5_awake.mono _
      | exact xxh_Sum.mono _ _ _
      | exact LeO.none _
      | refine LeO.ite ?_ ?_
      | refine LeO.bind ?_ (fun _ => ?_)
def wringerlaw5_XxhKnown.T4 : Bool × List (List Nat × List Nat) := (true, [([], []), ([], []), ([0, 1], [0, 1]), ([2], [2]), ([3], [3]), ([], []), ([], []), ([5, 6], [5, 6]), ([7], [7]), ([4, 8], [4, 8]), ([9, 4], [9]), ([10, 10], [10]), ([10, 11], [10, 11]), ([12, 11, 0, 1, 2, 3, 4, 5, 6, 7, 8, 9, 10, 11, 12], [12])])
def wringerlaw5_XxhKnown.B4 : List Nat := [0, 0, 3, 7, 15, 0, 0, 96, 224, 511, 1023, 2047, 4095, 8191]
theorem wringerlaw5_XxhKnown.tab4 : rtab .any (opsOf Try.f4 4) = wringerlaw5_XxhKnown.T4 := by kernel_rfl
theorem wringerlaw5_XxhKnown.bits4 : waitsOk wringerlaw5_XxhKnown.T4.2 wringerlaw5_XxhKnown.B4 = true := by kernel_rfl
set_option maxHeartbeats 8000000 in
set_option maxRecDepth 100000 in
theorem wringerlaw5_XxhKnown.calls (k : Nat) (a0 : Int) (r : Bool) (w : World) (h : wringerlaw5_XxhKnown.f k a0 = some r) :
    Calls Try.prog 4 #[.int .u8 a0] w fun e w' => e = .returned (.bool r) ∧ Below w.heap.size w w' := by
  have HB := Aside0.mk (Below.refl w.heap.size w)
  have H : ((some (([(⟨#[]⟩ : ByteArray), (⟨#[97]⟩ : ByteArray), (⟨#[97, 98, 99]⟩ : ByteArray), (⟨#[67, 97, 108, 108, 32, 109, 101, 32, 73, 115, 104, 109, 97, 101, 108, 46, 32, 83, 111, 109, 101, 32, 121, 101, 97, 114, 115, 32, 97, 103, 111, 45, 45, 110, 101, 118, 101, 114, 32, 109, 105, 110, 100, 32, 104, 111, 119, 32, 108, 111, 110, 103, 32, 112, 114, 101, 99, 105, 115, 101, 108, 121, 45]⟩ : ByteArray)] : List ByteArray) : List ByteArray)).bind fun y101 => ((some (([17241709254077376921, 15154266338359012955, 4952883123889572249, 189969583671016854] : List Int) : List Int)).bind fun y104 => (if 0 ≤ (Int.tmod (wrap64 (a0)) 4) then (if (Int.tmod (wrap64 (a0)) 4) < (y101.length : Int) then ((xxh_Sum.f k 0 (rdOf ByteArray.empty y101 (Int.tmod (wrap64 (a0)) 4))).bind fun t108 => (if (Int.tmod (wrap64 (a0)) 4) < (y104.length : Int) then (if t108 = (rd y104 (Int.tmod (wrap64 (a0)) 4)) then ((wringerlaw5_awake.f k).bind fun t110 => (some t110)) else (none)) else (none))) else (none)) else (none)))) = some r := h
  clear h
  obtain ⟨y101, hy101⟩ : ∃ y_ : List ByteArray, y_ = (([(⟨#[]⟩ : ByteArray), (⟨#[97]⟩ : ByteArray), (⟨#[97, 98, 99]⟩ : ByteArray), (⟨#[67, 97, 108, 108, 32, 109, 101, 32, 73, 115, 104, 109, 97, 101, 108, 46, 32, 83, 111, 109, 101, 32, 121, 101, 97, 114, 115, 32, 97, 103, 111, 45, 45, 110, 101, 118, 101, 114, 32, 109, 105, 110, 100, 32, 104, 111, 119, 32, 108, 111, 110, 103, 32, 112, 114, 101, 99, 105, 115, 101, 108, 121, 45]⟩ : ByteArray)] : List ByteArray)) := ⟨_, rfl⟩
  replace H : ((some (([17241709254077376921, 15154266338359012955, 4952883123889572249, 189969583671016854] : List Int) : List Int)).bind fun y104 => (if 0 ≤ (Int.tmod (wrap64 (a0)) 4) then (if (Int.tmod (wrap64 (a0)) 4) < (y101.length : Int) then ((xxh_Sum.f k 0 (rdOf ByteArray.empty y101 (Int.tmod (wrap64 (a0)) 4))).bind fun t108 => (if (Int.tmod (wrap64 (a0)) 4) < (y104.length : Int) then (if t108 = (rd y104 (Int.tmod (wrap64 (a0)) 4)) then ((wringerlaw5_awake.f k).bind fun t110 => (some t110)) else (none)) else (none))) else (none)) else (none))) = some r := by first | (rw [hy101]; with_reducible exact H) | (have H2_ := (Option.bind_some _ _).symm.trans H; rw [hy101]; with_reducible exact H2_) | (have H2_ := (Option.bind_some _ _).symm.trans H; with_reducible exact H2_) | with_reducible exact H | (rw [hy101]; exact H) | exact H
  have Ny101 := Aside0.mk hy101
  clear hy101
  obtain ⟨y104, hy104⟩ : ∃ y_ : List Int, y_ = (([17241709254077376921, 15154266338359012955, 4952883123889572249, 189969583671016854] : List Int)) := ⟨_, rfl⟩
  replace H : (if 0 ≤ (Int.tmod (wrap64 (a0)) 4) then (if (Int.tmod (wrap64 (a0)) 4) < (y101.length : Int) then ((xxh_Sum.f k 0 (rdOf ByteArray.empty y101 (Int.tmod (wrap64 (a0)) 4))).bind fun t108 => (if (Int.tmod (wrap64 (a0)) 4) < (y104.length : Int) then (if t108 = (rd y104 (Int.tmod (wrap64 (a0)) 4)) then ((wringerlaw5_awake.f k).bind fun t110 => (some t110)) else (none)) else (none))) else (none)) else (none)) = some r := by first | (rw [hy104]; with_reducible exact H) | (have H2_ := (Option.bind_some _ _).symm.trans H; rw [hy104]; with_reducible exact H2_) | (have H2_ := (Option.bind_some _ _).symm.trans H; with_reducible exact H2_) | with_reducible exact H | (rw [hy104]; exact H) | exact H
  have Ny104 := Aside0.mk hy104
  clear hy104
  obtain ⟨ji2, hji2⟩ : ∃ j_ : Int, (Int.tmod (wrap64 (a0)) 4) = j_ := ⟨_, rfl⟩
  replace H : (if 0 ≤ (ji2) then (if (ji2) < (y101.length : Int) then ((xxh_Sum.f k 0 (rdOf ByteArray.empty y101 (ji2))).bind fun t108 => (if (ji2) < (y104.length : Int) then (if t108 = (rd y104 (ji2)) then ((wringerlaw5_awake.f k).bind fun t110 => (some t110)) else (none)) else (none))) else (none)) else (none)) = some r := by first | (rw [hji2] at H; exact H) | (simp only [hji2] at H ⊢; exact H)
  by_cases c3 : 0 ≤ (ji2)
  · rw [if_pos c3] at H
    have c3b0 : decide (0 ≤ (ji2)) = true := decide_eq_true c3
    clear c3
    by_cases c4 : (ji2) < (y101.length : Int)
    · rw [if_pos c4] at H
      have c4b0 : decide ((ji2) < (y101.length : Int)) = true := decide_eq_true c4
      clear c4
      replace H := Option.bind_eq_some_iff.mp H
      obtain ⟨t108, A50, H⟩ := H
      replace H : (if (ji2) < (y104.length : Int) then (if t108 = (rd y104 (ji2)) then ((wringerlaw5_awake.f k).bind fun t110 => (some t110)) else (none)) else (none)) = some r := H
      have A5 := Aside0.mk A50
      clear A50
      by_cases c6 : (ji2) < (y104.length : Int)
      · rw [if_pos c6] at H
        have c6b0 : decide ((ji2) < (y104.length : Int)) = true := decide_eq_true c6
        clear c6
        by_cases c7 : t108 = (rd y104 (ji2))
        · rw [if_pos c7] at H
          have c7b0 : (t108 == (rd y104 (ji2))) = true := beq_iff_eq.mpr c7
          have c7b1 : (t108 != (rd y104 (ji2))) = false := bne_eq_false_iff_eq.mpr c7
          clear c7
          replace H := Option.bind_eq_some_iff.mp H
          obtain ⟨t110, A80, H⟩ := H
          replace H : (some t110) = some r := H
          have A8 := Aside0.mk A80
          clear A80
          obtain rfl := Option.some.inj H
          go_enter Try.func4, Try.ntmps4
          try go_wp2_with (first | ((with_reducible refine gate_dst (N := 6) rfl ?_); refine Kd.R_lit Kd.string _ 9 ?hg (N := 6) ?hd (xs := ([(⟨#[]⟩ : ByteArray), (⟨#[97]⟩ : ByteArray), (⟨#[97, 98, 99]⟩ : ByteArray), (⟨#[67, 97, 108, 108, 32, 109, 101, 32, 73, 115, 104, 109, 97, 101, 108, 46, 32, 83, 111, 109, 101, 32, 121, 101, 97, 114, 115, 32, 97, 103, 111, 45, 45, 110, 101, 118, 101, 114, 32, 109, 105, 110, 100, 32, 104, 111, 119, 32, 108, 111, 110, 103, 32, 112, 114, 101, 99, 105, 115, 101, 108, 121, 45]⟩ : ByteArray)] : List ByteArray)) (inner := [.string (⟨#[]⟩ : ByteArray), .string (⟨#[97]⟩ : ByteArray), .string (⟨#[97, 98, 99]⟩ : ByteArray), .string (⟨#[67, 97, 108, 108, 32, 109, 101, 32, 73, 115, 104, 109, 97, 101, 108, 46, 32, 83, 111, 109, 101, 32, 121, 101, 97, 114, 115, 32, 97, 103, 111, 45, 45, 110, 101, 118, 101, 114, 32, 109, 105, 110, 100, 32, 104, 111, 119, 32, 108, 111, 110, 103, 32, 112, 114, 101, 99, 105, 115, 101, 108, 121, 45]⟩ : ByteArray)]) (ok := fun _ => True) (okp := fun _ => True) ?hr ?hp (fun _ hk => hk) trivial (Below.refl _ _) (Nat.le_refl _) (by simp) ?_; (case hd => rfl); (case hg => rfl); (case hr => first | (go_simp; done) | (go_simp; rfl)); (case hp => exact (Reps.one (show Kd.M Kd.string _ _ _ (⟨#[]⟩ : ByteArray) [.string (⟨#[]⟩ : ByteArray)] from rfl) (Reps.one (show Kd.M Kd.string _ _ _ (⟨#[97]⟩ : ByteArray) [.string (⟨#[97]⟩ : ByteArray)] from rfl) (Reps.one (show Kd.M Kd.string _ _ _ (⟨#[97, 98, 99]⟩ : ByteArray) [.string (⟨#[97, 98, 99]⟩ : ByteArray)] from rfl) (Reps.one (show Kd.M Kd.string _ _ _ (⟨#[67, 97, 108, 108, 32, 109, 101, 32, 73, 115, 104, 109, 97, 101, 108, 46, 32, 83, 111, 109, 101, 32, 121, 101, 97, 114, 115, 32, 97, 103, 111, 45, 45, 110, 101, 118, 101, 114, 32, 109, 105, 110, 100, 32, 104, 111, 119, 32, 108, 111, 110, 103, 32, 112, 114, 101, 99, 105, 115, 101, 108, 121, 45]⟩ : ByteArray) [.string (⟨#[67, 97, 108, 108, 32, 109, 101, 32, 73, 115, 104, 109, 97, 101, 108, 46, 32, 83, 111, 109, 101, 32, 121, 101, 97, 114, 115, 32, 97, 103, 111, 45, 45, 110, 101, 118, 101, 114, 32, 109, 105, 110, 100, 32, 104, 111, 119, 32, 108, 111, 110, 103, 32, 112, 114, 101, 99, 105, 115, 101, 108, 121, 45]⟩ : ByteArray)] from rfl) (Reps.none _ _)))))); intro v102 w9 ho10 hb hg_ hnew_; clear hg_ hnew_; (first | rw [← Ny101.out] at ho10 | (simp only [Int.reduceToNat] at ho10; rw [← Ny101.out] at ho10)); have n0_ := Aside0.mk (Kd.R_lower ho10 (below_size (by repeat (first | (with_reducible first | exact HB.out | apply below_alloc | apply pw_below_drewN | apply below_drew1) | exact HB.out)))); have n1_ := Aside0.mk (below_step (by repeat (first | (with_reducible first | exact HB.out | apply below_alloc | apply pw_below_drewN | apply below_drew1) | exact HB.out)) hb); clear HB; have HO103 := n0_; have HB := n1_; clear n0_ n1_; clear hb ho10) | ((with_reducible refine gate_dst (N := 7) rfl ?_); refine Kd.R_lit (Kd.int .u64) _ 22 ?hg (N := 7) ?hd (xs := ([17241709254077376921, 15154266338359012955, 4952883123889572249, 189969583671016854] : List Int)) (inner := [.int .u64 17241709254077376921, .int .u64 15154266338359012955, .int .u64 4952883123889572249, .int .u64 189969583671016854]) (ok := fun _ => True) (okp := fun _ => True) ?hr ?hp (fun _ hk => hk) trivial (Below.refl _ _) (Nat.le_refl _) (by simp) ?_; (case hd => rfl); (case hg => rfl); (case hr => first | (go_simp; done) | (go_simp; rfl)); (case hp => exact (Reps.one (show Kd.M (Kd.int .u64) _ _ _ 17241709254077376921 [.int .u64 17241709254077376921] from rfl) (Reps.one (show Kd.M (Kd.int .u64) _ _ _ 15154266338359012955 [.int .u64 15154266338359012955] from rfl) (Reps.one (show Kd.M (Kd.int .u64) _ _ _ 4952883123889572249 [.int .u64 4952883123889572249] from rfl) (Reps.one (show Kd.M (Kd.int .u64) _ _ _ 189969583671016854 [.int .u64 189969583671016854] from rfl) (Reps.none _ _)))))); intro v105 w11 ho12 hb hg_ hnew_; clear hg_ hnew_; (first | rw [← Ny104.out] at ho12 | (simp only [Int.reduceToNat] at ho12; rw [← Ny104.out] at ho12)); have n0_ := Aside0.mk (Kd.R_below (by (with_reducible repeat (first | apply Kd.R_alloc | apply Kd.R_drewN | apply Kd.R_drew)); exact HO103.out) hb); have n1_ := Aside0.mk (Kd.R_lower ho12 (below_size (by repeat (first | (with_reducible first | exact HB.out | apply below_alloc | apply pw_below_drewN | apply below_drew1) | exact HB.out)))); have n2_ := Aside0.mk (below_step (by repeat (first | (with_reducible first | exact HB.out | apply below_alloc | apply pw_below_drewN | apply below_drew1) | exact HB.out)) hb); clear HO103; clear HB; have HO103 := n0_; have HO106 := n1_; have HB := n2_; clear n0_ n1_ n2_; clear hb ho12))
          have n0_ := Aside0.mk (Kd.R_drew HO103.out)
          have n1_ := Aside0.mk (Kd.R_drew HO106.out)
          have n2_ := Aside0.mk (below_drew1 HB.out)
          clear HO103
          clear HO106
          clear HB
          have HO103 := n0_
          have HO106 := n1_
          have HB := n2_
          clear n0_ n1_ n2_
          obtain ⟨Ao14, co14, eo14⟩ := Kd.R_slice HO103.out
          (first | subst eo14 | (injection eo14 with f1_ f2_ f3_; have f4_ := f1_.symm; have f5_ := f3_.symm; clear f1_ f2_ f3_; subst f4_; subst f5_))
          have p107 : 0 ≤ ((ji2) : Int) := of_decide_eq_true (by first | (with_reducible assumption) | assumption)
          have q107 : (ji2) < (y101.length : Int) := of_decide_eq_true (by first | (with_reducible assumption) | assumption)
          obtain ⟨ad107, e107, hx107_0⟩ := Kd.at_string (Kd.R_reads' HO103.out).2.2 (ji2) p107 q107
          cases e107
          replace p107 := eq_true p107
          replace q107 := eq_true q107
          obtain ⟨Ao15, co15, eo15⟩ := Kd.R_slice HO106.out
          (first | subst eo15 | (injection eo15 with f1_ f2_ f3_; have f4_ := f1_.symm; have f5_ := f3_.symm; clear f1_ f2_ f3_; subst f4_; subst f5_))
          have p109 : 0 ≤ ((ji2) : Int) := of_decide_eq_true (by first | (with_reducible assumption) | assumption)
          have q109 : (ji2) < (y104.length : Int) := of_decide_eq_true (by first | (with_reducible assumption) | assumption)
          obtain ⟨ad109, e109, hx109_0⟩ := Kd.at_int (Kd.R_reads' HO106.out).2.2 (ji2) p109 q109
          cases e109
          replace p109 := eq_true p109
          replace q109 := eq_true q109
          refine start_ (n := 14) (S := fun w' => w'.cell? (ad107.add ((ji2)).toNat) = some (.string (rdOf ByteArray.empty y101 (ji2))) ∧ w'.cell? (ad109.add ((ji2)).toNat) = some (.int .u64 (rd y104 (ji2)))) (ds := []) #[false, false, false, false, false, false, false, false, false, false, false, false, false, false] (by kernel_rfl) rfl rfl ⟨hx107_0, hx109_0⟩ (fun hHeld => ?_); refine with_tabW wringerlaw5_XxhKnown.tab4 wringerlaw5_XxhKnown.bits4 (fun HT_ HW_ => ?_)
          generalize w11.drew = w13 at HO103 HO106 HB hx107_0 hx109_0 hHeld ⊢
          refine pure_ (i := 0) (N := some 11) (v := ?_) (a' := ?_) #[true, false, false, false, false, false, false, false, false, false, false, false, false, false] rfl rfl (any_of HT_.out (by kernel_rfl)) (fun _ _ _ h => h) (Or.inl ⟨by rfl, ?_⟩) ?_ ?_
          rotate_left
          · intro w'
            go_simp
            with_reducible rfl
          rotate_left
          · simp only [Act.put, List.setIfInBounds_toArray, List.set_cons_zero, List.set_cons_succ, i64_w, i32_w]
            rfl
          refine pure_ (i := 1) (N := some 12) (v := ?_) (a' := ?_) #[true, true, false, false, false, false, false, false, false, false, false, false, false, false] rfl rfl (any_of HT_.out (by kernel_rfl)) (fun _ _ _ h => h) (Or.inl ⟨by rfl, ?_⟩) ?_ ?_
          rotate_left
          · intro w'
            go_simp
            with_reducible rfl
          rotate_left
          · simp only [Act.put, List.setIfInBounds_toArray, List.set_cons_zero, List.set_cons_succ, i64_w, i32_w]
            rfl
          refine pure_ (i := 2) (N := some 13) (v := ?_) (a' := ?_) #[true, true, true, false, false, false, false, false, false, false, false, false, false, false] rfl rfl (any_of HT_.out (by kernel_rfl)) (fun _ _ _ h => h) (Or.inl ⟨by rfl, ?_⟩) ?_ ?_
          rotate_left
          · intro w'
            go_simp
            with_reducible rfl
          rotate_left
          · simp only [Act.put, List.setIfInBounds_toArray, List.set_cons_zero, List.set_cons_succ, i64_w, i32_w]
            rfl
          refine pure_ (i := 5) (N := some 16) (v := ?_) (a' := ?_) #[true, true, true, false, false, true, false, false, false, false, false, false, false, false] rfl rfl (any_of HT_.out (by kernel_rfl)) (fun _ _ _ h => h) (Or.inl ⟨by rfl, ?_⟩) ?_ ?_
          rotate_left
          · intro w'
            go_simp
            with_reducible rfl
          rotate_left
          · simp only [Act.put, List.setIfInBounds_toArray, List.set_cons_zero, List.set_cons_succ, i64_w, i32_w]
            rfl
          refine pure_ (i := 6) (N := some 17) (v := ?_) (a' := ?_) #[true, true, true, false, false, true, true, false, false, false, false, false, false, false] rfl rfl (any_of HT_.out (by kernel_rfl)) (fun _ _ _ h => h) (Or.inl ⟨by rfl, ?_⟩) ?_ ?_
          rotate_left
          · intro w'
            go_simp
            with_reducible rfl
          rotate_left
          · simp only [Act.put, List.setIfInBounds_toArray, List.set_cons_zero, List.set_cons_succ, i64_w, i32_w]
            rfl
          refine pure_ (i := 7) (N := some 18) (v := ?_) (a' := ?_) #[true, true, true, false, false, true, true, true, false, false, false, false, false, false] rfl rfl (any_of HT_.out (by kernel_rfl)) (fun _ _ _ h => h) (Or.inl ⟨by rfl, ?_⟩) ?_ ?_
          rotate_left
          · intro w'
            go_simp
            with_reducible rfl
          rotate_left
          · simp only [Act.put, List.setIfInBounds_toArray, List.set_cons_zero, List.set_cons_succ, i64_w, i32_w]
            rfl
          refine take_ (i := 3) (N := some 14) (v := ?_) (a' := ?_) #[true, true, true, true, false, true, true, true, false, false, false, false, false, false] rfl rfl (take_ofW HT_.out HW_.out (by kernel_rfl)) (fun _ _ _ h => h) (Or.inl ⟨by rfl, ?_⟩) hHeld ?_ ?_
          rotate_left
          · rintro w' ⟨s0, s1⟩
            go_simp
            with_reducible rfl
          rotate_left
          · simp only [Act.put, List.setIfInBounds_toArray, List.set_cons_zero, List.set_cons_succ, i64_w, i32_w]
            rfl
          refine take_ (i := 8) (N := some 19) (v := ?_) (a' := ?_) #[true, true, true, true, false, true, true, true, true, false, false, false, false, false] rfl rfl (take_ofW HT_.out HW_.out (by kernel_rfl)) (fun _ _ _ h => h) (Or.inl ⟨by rfl, ?_⟩) hHeld ?_ ?_
          rotate_left
          · rintro w' ⟨s0, s1⟩
            go_simp
            with_reducible rfl
          rotate_left
          · simp only [Act.put, List.setIfInBounds_toArray, List.set_cons_zero, List.set_cons_succ, i64_w, i32_w]
            rfl
          refine one_ (i := 4) (N := some 15) #[true, true, true, true, true, true, true, true, true, false, false, false, false, false] rfl rfl (one_of HT_.out (by kernel_rfl)) (by decide) (fun K hK => ?_)
          refine goes_ Try.func12 (by kernel_rfl) rfl #[.int .u64 0, .string (rdOf ByteArray.empty y101 (ji2))] (by rfl) rfl rfl (by (try simp only [List.map_toArray, List.map_cons, List.map_nil]); first | done | (simp only [hji2]; rfl) | rfl | (simp only [List.length_drop, List.length_take]; rfl)) ?_
          with_reducible refine (xxh_Sum.calls k 0 (rdOf ByteArray.empty y101 (ji2)) t108 _ A5.out).mono ?_
          rintro e w16 ⟨rfl, hb⟩
          have HS0_ := (hb.cell (World.block_lt_of_cell? _ _ (hHeld.1))).trans (hHeld.1)
          have HS1_ := (hb.cell (World.block_lt_of_cell? _ _ (hHeld.2))).trans (hHeld.2)
          refine ⟨_, rfl, ?_⟩
          have n0_ := Aside0.mk (Kd.R_below (by (with_reducible repeat (first | apply Kd.R_alloc | apply Kd.R_drewN | apply Kd.R_drew)); exact HO103.out) hb)
          have n1_ := Aside0.mk (Kd.R_below (by (with_reducible repeat (first | apply Kd.R_alloc | apply Kd.R_drewN | apply Kd.R_drew)); exact HO106.out) hb)
          have n2_ := Aside0.mk (below_step (by repeat (first | (with_reducible first | exact HB.out | apply below_alloc | apply pw_below_drewN | apply below_drew1) | exact HB.out)) hb)
          clear HO103
          clear HO106
          clear HB
          have HO103 := n0_
          have HO106 := n1_
          have HB := n2_
          clear n0_ n1_ n2_
          (try clear hb)
          (try clear hb2)
          (try clear hk)
          (try clear hi)
          refine hK.out _ _ ⟨HS0_, HS1_⟩ (fun hHeld => ?_)
          clear hK K
          refine norm_ (a' := ?_) ?_ ?_
          rotate_left
          · show Act.put _ (some 15) _ = _
            simp only [Act.put, List.setIfInBounds_toArray, List.set_cons_zero, List.set_cons_succ, i64_w, i32_w]
            rfl
          refine pure_ (i := 9) (N := some 20) (v := ?_) (a' := ?_) #[true, true, true, true, true, true, true, true, true, true, false, false, false, false] rfl rfl (any_of HT_.out (by kernel_rfl)) (fun _ _ _ h => h) (Or.inl ⟨by rfl, ?_⟩) ?_ ?_
          rotate_left
          · intro w'
            go_simp
            with_reducible rfl
          rotate_left
          · simp only [Act.put, List.setIfInBounds_toArray, List.set_cons_zero, List.set_cons_succ, i64_w, i32_w]
            rfl
          refine pure_ (i := 10) (N := some 21) (v := ?_) (a' := ?_) #[true, true, true, true, true, true, true, true, true, true, true, false, false, false] rfl rfl (any_of HT_.out (by kernel_rfl)) (fun _ _ _ h => h) (Or.inl ⟨by rfl, ?_⟩) ?_ ?_
          rotate_left
          · intro w'
            go_simp
            with_reducible rfl
          rotate_left
          · simp only [Act.put, List.setIfInBounds_toArray, List.set_cons_zero, List.set_cons_succ, i64_w, i32_w]
            rfl
          refine one_ (i := 11) (N := some 22) #[true, true, true, true, true, true, true, true, true, true, true, true, false, false] rfl rfl (one_of HT_.out (by kernel_rfl)) (by decide) (fun K hK => ?_)
          refine goes_ Try.func11 (by kernel_rfl) rfl #[] (by rfl) rfl rfl (by (try simp only [List.map_toArray, List.map_cons, List.map_nil]); first | done | rfl | (simp only [List.length_drop, List.length_take]; rfl)) ?_
          with_reducible refine (wringerlaw5_awake.calls k  t110 _ A8.out).mono ?_
          rintro e w17 ⟨rfl, hb⟩
          have HS0_ := (hb.cell (World.block_lt_of_cell? _ _ (hHeld.1))).trans (hHeld.1)
          have HS1_ := (hb.cell (World.block_lt_of_cell? _ _ (hHeld.2))).trans (hHeld.2)
          refine ⟨_, rfl, ?_⟩
          have n0_ := Aside0.mk (Kd.R_below (by (with_reducible repeat (first | apply Kd.R_alloc | apply Kd.R_drewN | apply Kd.R_drew)); exact HO103.out) hb)
          have n1_ := Aside0.mk (Kd.R_below (by (with_reducible repeat (first | apply Kd.R_alloc | apply Kd.R_drewN | apply Kd.R_drew)); exact HO106.out) hb)
          have n2_ := Aside0.mk (below_step (by repeat (first | (with_reducible first | exact HB.out | apply below_alloc | apply pw_below_drewN | apply below_drew1) | exact HB.out)) hb)
          clear HO103
          clear HO106
          clear HB
          have HO103 := n0_
          have HO106 := n1_
          have HB := n2_
          clear n0_ n1_ n2_
          (try clear hb)
          (try clear hb2)
          (try clear hk)
          (try clear hi)
          refine hK.out _ _ ⟨HS0_, HS1_⟩ (fun hHeld => ?_)
          clear hK K
          refine norm_ (a' := ?_) ?_ ?_
          rotate_left
          · show Act.put _ (some 22) _ = _
            simp only [Act.put, List.setIfInBounds_toArray, List.set_cons_zero, List.set_cons_succ, i64_w, i32_w]
            rfl
          refine pure_ (i := 12) (N := some 23) (v := ?_) (a' := ?_) #[true, true, true, true, true, true, true, true, true, true, true, true, true, false] rfl rfl (any_of HT_.out (by kernel_rfl)) (fun _ _ _ h => h) (Or.inl ⟨by rfl, ?_⟩) ?_ ?_
          rotate_left
          · intro w'
            go_simp
            with_reducible rfl
          rotate_left
          · simp only [Act.put, List.setIfInBounds_toArray, List.set_cons_zero, List.set_cons_succ, i64_w, i32_w]
            rfl
          refine pure_ (i := 13) (N := some 2) (v := ?_) (a' := ?_) #[true, true, true, true, true, true, true, true, true, true, true, true, true, true] rfl rfl (any_of HT_.out (by kernel_rfl)) (fun _ _ _ h => h) (Or.inl ⟨by rfl, ?_⟩) ?_ ?_
          rotate_left
          · intro w'
            go_simp
            with_reducible rfl
          rotate_left
          · simp only [Act.put, List.setIfInBounds_toArray, List.set_cons_zero, List.set_cons_succ, i64_w, i32_w]
            rfl
          refine done_ (done_of HT_.out (by kernel_rfl)) ?_
          try go_wp2
          go_ret
          exact ⟨by first | rfl | (simp [errW_none, errW_some] <;> rfl) | (simp only [← hji2]; first | rfl | (simp [errW_none, errW_some] <;> rfl)) | (simp [*, errW_none, errW_some] <;> rfl), by repeat (first | (with_reducible first | exact HB.out | apply below_alloc | apply pw_below_drewN | apply below_drew1) | exact HB.out)⟩
        · rw [if_neg c7] at H
          have c7b0 : (t108 == (rd y104 (ji2))) = false := beq_eq_false_iff_ne.mpr c7
          have c7b1 : (t108 != (rd y104 (ji2))) = true := bne_iff_ne.mpr c7
          exact absurd H (by simp)
      · rw [if_neg c6] at H
        exact absurd H (by simp)
    · rw [if_neg c4] at H
      exact absurd H (by simp)
  · rw [if_neg c3] at H
    exact absurd H (by simp)

/-- THE ONE PURE STATEMENT of wringerlaw5_XxhKnown: yours. -/
def wringerlaw5_XxhKnown.Pure : Prop := ∀ (a0 : Int), (Lit.int .u8 a0).wf = true → ∃ k, wringerlaw5_XxhKnown.f k a0 = some true
theorem wringerlaw5_XxhKnown.walk (P : wringerlaw5_XxhKnown.Pure) (a0 : Int) (w : World) (w0 : (Lit.int .u8 a0).wf = true) :
    Calls Try.prog 4 #[.int .u8 a0] w fun e w' => e = .returned (.bool true) ∧ Below w.heap.size w w' := by
  obtain ⟨k, h⟩ := P a0 w0
  refine (wringerlaw5_XxhKnown.calls k a0 true w h).mono ?_
  rintro e w' ⟨rfl, hd⟩
  exact ⟨rfl, hd⟩

end Go.Proofs.Ytckjigbhdndgdaa.PXxhKnown
