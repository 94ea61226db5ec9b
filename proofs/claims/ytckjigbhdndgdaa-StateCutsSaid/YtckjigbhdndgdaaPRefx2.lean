/- Written by this session's program wip/tools/giv.py over the seat's translation: Lean functions of the Go functions named below and the proofs that the calls come to them. Conditions: as each contract states. -/
import Derived.Test.YtckjigbhdndgdaaPRefx0
import Derived.Test.YtckjigbhdndgdaaPRefx1
namespace Go.Proofs.Ytckjigbhdndgdaa.PRef
open Go.Proofs.Ytckjigbhdndgdaa.PBits
open Go.RowKit Go.Proofs.YtckjigbhdndgdaaW.PrintWords Go.Proofs.YtckjigbhdndgdaaW.PrintLast Go.Proofs.YtckjigbhdndgdaaW.PrintMore
attribute [local go_sem] fld0 fld1 fld2 max2_mx min2_mn max_two min_two max_three min_three max_four min_four   -- for this text's walks alone
set_option linter.unusedVariables false
set_option linter.unusedSimpArgs false

/-! ### wringerref1_Sum: function 13 -/
mutual
def wringerref1_Sum.j3 : Nat → ByteArray → Int → Int → Int → Option (Int)
  | 0, _, _, _, _ => none
  | k + 1, x1, x5, x6, x7 => wringerref1_Sum.l3 k x1 (IntKind.u64.wrap (x5 + (IntKind.u64.wrap (x6)))) x6 x7
def wringerref1_Sum.l3 : Nat → ByteArray → Int → Int → Int → Option (Int)
  | 0, _, _, _, _ => none
  | k + 1, x1, x5, x6, x7 => if (wrap64 (x7 + 8)) ≤ x6 then ((wringerref1_GetWord.f k x1 x7).bind fun bt123 => ((wringerref1_Round.f 0 bt123.1).bind fun t126 => ((wringerref1_rol.f (Go.bits .xor .u64 x5 t126) 27).bind fun t127 => (wringerref1_Sum.l3 k x1 (IntKind.u64.wrap ((IntKind.u64.wrap (t127 * 11400714785074694791)) + 9650029242287828579)) x6 (wrap64 (x7 + 8)))))) else (if (wrap64 (x7 + 4)) ≤ x6 then (wringerref1_Sum.l4 k x1 x5 x6 x7 0 0) else (wringerref1_Sum.j6 k x1 x5 x6 x7))
def wringerref1_Sum.j6 : Nat → ByteArray → Int → Int → Int → Option (Int)
  | 0, _, _, _, _ => none
  | k + 1, x1, x5, x6, x7 => wringerref1_Sum.l5 k x1 x5 x6 x7
def wringerref1_Sum.l5 : Nat → ByteArray → Int → Int → Int → Option (Int)
  | 0, _, _, _, _ => none
  | k + 1, x1, x5, x6, x7 => if x7 < x6 then (if 0 ≤ x7 then (if x7 < (x1.size : Int) then ((wringerref1_rol.f (Go.bits .xor .u64 x5 (IntKind.u64.wrap ((IntKind.u64.wrap (bt x1 x7)) * 2870177450012600261))) 11).bind fun t129 => (wringerref1_Sum.l5 k x1 (IntKind.u64.wrap (t129 * 11400714785074694791)) x6 (wrap64 (x7 + 1)))) else (none)) else (none)) else ((wringerref1_Mix.f x5).bind fun t130 => (some t130))
def wringerref1_Sum.l4 : Nat → ByteArray → Int → Int → Int → Int → Int → Option (Int)
  | 0, _, _, _, _, _, _ => none
  | k + 1, x1, x5, x6, x7, x12, x13 => if x13 < 4 then (if 0 ≤ (wrap64 (x7 + x13)) then (if (wrap64 (x7 + x13)) < (x1.size : Int) then (if 0 ≤ (wrap64 (8 * x13)) then (wringerref1_Sum.l4 k x1 x5 x6 x7 (Go.bits .or .u64 x12 (shl .u64 (IntKind.u64.wrap (bt x1 (wrap64 (x7 + x13)))) (wrap64 (8 * x13)))) (wrap64 (x13 + 1))) else (none)) else (none)) else (none)) else ((wringerref1_rol.f (Go.bits .xor .u64 x5 (IntKind.u64.wrap (x12 * 11400714785074694791))) 23).bind fun t128 => (wringerref1_Sum.j6 k x1 (IntKind.u64.wrap ((IntKind.u64.wrap (t128 * 14029467366897019727)) + 1609587929392839161)) x6 (wrap64 (x7 + 4))))
def wringerref1_Sum.l0 : Nat → ByteArray → Int → Int → List Int → Option (Int)
  | 0, _, _, _, _ => none
  | k + 1, x1, x6, x7, x9 => if (wrap64 (x7 + 32)) ≤ x6 then (wringerref1_Sum.l1 k x1 x6 x7 x9 0) else (if 0 < (x9.length : Int) then ((wringerref1_rol.f (rd x9 0) 1).bind fun t114 => (if 1 < (x9.length : Int) then ((wringerref1_rol.f (rd x9 1) 7).bind fun t116 => (if 2 < (x9.length : Int) then ((wringerref1_rol.f (rd x9 2) 12).bind fun t118 => (if 3 < (x9.length : Int) then ((wringerref1_rol.f (rd x9 3) 18).bind fun t120 => (wringerref1_Sum.l2 k x1 (IntKind.u64.wrap ((IntKind.u64.wrap ((IntKind.u64.wrap (t114 + t116)) + t118)) + t120)) x6 x7 x9 0)) else (none))) else (none))) else (none))) else (none))
def wringerref1_Sum.l1 : Nat → ByteArray → Int → Int → List Int → Int → Option (Int)
  | 0, _, _, _, _, _ => none
  | k + 1, x1, x6, x7, x9, x10 => if x10 < 4 then (if 0 ≤ x10 then (if x10 < (x9.length : Int) then ((wringerref1_GetWord.f k x1 x7).bind fun bt108 => ((wringerref1_Round.f (rd x9 x10) bt108.1).bind fun t111 => (wringerref1_Sum.l1 k x1 x6 (wrap64 (x7 + 8)) (x9.set (x10 : Int).toNat t111) (wrap64 (x10 + 1))))) else (none)) else (none)) else (wringerref1_Sum.l0 k x1 x6 x7 x9)
def wringerref1_Sum.l2 : Nat → ByteArray → Int → Int → Int → List Int → Int → Option (Int)
  | 0, _, _, _, _, _, _ => none
  | k + 1, x1, x5, x6, x7, x9, x11 => if x11 < 4 then (if 0 ≤ x11 then (if x11 < (x9.length : Int) then ((wringerref1_Round.f 0 (rd x9 x11)).bind fun t122 => (wringerref1_Sum.l2 k x1 (IntKind.u64.wrap ((IntKind.u64.wrap ((Go.bits .xor .u64 x5 t122) * 11400714785074694791)) + 9650029242287828579)) x6 x7 x9 (wrap64 (x11 + 1)))) else (none)) else (none)) else (wringerref1_Sum.j3 k x1 x5 x6 x7)
end
def wringerref1_Sum.f (k : Nat) (a0 : Int) (a1 : ByteArray) : Option (Int) := if (a1.size : Int) ≥ 32 then ((some (([IntKind.u64.wrap (a0 + 11400714785074694791), IntKind.u64.wrap (a0 + 14029467366897019727), a0, IntKind.u64.wrap (a0 - 11400714785074694791)] : List Int) : List Int)).bind fun y102 => (if 0 < (y102.length : Int) then (wringerref1_Sum.l0 k a1 (a1.size : Int) 0 (y102.set (0 : Int).toNat (IntKind.u64.wrap ((rd y102 0) + 14029467366897019727)))) else (none))) else (wringerref1_Sum.j3 k a1 (IntKind.u64.wrap (a0 + 2870177450012600261)) (a1.size : Int) 0)
theorem wringerref1_Sum.mono_l : ∀ k, (∀ y0 y1 y2 y3, LeO (wringerref1_Sum.j3 k y0 y1 y2 y3) (wringerref1_Sum.j3 (k + 1) y0 y1 y2 y3)) ∧ (∀ y0 y1 y2 y3, LeO (wringerref1_Sum.l3 k y0 y1 y2 y3) (wringerref1_Sum.l3 (k + 1) y0 y1 y2 y3)) ∧ (∀ y0 y1 y2 y3, LeO (wringerref1_Sum.j6 k y0 y1 y2 y3) (wringerref1_Sum.j6 (k + 1) y0 y1 y2 y3)) ∧ (∀ y0 y1 y2 y3, LeO (wringerref1_Sum.l5 k y0 y1 y2 y3) (wringerref1_Sum.l5 (k + 1) y0 y1 y2 y3)) ∧ (∀ y0 y1 y2 y3 y4 y5, LeO (wringerref1_Sum.l4 k y0 y1 y2 y3 y4 y5) (wringerref1_Sum.l4 (k + 1) y0 y1 y2 y3 y4 y5)) ∧ (∀ y0 y1 y2 y3, LeO (wringerref1_Sum.l0 k y0 y1 y2 y3) (wringerref1_Sum.l0 (k + 1) y0 y1 y2 y3)) ∧ (∀ y0 y1 y2 y3 y4, LeO (wringerref1_Sum.l1 k y0 y1 y2 y3 y4) (wringerref1_Sum.l1 (k + 1) y0 y1 y2 y3 y4)) ∧ (∀ y0 y1 y2 y3 y4 y5, LeO (wringerref1_Sum.l2 k y0 y1 y2 y3 y4 y5) (wringerref1_Sum.l2 (k + 1) y0 y1 y2 y3 y4 y5))
  | 0 => ⟨fun _ _ _ _ r h => by simp [wringerref1_Sum.j3] at h, fun _ _ _ _ r h => by simp [wringerref1_Sum.l3] at h, fun _ _ _ _ r h => by simp [wringerref1_Sum.j6] at h, fun _ _ _ _ r h => by simp [wringerref1_Sum.l5] at h, fun _ _ _ _ _ _ r h => by simp [wringerref1_Sum.l4] at h, fun _ _ _ _ r h => by simp [wringerref1_Sum.l0] at h, fun _ _ _ _ _ r h => by simp [wringerref1_Sum.l1] at h, fun _ _ _ _ _ _ r h => by simp [wringerref1_Sum.l2] at h⟩
  | k + 1 => by
    obtain ⟨ih0, ih1, ih2, ih3, ih4, ih5, ih6, ih7⟩ := wringerref1_Sum.mono_l k
    refine ⟨?_, ?_, ?_, ?_, ?_, ?_, ?_, ?_⟩
    · intro y0 y1 y2 y3
      unfold wringerref1_Sum.j3
      repeat' first
      | (with_reducible exact ih0 _ _ _ _)
      | (with_reducible exact ih1 _ _ _ _)
      | (with_reducible exact ih2 _ _ _ _)
      | (with_reducible exact ih3 _ _ _ _)
      | (with_reducible exact ih4 _ _ _ _ _ _)
      | (with_reducible exact ih5 _ _ _ _)
      | (with_reducible exact ih6 _ _ _ _ _)
      | (with_reducible exact ih7 _ _ _ _ _ _)
      | (with_reducible exact wringerref1_GetWord.mono _ _ _)
      | (with_reducible exact LeO.refl _)
      | (with_reducible exact LeO.none _)
      | (with_reducible refine LeO.ite ?_ ?_)
      | (with_reducible refine LeO.bind ?_ (fun _ => ?_))
      | exact ih0 _ _ _ _
      | exact ih1 _ _ _ _
      | exact ih2 _ _ _ _
      | exact ih3 _ _ _ _
      | exact ih4 _ _ _ _ _ _
      | exact ih5 _ _ _ _
      | exact ih6 _ _ _ _ _
      | exact ih7 _ _ _ _ _ _
      | exact wringerref1_GetWord.mono _ _ _
      | exact LeO.none _
      | refine LeO.ite ?_ ?_
      | refine LeO.bind ?_ (fun _ => ?_)
    · intro y0 y1 y2 y3
      unfold wringerref1_Sum.l3
      repeat' first
      | (with_reducible exact ih0 _ _ _ _)
      | (with_reducible exact ih1 _ _ _ _)
      | (with_reducible exact ih2 _ _ _ _)
      | (with_reducible exact ih3 _ _ _ _)
      | (with_reducible exact ih4 _ _ _ _ _ _)
      | (with_reducible exact ih5 _ _ _ _)
      | (with_reducible exact ih6 _ _ _ _ _)
      | (with_reducible exact ih7 _ _ _ _ _ _)
      | (with_reducible exact wringerref1_GetWord.mono _ _ _)
      | (with_reducible exact LeO.refl _)
      | (with_reducible exact LeO.none _)
      | (with_reducible refine LeO.ite ?_ ?_)
      | (with_reducible refine LeO.bind ?_ (fun _ => ?_))
      | exact ih0 _ _ _ _
      | exact ih1 _ _ _ _
      | exact ih2 _ _ _ _
      | exact ih3 _ _ _ _
      | exact ih4 _ _ _ _ _ _
      | exact ih5 _ _ _ _
      | exact ih6 _ _ _ _ _
      | exact ih7 _ _ _ _ _ _
      | exact wringerref1_GetWord.mono _ _ _
      | exact LeO.none _
      | refine LeO.ite ?_ ?_
      | refine LeO.bind ?_ (fun _ => ?_)
    · intro y0 y1 y2 y3
      unfold wringerref1_Sum.j6
      repeat' first
      | (with_reducible exact ih0 _ _ _ _)
      | (with_reducible exact ih1 _ _ _ _)
      | (with_reducible exact ih2 _ _ _ _)
      | (with_reducible exact ih3 _ _ _ _)
      | (with_reducible exact ih4 _ _ _ _ _ _)
      | (with_reducible exact ih5 _ _ _ _)
      | (with_reducible exact ih6 _ _ _ _ _)
      | (with_reducible exact ih7 _ _ _ _ _ _)
      | (with_reducible exact wringerref1_GetWord.mono _ _ _)
      | (with_reducible exact LeO.refl _)
      | (with_reducible exact LeO.none _)
      | (with_reducible refine LeO.ite ?_ ?_)
      | (with_reducible refine LeO.bind ?_ (fun _ => ?_))
      | exact ih0 _ _ _ _
      | exact ih1 _ _ _ _
      | exact ih2 _ _ _ _
      | exact ih3 _ _ _ _
      | exact ih4 _ _ _ _ _ _
      | exact ih5 _ _ _ _
      | exact ih6 _ _ _ _ _
      | exact ih7 _ _ _ _ _ _
      | exact wringerref1_GetWord.mono _ _ _
      | exact LeO.none _
      | refine LeO.ite ?_ ?_
      | refine LeO.bind ?_ (fun _ => ?_)
    · intro y0 y1 y2 y3
      unfold wringerref1_Sum.l5
      repeat' first
      | (with_reducible exact ih0 _ _ _ _)
      | (with_reducible exact ih1 _ _ _ _)
      | (with_reducible exact ih2 _ _ _ _)
      | (with_reducible exact ih3 _ _ _ _)
      | (with_reducible exact ih4 _ _ _ _ _ _)
      | (with_reducible exact ih5 _ _ _ _)
      | (with_reducible exact ih6 _ _ _ _ _)
      | (with_reducible exact ih7 _ _ _ _ _ _)
      | (with_reducible exact wringerref1_GetWord.mono _ _ _)
      | (with_reducible exact LeO.refl _)
      | (with_reducible exact LeO.none _)
      | (with_reducible refine LeO.ite ?_ ?_)
      | (with_reducible refine LeO.bind ?_ (fun _ => ?_))
      | exact ih0 _ _ _ _
      | exact ih1 _ _ _ _
      | exact ih2 _ _ _ _
      | exact ih3 _ _ _ _
      | exact ih4 _ _ _ _ _ _
      | exact ih5 _ _ _ _
      | exact ih6 _ _ _ _ _
      | exact ih7 _ _ _ _ _ _
      | exact wringerref1_GetWord.mono _ _ _
      | exact LeO.none _
      | refine LeO.ite ?_ ?_
      | refine LeO.bind ?_ (fun _ => ?_)
    · intro y0 y1 y2 y3 y4 y5
      unfold wringerref1_Sum.l4
      repeat' first
      | (with_reducible exact ih0 _ _ _ _)
      | (with_reducible exact ih1 _ _ _ _)
      | (with_reducible exact ih2 _ _ _ _)
      | (with_reducible exact ih3 _ _ _ _)
      | (with_reducible exact ih4 _ _ _ _ _ _)
      | (with_reducible exact ih5 _ _ _ _)
      | (with_reducible exact ih6 _ _ _ _ _)
      | (with_reducible exact ih7 _ _ _ _ _ _)
      | (with_reducible exact wringerref1_GetWord.mono _ _ _)
      | (with_reducible exact LeO.refl _)
      | (with_reducible exact LeO.none _)
      | (with_reducible refine LeO.ite ?_ ?_)
      | (with_reducible refine LeO.bind ?_ (fun _ => ?_))
      | exact ih0 _ _ _ _
      | exact ih1 _ _ _ _
      | exact ih2 _ _ _ _
      | exact ih3 _ _ _ _
      | exact ih4 _ _ _ _ _ _
      | exact ih5 _ _ _ _
      | exact ih6 _ _ _ _ _
      | exact ih7 _ _ _ _ _ _
      | exact wringerref1_GetWord.mono _ _ _
      | exact LeO.none _
      | refine LeO.ite ?_ ?_
      | refine LeO.bind ?_ (fun _ => ?_)
    · intro y0 y1 y2 y3
      unfold wringerref1_Sum.l0
      repeat' first
      | (with_reducible exact ih0 _ _ _ _)
      | (with_reducible exact ih1 _ _ _ _)
      | (with_reducible exact ih2 _ _ _ _)
      | (with_reducible exact ih3 _ _ _ _)
      | (with_reducible exact ih4 _ _ _ _ _ _)
      | (with_reducible exact ih5 _ _ _ _)
      | (with_reducible exact ih6 _ _ _ _ _)
      | (with_reducible exact ih7 _ _ _ _ _ _)
      | (with_reducible exact wringerref1_GetWord.mono _ _ _)
      | (with_reducible exact LeO.refl _)
      | (with_reducible exact LeO.none _)
      | (with_reducible refine LeO.ite ?_ ?_)
      | (with_reducible refine LeO.bind ?_ (fun _ => ?_))
      | exact ih0 _ _ _ _
      | exact ih1 _ _ _ _
      | exact ih2 _ _ _ _
      | exact ih3 _ _ _ _
      | exact ih4 _ _ _ _ _ _
      | exact ih5 _ _ _ _
      | exact ih6 _ _ _ _ _
      | exact ih7 _ _ _ _ _ _
      | exact wringerref1_GetWord.mono _ _ _
      | exact LeO.none _
      | refine LeO.ite ?_ ?_
      | refine LeO.bind ?_ (fun _ => ?_)
    · intro y0 y1 y2 y3 y4
      unfold wringerref1_Sum.l1
      repeat' first
      | (with_reducible exact ih0 _ _ _ _)
      | (with_reducible exact ih1 _ _ _ _)
      | (with_reducible exact ih2 _ _ _ _)
      | (with_reducible exact ih3 _ _ _ _)
      | (with_reducible exact ih4 _ _ _ _ _ _)
      | (with_reducible exact ih5 _ _ _ _)
      | (with_reducible exact ih6 _ _ _ _ _)
      | (with_reducible exact ih7 _ _ _ _ _ _)
      | (with_reducible exact wringerref1_GetWord.mono _ _ _)
      | (with_reducible exact LeO.refl _)
      | (with_reducible exact LeO.none _)
      | (with_reducible refine LeO.ite ?_ ?_)
      | (with_reducible refine LeO.bind ?_ (fun _ => ?_))
      | exact ih0 _ _ _ _
      | exact ih1 _ _ _ _
      | exact ih2 _ _ _ _
      | exact ih3 _ _ _ _
      | exact ih4 _ _ _ _ _ _
      | exact ih5 _ _ _ _
      | exact ih6 _ _ _ _ _
      | exact ih7 _ _ _ _ _ _
      | exact wringerref1_GetWord.mono _ _ _
      | exact LeO.none _
      | refine LeO.ite ?_ ?_
      | refine LeO.bind ?_ (fun _ => ?_)
    · intro y0 y1 y2 y3 y4 y5
      unfold wringerref1_Sum.l2
      repeat' first
      | (with_reducible exact ih0 _ _ _ _)
      | (with_reducible exact ih1 _ _ _ _)
      | (with_reducible exact ih2 _ _ _ _)
      | (with_reducible exact ih3 _ _ _ _)
      | (with_reducible exact ih4 _ _ _ _ _ _)
      | (with_reducible exact ih5 _ _ _ _)
      | (with_reducible exact ih6 _ _ _ _ _)
      | (with_reducible exact ih7 _ _ _ _ _ _)
      | (with_reducible exact wringerref1_GetWord.mono _ _ _)
      | (with_reducible exact LeO.refl _)
      | (with_reducible exact LeO.none _)
      | (with_reducible refine LeO.ite ?_ ?_)
      | (with_reducible refine LeO.bind ?_ (fun _ => ?_))
      | exact ih0 _ _ _ _
      | exact ih1 _ _ _ _
      | exact ih2 _ _ _ _
      | exact ih3 _ _ _ _
      | exact ih4 _ _ _ _ _ _
      | exact ih5 _ _ _ _
      | exact ih6 _ _ _ _ _
      | exact ih7 _ _ _ _ _ _
      | exact wringerref1_GetWord.mono _ _ _
      | exact LeO.none _
      | refine LeO.ite ?_ ?_
      | refine LeO.bind ?_ (fun _ => ?_)
theorem wringerref1_Sum.mono : ∀ a0 a1 k, LeO (wringerref1_Sum.f k a0 a1) (wringerref1_Sum.f (k + 1) a0 a1) := by
  intro a0 a1 k
  obtain ⟨ih0, ih1, ih2, ih3, ih4, ih5, ih6, ih7⟩ := wringerref1_Sum.mono_l k
  unfold wringerref1_Sum.f
  repeat' first
      | (with_reducible exact ih0 _ _ _ _)
      | (with_reducible exact ih1 _ _ _ _)
      | (with_reducible exact ih2 _ _ _ _)
      | (with_reducible exact ih3 _ _ _ _)
      | (with_reducible exact ih4 _ _ _ _ _ _)
      | (with_reducible exact ih5 _ _ _ _)
      | (with_reducible exact ih6 _ _ _ _ _)
      | (with_reducible exact ih7 _ _ _ _ _ _)
      | (with_reducible exact wringerref1_GetWord.mono _ _ _)
      | (with_reducible exact LeO.refl _)
      | (with_reducible exact LeO.none _)
      | (with_reducible refine LeO.ite ?_ ?_)
      | (with_reducible refine LeO.bind ?_ (fun _ => ?_))
      | exact ih0 _ _ _ _
      | exact ih1 _ _ _ _
      | exact ih2 _ _ _ _
      | exact ih3 _ _ _ _
      | exact ih4 _ _ _ _ _ _
      | exact ih5 _ _ _ _
      | exact ih6 _ _ _ _ _
      | exact ih7 _ _ _ _ _ _
      | exact wringerref1_GetWord.mono _ _ _
      | exact LeO.none _
      | refine LeO.ite ?_ ?_
      | refine LeO.bind ?_ (fun _ => ?_)
def wringerref1_Sum.T12 : Bool × List (List Nat × List Nat) := (true, [([], []), ([], []), ([], []), ([], []), ([2, 3], [2, 3]), ([4], [4]), ([], []), ([], []), ([6, 7], [6, 7]), ([8], [8]), ([5, 9, 8], [5, 9]), ([0, 1, 0, 1, 2, 3, 4, 5, 6, 7, 8, 9, 10], [0, 1]), ([11, 10, 10, 0, 1, 2, 3, 4, 5, 6, 7, 8, 9, 10], [10, 11])])
def wringerref1_Sum.B12 : List Nat := [0, 0, 0, 0, 12, 28, 0, 0, 192, 448, 1020, 2047, 4095]
theorem wringerref1_Sum.tab12 : rtab .any (opsOf Try.f13 12) = wringerref1_Sum.T12 := by kernel_rfl
theorem wringerref1_Sum.bits12 : waitsOk wringerref1_Sum.T12.2 wringerref1_Sum.B12 = true := by kernel_rfl
def wringerref1_Sum.T14 : Bool × List (List Nat × List Nat) := (true, [([], []), ([0], [0]), ([1], [1]), ([2], [2]), ([], []), ([4], [4]), ([5], [5]), ([6, 3], [6]), ([3, 7], [3, 7]), ([], []), ([9], [9]), ([10], [10]), ([11, 7], [11]), ([8, 12], [8, 12]), ([], []), ([14], [14]), ([15], [15]), ([16, 12], [16]), ([13, 17], [13, 17]), ([18, 17, 0, 1, 2, 3, 4, 5, 6, 7, 8, 9, 10, 11, 12, 13, 14, 15, 16, 17, 18], [18])])
def wringerref1_Sum.B14 : List Nat := [0, 1, 3, 7, 0, 16, 48, 127, 255, 0, 512, 1536, 3839, 8191, 0, 16384, 49152, 122623, 262143, 524287]
theorem wringerref1_Sum.tab14 : rtab .any (opsOf Try.f13 14) = wringerref1_Sum.T14 := by kernel_rfl
theorem wringerref1_Sum.bits14 : waitsOk wringerref1_Sum.T14.2 wringerref1_Sum.B14 = true := by kernel_rfl
set_option maxHeartbeats 8000000 in
set_option maxRecDepth 100000 in
theorem wringerref1_Sum.calls (k : Nat) (a0 : Int) (a1 : ByteArray) (r : Int) (w : World) (h : wringerref1_Sum.f k a0 a1 = some r) :
    Calls Try.prog 13 #[.int .u64 a0, .string a1] w fun e w' => e = .returned (.int .u64 r) ∧ Below w.heap.size w w' := by
  have hu48 := Try.underlying48
  have HB := Aside0.mk (Below.refl w.heap.size w)
  have H : (if (a1.size : Int) ≥ 32 then ((some (([IntKind.u64.wrap (a0 + 11400714785074694791), IntKind.u64.wrap (a0 + 14029467366897019727), a0, IntKind.u64.wrap (a0 - 11400714785074694791)] : List Int) : List Int)).bind fun y102 => (if 0 < (y102.length : Int) then (wringerref1_Sum.l0 k a1 (a1.size : Int) 0 (y102.set (0 : Int).toNat (IntKind.u64.wrap ((rd y102 0) + 14029467366897019727)))) else (none))) else (wringerref1_Sum.j3 k a1 (IntKind.u64.wrap (a0 + 2870177450012600261)) (a1.size : Int) 0)) = some r := h
  clear h
  have HC3 := Aside0.mk H
  clear H
  go_enter Try.func13, Try.ntmps13
  go_upto_if 19 with (fail)
  go_cut [5, 7] (fun v5 v7 wc => ∃ (kq : Nat) (x5_2 : Int) (x7_2 : Int), v5 = .int .u64 x5_2 ∧ v7 = .int .i64 x7_2 ∧ Aside0 (wringerref1_Sum.j3 kq a1 x5_2 (a1.size : Int) x7_2 = some r) ∧ Aside0 (kq ≤ k) ∧ Aside0 (Below w.heap.size w wc))
  case first =>
    have H := HC3.out
    clear HC3
    by_cases c4 : (a1.size : Int) ≥ 32
    · rw [if_pos c4] at H
      have c4b0 : decide (32 ≤ (a1.size : Int)) = true := decide_eq_true c4
      have c4b1 : decide (32 ≤ a1.size) = true := decide_eq_true (by omega)
      clear c4
      (first | rw [c4b0] | (simp only [i64_w, i32_w]; rw [c4b0]) | skip)
      obtain ⟨y102, hy102⟩ : ∃ y_ : List Int, y_ = (([IntKind.u64.wrap (a0 + 11400714785074694791), IntKind.u64.wrap (a0 + 14029467366897019727), a0, IntKind.u64.wrap (a0 - 11400714785074694791)] : List Int)) := ⟨_, rfl⟩
      replace H : (if 0 < (y102.length : Int) then (wringerref1_Sum.l0 k a1 (a1.size : Int) 0 (y102.set (0 : Int).toNat (IntKind.u64.wrap ((rd y102 0) + 14029467366897019727)))) else (none)) = some r := by first | (rw [hy102]; with_reducible exact H) | (have H2_ := (Option.bind_some _ _).symm.trans H; rw [hy102]; with_reducible exact H2_) | (have H2_ := (Option.bind_some _ _).symm.trans H; with_reducible exact H2_) | with_reducible exact H | (rw [hy102]; exact H) | exact H
      have Ny102 := Aside0.mk hy102
      clear hy102
      by_cases c5 : 0 < (y102.length : Int)
      · rw [if_pos c5] at H
        have c5b0 : decide (0 < (y102.length : Int)) = true := decide_eq_true c5
        have c5b1 : decide (0 < y102.length) = true := decide_eq_true (by omega)
        clear c5
        obtain ⟨y106, hy106⟩ : ∃ y_ : List Int, y_ = (y102.set (0 : Int).toNat (IntKind.u64.wrap ((rd y102 0) + 14029467366897019727))) := ⟨_, rfl⟩
        replace H : (wringerref1_Sum.l0 k a1 (a1.size : Int) 0 y106) = some r := by first | (rw [hy106]; with_reducible exact H) | (have H2_ := (Option.bind_some _ _).symm.trans H; rw [hy106]; with_reducible exact H2_) | (have H2_ := (Option.bind_some _ _).symm.trans H; with_reducible exact H2_) | with_reducible exact H | (rw [hy106]; exact H) | exact H
        have Ny106 := Aside0.mk hy106
        clear hy106
        have H' := Aside0.mk H
        clear H
        go_wp2_with (first | ((with_reducible refine gate_dst (N := 28) rfl ?_); refine Kd.R_lit (Kd.int .u64) _ 22 ?hg (N := 28) ?hd (xs := ([IntKind.u64.wrap (a0 + 11400714785074694791), IntKind.u64.wrap (a0 + 14029467366897019727), a0, IntKind.u64.wrap (a0 - 11400714785074694791)] : List Int)) (inner := [.int .u64 (IntKind.u64.wrap (a0 + 11400714785074694791)), .int .u64 (IntKind.u64.wrap (a0 + 14029467366897019727)), .int .u64 a0, .int .u64 (IntKind.u64.wrap (a0 - 11400714785074694791))]) (ok := fun _ => True) (okp := fun _ => True) ?hr ?hp (fun _ hk => hk) trivial (Below.refl _ _) (Nat.le_refl _) (by simp) ?_; (case hd => rfl); (case hg => rfl); (case hr => first | (go_simp; done) | (go_simp; rfl)); (case hp => exact (Reps.one (show Kd.M (Kd.int .u64) _ _ _ (IntKind.u64.wrap (a0 + 11400714785074694791)) [.int .u64 (IntKind.u64.wrap (a0 + 11400714785074694791))] from rfl) (Reps.one (show Kd.M (Kd.int .u64) _ _ _ (IntKind.u64.wrap (a0 + 14029467366897019727)) [.int .u64 (IntKind.u64.wrap (a0 + 14029467366897019727))] from rfl) (Reps.one (show Kd.M (Kd.int .u64) _ _ _ a0 [.int .u64 a0] from rfl) (Reps.one (show Kd.M (Kd.int .u64) _ _ _ (IntKind.u64.wrap (a0 - 11400714785074694791)) [.int .u64 (IntKind.u64.wrap (a0 - 11400714785074694791))] from rfl) (Reps.none _ _)))))); intro v103 w7 ho8 hb hg_ hnew_; clear hg_ hnew_; (first | rw [← Ny102.out] at ho8 | (simp only [Int.reduceToNat] at ho8; rw [← Ny102.out] at ho8)); have n0_ := Aside0.mk (Kd.R_lower ho8 (below_size (by repeat (first | (with_reducible first | exact HB.out | apply below_alloc | apply pw_below_drewN | apply below_drew1) | exact HB.out)))); have n1_ := Aside0.mk (below_step (by repeat (first | (with_reducible first | exact HB.out | apply below_alloc | apply pw_below_drewN | apply below_drew1) | exact HB.out)) hb); clear HB; have HO104 := n0_; have HB := n1_; clear n0_ n1_; clear hb ho8; obtain ⟨Ao9, co9, eo9⟩ := Kd.R_slice HO104.out; subst eo9; have p105 : 0 ≤ (0 : Int) := (by omega); have q105 : 0 < (y102.length : Int) := of_decide_eq_true (by first | (with_reducible assumption) | assumption); obtain ⟨ad105, e105, hx105_0⟩ := Kd.at_int (Kd.R_reads' HO104.out).2.2 0 p105 q105; cases e105; have qi105 : (0 < y102.length) = True := eq_true (by omega); (try rw [show ((0 : Int)).toNat = 0 from rfl] at hx105_0); (try rw [Addr.add_zero'] at hx105_0); replace p105 := eq_true p105; replace q105 := eq_true q105; have p6 : 0 ≤ (0 : Int) := (by omega); have q6 : (0 : Int) < ((y102.length : Int) : Int) := of_decide_eq_true (by first | (with_reducible assumption) | assumption); have qi6 : (0 < y102.length) = True := eq_true (by omega); obtain ⟨go6, co6, eo6, gb6, gl6, cl6, HG6⟩ := Kd.R_form HO104.out (by omega); (first | cases eo6 | (injection eo6 with ea_ en_ ec_; (first | subst ea_ | (injection ea_ with ea_; subst ea_)); subst ec_; clear en_)); have GB6 := Aside0.mk gb6; have GG6 := Aside0.mk HG6; clear gb6 gl6 HG6; (first | simp only [add_plain] at hx105_0 | skip); obtain ⟨hx6_0, hf6_0⟩ := Kd.R_celln 0 HO104.out (0 : Int) p6 q6; (try rw [show ((0 : Int)).toNat = 0 from rfl] at hx6_0); (try simp only [Nat.reduceMul, Nat.zero_mul, Nat.zero_add, Nat.reduceAdd] at hx6_0); (try rw [show ((0 : Int)).toNat = 0 from rfl] at hf6_0); (try simp only [Nat.reduceMul, Nat.zero_mul, Nat.zero_add, Nat.reduceAdd] at hf6_0); replace p6 := eq_true p6; replace q6 := eq_true q6; obtain ⟨hy10_, hz10_⟩ := Kd.R_celln 0 HO104.out (0 : Int) (by omega) (of_decide_eq_true (by first | (with_reducible assumption) | assumption)); (try simp only [Int.reduceToNat, Int.toNat_zero, Int.toNat_ofNat, Nat.reduceMul, Nat.zero_mul, Nat.zero_add] at hy10_ hz10_); (try rw [show ((0 : Int)).toNat = 0 from rfl] at hy10_); (try rw [show ((0 : Int)).toNat = 0 from rfl] at hz10_); have HP10 := Kd.R_putg HO104.out (0 : Int) (IntKind.u64.wrap ((rd y102 0) + 14029467366897019727))) | ((with_reducible refine gate_store (t := 22) (p := 35) rfl ?_); refine store_event (t := 22) (p := 35) (v := ?vo_w11) (w1 := (w7.setCell ⟨go6, (0 : Int).toNat, none⟩ (.int .u64 (IntKind.u64.wrap ((rd y102 0) + 14029467366897019727))))) ?hg ?ho ?hn ?hr ?_; (case ho => rfl); (case hg => rfl); (case hn => rfl); (case hr => first | (go_simp; done) | (go_simp; rfl)); intro w11 hw; have hg : w7.grownBy w11 (some go6) := (by rw [hw]; exact HP10.2); have hp_ : Kd.R (Kd.int .u64) 22 w11 w.heap.size (fun _ => True) (.slice (some ⟨go6, 0, none⟩) y102.length co9) y106 := (by rw [hw, Ny106.out]; exact HP10.1); clear HP10; have n0_ := Aside0.mk (hp_); have n1_ := Aside0.mk ((by rw [hw]; exact below_set (HB.out) GB6.out : Below w.heap.size w w11)); clear HO104; clear HB; have HO104 := n0_; have HB := n1_; clear n0_ n1_; clear hg hw hp_))
        go_loopg [7] k (fun kq v7 w' => ∃ (x7_1 : Int) (x9_1 : List Int), v7 = .int .i64 x7_1 ∧ Aside0 (wringerref1_Sum.l0 kq a1 (a1.size : Int) x7_1 x9_1 = some r) ∧ Aside0 (kq ≤ k) ∧ Aside0 (Kd.R (Kd.int .u64) 22 w' w.heap.size (fun _ => True) (.slice (some ⟨go6, 0, none⟩) y102.length co9) x9_1) ∧ Aside0 (Below w.heap.size w w'))
        case atStart => exact ⟨(0), (y106), (by first | rfl | (simp; done) | (simp [*]; done)), H', ⟨Nat.le_refl _⟩, ⟨by (with_reducible repeat (first | apply Kd.R_alloc | apply Kd.R_drewN | apply Kd.R_drew)); exact HO104.out⟩, ⟨by repeat (first | (with_reducible first | exact HB.out | apply below_alloc | apply pw_below_drewN | apply below_drew1) | exact HB.out)⟩⟩
        case round =>
          clear H'
          try clear c1
          try clear p1
          try clear q1
          try clear hx1
          try clear qi1
          try clear p2
          try clear c4
          try clear c4b0
          try clear c4b1
          try clear c5
          try clear c5b0
          try clear c5b1
          try clear p6
          try clear q6
          try clear hx6
          try clear qi6
          try clear hf6
          try clear p10
          try clear q10
          try clear hx10
          try clear qi10
          try clear hx105_0
          try clear hx6_0
          try clear p105
          try clear p6
          try clear q105
          try clear q6
          obtain ⟨x7_1, x9_1, rfl, HA, HK1, HO_9, HB⟩ := hrel
          have hl9_1 := (Kd.R_reads' HO_9.out).1
          rw [hl9_1] at HO_9
          (try simp only [hl9_1])
          cases gk with
          | zero => exact absurd HA.out (by simp [wringerref1_Sum.l0])
          | succ k1 =>
            have H := HA.out
            clear HA
            simp only [wringerref1_Sum.l0] at H
            by_cases c12 : (wrap64 (x7_1 + 32)) ≤ (a1.size : Int)
            · rw [if_pos c12] at H
              have c12b0 : decide ((wrap64 (x7_1 + 32)) ≤ (a1.size : Int)) = true := decide_eq_true c12
              clear c12
              have H' := Aside0.mk H
              clear H
              go_wp2
              go_loopg [7, 10] k1 (fun kq v7 v10 w' => ∃ (x7_2 : Int) (x9_2 : List Int) (x10_2 : Int), v7 = .int .i64 x7_2 ∧ v10 = .int .i64 x10_2 ∧ Aside0 (wringerref1_Sum.l1 kq a1 (a1.size : Int) x7_2 x9_2 x10_2 = some r) ∧ Aside0 (kq ≤ k1) ∧ Aside0 (Kd.R (Kd.int .u64) 22 w' w.heap.size (fun _ => True) (.slice (some ⟨go6, 0, none⟩) x9_1.length co9) x9_2) ∧ Aside0 (Below w.heap.size w w'))
              case atStart => exact ⟨(x7_1), (x9_1), (0), (by first | rfl | (simp; done) | (simp [*]; done)), (by first | rfl | (simp; done) | (simp [*]; done)), H', ⟨Nat.le_refl _⟩, ⟨by (try simp only [hl9_1]); (with_reducible repeat (first | apply Kd.R_alloc | apply Kd.R_drewN | apply Kd.R_drew)); exact HO_9.out⟩, ⟨by repeat (first | (with_reducible first | exact HB.out | apply below_alloc | apply pw_below_drewN | apply below_drew1) | exact HB.out)⟩⟩
              case round =>
                clear H'
                try clear c1
                try clear p1
                try clear q1
                try clear hx1
                try clear qi1
                try clear p2
                try clear c4
                try clear c4b0
                try clear c4b1
                try clear c5
                try clear c5b0
                try clear c5b1
                try clear p6
                try clear q6
                try clear hx6
                try clear qi6
                try clear hf6
                try clear p10
                try clear q10
                try clear hx10
                try clear qi10
                try clear c12
                try clear c12b0
                try clear hx105_0
                try clear hx6_0
                try clear p1
                try clear p10
                try clear p105
                try clear p2
                try clear p6
                try clear q1
                try clear q10
                try clear q105
                try clear q6
                obtain ⟨x7_2, x9_2, x10_2, rfl, rfl, HA, HK2, HO_9, HB⟩ := hrel
                have hl9_2 := (Kd.R_reads' HO_9.out).1
                rw [hl9_2] at HO_9
                (try simp only [hl9_2])
                cases gk with
                | zero => exact absurd HA.out (by simp [wringerref1_Sum.l1])
                | succ k2 =>
                  have H := HA.out
                  clear HA
                  simp only [wringerref1_Sum.l1] at H
                  by_cases c13 : x10_2 < 4
                  · rw [if_pos c13] at H
                    have c13b0 : decide (x10_2 < 4) = true := decide_eq_true c13
                    clear c13
                    by_cases c14 : 0 ≤ x10_2
                    · rw [if_pos c14] at H
                      have c14b0 : decide (0 ≤ x10_2) = true := decide_eq_true c14
                      clear c14
                      by_cases c15 : x10_2 < (x9_2.length : Int)
                      · rw [if_pos c15] at H
                        have c15b0 : decide (x10_2 < (x9_2.length : Int)) = true := decide_eq_true c15
                        clear c15
                        replace H := Option.bind_eq_some_iff.mp H
                        obtain ⟨⟨t108, t109, t110⟩, A160, H⟩ := H
                        replace H : ((wringerref1_Round.f (rd x9_2 x10_2) t108).bind fun t111 => (wringerref1_Sum.l1 k2 a1 (a1.size : Int) (wrap64 (x7_2 + 8)) (x9_2.set (x10_2 : Int).toNat t111) (wrap64 (x10_2 + 1)))) = some r := H
                        have A16 := Aside0.mk A160
                        clear A160
                        replace H := Option.bind_eq_some_iff.mp H
                        obtain ⟨t111, A170, H⟩ := H
                        replace H : (wringerref1_Sum.l1 k2 a1 (a1.size : Int) (wrap64 (x7_2 + 8)) (x9_2.set (x10_2 : Int).toNat t111) (wrap64 (x10_2 + 1))) = some r := H
                        have A17 := Aside0.mk A170
                        clear A170
                        obtain ⟨y112, hy112⟩ : ∃ y_ : List Int, y_ = (x9_2.set (x10_2 : Int).toNat t111) := ⟨_, rfl⟩
                        replace H : (wringerref1_Sum.l1 k2 a1 (a1.size : Int) (wrap64 (x7_2 + 8)) y112 (wrap64 (x10_2 + 1))) = some r := by first | (rw [hy112]; with_reducible exact H) | (have H2_ := (Option.bind_some _ _).symm.trans H; rw [hy112]; with_reducible exact H2_) | (have H2_ := (Option.bind_some _ _).symm.trans H; with_reducible exact H2_) | with_reducible exact H | (rw [hy112]; exact H) | exact H
                        have Ny112 := Aside0.mk hy112
                        clear hy112
                        have H' := Aside0.mk H
                        clear H
                        try go_wp2
                        have n0_ := Aside0.mk (Kd.R_drew HO_9.out)
                        have n1_ := Aside0.mk (below_drew1 HB.out)
                        clear HO_9
                        clear HB
                        have HO_9 := n0_
                        have HB := n1_
                        clear n0_ n1_
                        have p107 : 0 ≤ (x10_2 : Int) := of_decide_eq_true (by first | (with_reducible assumption) | assumption)
                        have q107 : x10_2 < (x9_2.length : Int) := of_decide_eq_true (by first | (with_reducible assumption) | assumption)
                        obtain ⟨ad107, e107, hx107_0⟩ := Kd.at_int (Kd.R_reads' HO_9.out).2.2 x10_2 p107 q107
                        obtain rfl : (⟨go6, 0, none⟩ : Addr) = ad107 := (by injection e107)
                        (first | simp only [add_plain] at hx107_0 | simp only [add_at] at hx107_0 | simp only [Addr.add, Nat.zero_add] at hx107_0 | skip)
                        replace p107 := eq_true p107
                        replace q107 := eq_true q107
                        refine start_ (n := 13) (S := fun w' => w'.cell? ⟨go6, (x10_2).toNat, none⟩ = some (.int .u64 (rd x9_2 x10_2))) (ds := [12]) #[false, false, false, false, false, false, false, false, false, false, false, false, false] (by kernel_rfl) rfl rfl (hx107_0) (fun hHeld => ?_); refine with_tabW wringerref1_Sum.tab12 wringerref1_Sum.bits12 (fun HT_ HW_ => ?_)
                        generalize wr.drew = w19 at HO_9 HB hx107_0 hHeld ⊢
                        refine pure_ (i := 0) (N := some 44) (v := ?_) (a' := ?_) #[true, false, false, false, false, false, false, false, false, false, false, false, false] rfl rfl (any_of HT_.out (by kernel_rfl)) (fun _ _ _ h => h) (Or.inl ⟨by rfl, ?_⟩) ?_ ?_
                        rotate_left
                        · intro w'
                          go_simp
                          with_reducible rfl
                        rotate_left
                        · simp only [Act.put, List.setIfInBounds_toArray, List.set_cons_zero, List.set_cons_succ, i64_w, i32_w]
                          rfl
                        refine pure_ (i := 1) (N := some 45) (v := ?_) (a' := ?_) #[true, true, false, false, false, false, false, false, false, false, false, false, false] rfl rfl (any_of HT_.out (by kernel_rfl)) (fun _ _ _ h => h) (Or.inl ⟨by rfl, ?_⟩) ?_ ?_
                        rotate_left
                        · intro w'
                          go_simp
                          with_reducible rfl
                        rotate_left
                        · simp only [Act.put, List.setIfInBounds_toArray, List.set_cons_zero, List.set_cons_succ, i64_w, i32_w]
                          rfl
                        refine pure_ (i := 2) (N := some 46) (v := ?_) (a' := ?_) #[true, true, true, false, false, false, false, false, false, false, false, false, false] rfl rfl (any_of HT_.out (by kernel_rfl)) (fun _ _ _ h => h) (Or.inl ⟨by rfl, ?_⟩) ?_ ?_
                        rotate_left
                        · intro w'
                          go_simp
                          with_reducible rfl
                        rotate_left
                        · simp only [Act.put, List.setIfInBounds_toArray, List.set_cons_zero, List.set_cons_succ, i64_w, i32_w]
                          rfl
                        refine pure_ (i := 3) (N := some 47) (v := ?_) (a' := ?_) #[true, true, true, true, false, false, false, false, false, false, false, false, false] rfl rfl (any_of HT_.out (by kernel_rfl)) (fun _ _ _ h => h) (Or.inl ⟨by rfl, ?_⟩) ?_ ?_
                        rotate_left
                        · intro w'
                          go_simp
                          with_reducible rfl
                        rotate_left
                        · simp only [Act.put, List.setIfInBounds_toArray, List.set_cons_zero, List.set_cons_succ, i64_w, i32_w]
                          rfl
                        refine pure_ (i := 4) (N := some 48) (v := ?_) (a' := ?_) #[true, true, true, true, true, false, false, false, false, false, false, false, false] rfl rfl (any_of HT_.out (by kernel_rfl)) (fun _ _ _ h => h) (Or.inl ⟨by rfl, ?_⟩) ?_ ?_
                        rotate_left
                        · intro w'
                          go_simp
                          with_reducible rfl
                        rotate_left
                        · simp only [Act.put, List.setIfInBounds_toArray, List.set_cons_zero, List.set_cons_succ, i64_w, i32_w]
                          rfl
                        refine pure_ (i := 6) (N := some 50) (v := ?_) (a' := ?_) #[true, true, true, true, true, false, true, false, false, false, false, false, false] rfl rfl (any_of HT_.out (by kernel_rfl)) (fun _ _ _ h => h) (Or.inl ⟨by rfl, ?_⟩) ?_ ?_
                        rotate_left
                        · intro w'
                          go_simp
                          with_reducible rfl
                        rotate_left
                        · simp only [Act.put, List.setIfInBounds_toArray, List.set_cons_zero, List.set_cons_succ, i64_w, i32_w]
                          rfl
                        refine pure_ (i := 7) (N := some 51) (v := ?_) (a' := ?_) #[true, true, true, true, true, false, true, true, false, false, false, false, false] rfl rfl (any_of HT_.out (by kernel_rfl)) (fun _ _ _ h => h) (Or.inl ⟨by rfl, ?_⟩) ?_ ?_
                        rotate_left
                        · intro w'
                          go_simp
                          with_reducible rfl
                        rotate_left
                        · simp only [Act.put, List.setIfInBounds_toArray, List.set_cons_zero, List.set_cons_succ, i64_w, i32_w]
                          rfl
                        refine take_ (i := 5) (N := some 49) (v := ?_) (a' := ?_) #[true, true, true, true, true, true, true, true, false, false, false, false, false] rfl rfl (take_ofW HT_.out HW_.out (by kernel_rfl)) (fun _ _ _ h => h) (Or.inl ⟨by rfl, ?_⟩) hHeld ?_ ?_
                        rotate_left
                        · intro w' s0
                          go_simp
                          with_reducible rfl
                        rotate_left
                        · simp only [Act.put, List.setIfInBounds_toArray, List.set_cons_zero, List.set_cons_succ, i64_w, i32_w]
                          rfl
                        refine one_ (i := 8) (N := some 52) #[true, true, true, true, true, true, true, true, true, false, false, false, false] rfl rfl (one_of HT_.out (by kernel_rfl)) (by decide) (fun K hK => ?_)
                        refine goes_ Try.func27 (by kernel_rfl) rfl #[.string a1, .int .i64 x7_2] (by rfl) rfl rfl (by (try simp only [List.map_toArray, List.map_cons, List.map_nil]); first | done | rfl | (simp only [List.length_drop, List.length_take]; rfl)) ?_
                        with_reducible refine (wringerref1_GetWord.calls k2 a1 x7_2 t108 t109 t110 _ A16.out).mono ?_
                        rintro e w20 ⟨rfl, hb⟩
                        have HS0_ := (hb.cell (World.block_lt_of_cell? _ _ (hHeld))).trans (hHeld)
                        refine ⟨_, rfl, ?_⟩
                        have n0_ := Aside0.mk (Kd.R_below (by (with_reducible repeat (first | apply Kd.R_alloc | apply Kd.R_drewN | apply Kd.R_drew)); exact HO_9.out) hb)
                        have n1_ := Aside0.mk (below_step (by repeat (first | (with_reducible first | exact HB.out | apply below_alloc | apply pw_below_drewN | apply below_drew1) | exact HB.out)) hb)
                        clear HO_9
                        clear HB
                        have HO_9 := n0_
                        have HB := n1_
                        clear n0_ n1_
                        (try clear hb)
                        (try clear hb2)
                        (try clear hk)
                        (try clear hi)
                        refine hK.out _ _ (HS0_) (fun hHeld => ?_)
                        clear hK K
                        refine norm_ (a' := ?_) ?_ ?_
                        rotate_left
                        · show Act.put _ (some 52) _ = _
                          simp only [Act.put, List.setIfInBounds_toArray, List.set_cons_zero, List.set_cons_succ, i64_w, i32_w]
                          rfl
                        refine pure_ (i := 9) (N := some 53) (v := ?_) (a' := ?_) #[true, true, true, true, true, true, true, true, true, true, false, false, false] rfl rfl (any_of HT_.out (by kernel_rfl)) (fun _ _ _ h => h) (Or.inl ⟨by rfl, ?_⟩) ?_ ?_
                        rotate_left
                        · intro w'
                          go_simp
                          with_reducible rfl
                        rotate_left
                        · simp only [Act.put, List.setIfInBounds_toArray, List.set_cons_zero, List.set_cons_succ, i64_w, i32_w]
                          rfl
                        refine one_ (i := 10) (N := some 54) #[true, true, true, true, true, true, true, true, true, true, true, false, false] rfl rfl (one_of HT_.out (by kernel_rfl)) (by decide) (fun K hK => ?_)
                        refine goes_ Try.func15 (by kernel_rfl) rfl #[.int .u64 (rd x9_2 x10_2), .int .u64 t108] (by rfl) rfl rfl (by (try simp only [List.map_toArray, List.map_cons, List.map_nil]); first | done | rfl | (simp only [List.length_drop, List.length_take]; rfl)) ?_
                        with_reducible refine (wringerref1_Round.calls (rd x9_2 x10_2) t108 t111 _ A17.out).mono ?_
                        rintro e w' ⟨rfl, ⟨nd, rfl⟩⟩
                        refine ⟨_, rfl, ?_⟩
                        have p18 : 0 ≤ (x10_2 : Int) := of_decide_eq_true (by first | (with_reducible assumption) | assumption)
                        have q18 : (x10_2 : Int) < ((x9_2.length : Int) : Int) := of_decide_eq_true (by first | (with_reducible assumption) | assumption)
                        obtain ⟨hx18_0, hf18_0⟩ := Kd.R_celln 0 HO_9.out (x10_2 : Int) p18 q18
                        replace p18 := eq_true p18
                        replace q18 := eq_true q18
                        have HP21 := Kd.R_putn HO_9.out (x10_2 : Int) t111
                        rw [← Ny112.out] at HP21
                        have HQ21 := Aside0.mk HP21
                        clear HP21
                        refine hK.out _ _ (hHeld) (fun hHeld => ?_)
                        clear hK K
                        refine norm_ (a' := ?_) ?_ ?_
                        rotate_left
                        · show Act.put _ (some 54) _ = _
                          simp only [Act.put, List.setIfInBounds_toArray, List.set_cons_zero, List.set_cons_succ, i64_w, i32_w]
                          rfl
                        refine pure_ (i := 11) (N := some 55) (v := ?_) (a' := ?_) #[true, true, true, true, true, true, true, true, true, true, true, true, false] rfl rfl (any_of HT_.out (by kernel_rfl)) (fun _ _ _ h => h) (Or.inl ⟨by rfl, ?_⟩) ?_ ?_
                        rotate_left
                        · intro w'
                          go_simp
                          with_reducible rfl
                        rotate_left
                        · simp only [Act.put, List.setIfInBounds_toArray, List.set_cons_zero, List.set_cons_succ, i64_w, i32_w]
                          rfl
                        refine last_ (i := 12) (N := none) #[true, true, true, true, true, true, true, true, true, true, true, true, true] rfl rfl (one_of HT_.out (by kernel_rfl)) (by decide) (fun K hK => ?_)
                        refine skip_ (w1 := ?_) (by rfl) rfl ?_ ?_
                        rotate_left
                        · go_simp
                          rfl
                        refine hK.out _ _ ?_
                        clear hK K
                        refine done_ (done_of HT_.out (by kernel_rfl)) ?_
                        try go_wp2
                        (try simp only [← hl9_2])
                        go_roundg k2
                        case measure => have := HK1.out; have := HK2.out; omega
                        case rel => exact ⟨(wrap64 (x7_2 + 8)), (y112), (wrap64 (x10_2 + 1)), (by first | rfl | (simp; done) | (simp [*]; done)), (by first | rfl | (simp; done) | (simp [*]; done)), H', ⟨by have := HK1.out; have := HK2.out; omega⟩, ⟨by (try simp only [hl9_1]); (try simp only [hl9_2]); (with_reducible repeat (first | apply Kd.R_alloc | apply Kd.R_drewN | apply Kd.R_drew)); exact HQ21.out⟩, ⟨by repeat (first | (with_reducible first | exact HB.out | apply below_alloc | apply pw_below_drewN | apply below_drew1 | refine below_set ?_ GB6.out) | exact HB.out)⟩⟩
                      · rw [if_neg c15] at H
                        exact absurd H (by simp)
                    · rw [if_neg c14] at H
                      exact absurd H (by simp)
                  · rw [if_neg c13] at H
                    have c13b0 : decide (x10_2 < 4) = false := decide_eq_false c13
                    clear c13
                    have H' := Aside0.mk H
                    clear H
                    go_wp2
                    (try simp only [← hl9_1, ← hl9_2])
                    go_roundg k2
                    case measure => have := HK1.out; have := HK2.out; omega
                    case rel => exact ⟨(x7_2), (x9_2), (by first | rfl | (simp; done) | (simp [*]; done)), H', ⟨by have := HK1.out; have := HK2.out; omega⟩, ⟨by (try simp only [hl9_1]); (try simp only [hl9_2]); (with_reducible repeat (first | apply Kd.R_alloc | apply Kd.R_drewN | apply Kd.R_drew)); exact HO_9.out⟩, ⟨by repeat (first | (with_reducible first | exact HB.out | apply below_alloc | apply pw_below_drewN | apply below_drew1) | exact HB.out)⟩⟩
            · rw [if_neg c12] at H
              have c12b0 : decide ((wrap64 (x7_1 + 32)) ≤ (a1.size : Int)) = false := decide_eq_false c12
              clear c12
              by_cases c22 : 0 < (x9_1.length : Int)
              · rw [if_pos c22] at H
                have c22b0 : decide (0 < (x9_1.length : Int)) = true := decide_eq_true c22
                have c22b1 : decide (0 < x9_1.length) = true := decide_eq_true (by omega)
                clear c22
                replace H := Option.bind_eq_some_iff.mp H
                obtain ⟨t114, A230, H⟩ := H
                replace H : (if 1 < (x9_1.length : Int) then ((wringerref1_rol.f (rd x9_1 1) 7).bind fun t116 => (if 2 < (x9_1.length : Int) then ((wringerref1_rol.f (rd x9_1 2) 12).bind fun t118 => (if 3 < (x9_1.length : Int) then ((wringerref1_rol.f (rd x9_1 3) 18).bind fun t120 => (wringerref1_Sum.l2 k1 a1 (IntKind.u64.wrap ((IntKind.u64.wrap ((IntKind.u64.wrap (t114 + t116)) + t118)) + t120)) (a1.size : Int) x7_1 x9_1 0)) else (none))) else (none))) else (none)) = some r := H
                have A23 := Aside0.mk A230
                clear A230
                by_cases c24 : 1 < (x9_1.length : Int)
                · rw [if_pos c24] at H
                  have c24b0 : decide (1 < (x9_1.length : Int)) = true := decide_eq_true c24
                  have c24b1 : decide (1 < x9_1.length) = true := decide_eq_true (by omega)
                  clear c24
                  replace H := Option.bind_eq_some_iff.mp H
                  obtain ⟨t116, A250, H⟩ := H
                  replace H : (if 2 < (x9_1.length : Int) then ((wringerref1_rol.f (rd x9_1 2) 12).bind fun t118 => (if 3 < (x9_1.length : Int) then ((wringerref1_rol.f (rd x9_1 3) 18).bind fun t120 => (wringerref1_Sum.l2 k1 a1 (IntKind.u64.wrap ((IntKind.u64.wrap ((IntKind.u64.wrap (t114 + t116)) + t118)) + t120)) (a1.size : Int) x7_1 x9_1 0)) else (none))) else (none)) = some r := H
                  have A25 := Aside0.mk A250
                  clear A250
                  by_cases c26 : 2 < (x9_1.length : Int)
                  · rw [if_pos c26] at H
                    have c26b0 : decide (2 < (x9_1.length : Int)) = true := decide_eq_true c26
                    have c26b1 : decide (2 < x9_1.length) = true := decide_eq_true (by omega)
                    clear c26
                    replace H := Option.bind_eq_some_iff.mp H
                    obtain ⟨t118, A270, H⟩ := H
                    replace H : (if 3 < (x9_1.length : Int) then ((wringerref1_rol.f (rd x9_1 3) 18).bind fun t120 => (wringerref1_Sum.l2 k1 a1 (IntKind.u64.wrap ((IntKind.u64.wrap ((IntKind.u64.wrap (t114 + t116)) + t118)) + t120)) (a1.size : Int) x7_1 x9_1 0)) else (none)) = some r := H
                    have A27 := Aside0.mk A270
                    clear A270
                    by_cases c28 : 3 < (x9_1.length : Int)
                    · rw [if_pos c28] at H
                      have c28b0 : decide (3 < (x9_1.length : Int)) = true := decide_eq_true c28
                      have c28b1 : decide (3 < x9_1.length) = true := decide_eq_true (by omega)
                      clear c28
                      replace H := Option.bind_eq_some_iff.mp H
                      obtain ⟨t120, A290, H⟩ := H
                      replace H : (wringerref1_Sum.l2 k1 a1 (IntKind.u64.wrap ((IntKind.u64.wrap ((IntKind.u64.wrap (t114 + t116)) + t118)) + t120)) (a1.size : Int) x7_1 x9_1 0) = some r := H
                      have A29 := Aside0.mk A290
                      clear A290
                      have H' := Aside0.mk H
                      clear H
                      try go_wp2
                      have n0_ := Aside0.mk (Kd.R_drew HO_9.out)
                      have n1_ := Aside0.mk (below_drew1 HB.out)
                      clear HO_9
                      clear HB
                      have HO_9 := n0_
                      have HB := n1_
                      clear n0_ n1_
                      have p113 : 0 ≤ (0 : Int) := (by omega)
                      have q113 : 0 < (x9_1.length : Int) := of_decide_eq_true (by first | (with_reducible assumption) | assumption)
                      obtain ⟨ad113, e113, hx113_0⟩ := Kd.at_int (Kd.R_reads' HO_9.out).2.2 0 p113 q113
                      obtain rfl : (⟨go6, 0, none⟩ : Addr) = ad113 := (by injection e113)
                      (first | simp only [add_plain] at hx113_0 | simp only [add_at] at hx113_0 | simp only [Addr.add, Nat.zero_add] at hx113_0 | skip)
                      have qi113 : (0 < x9_1.length) = True := eq_true (by omega)
                      (try rw [show ((0 : Int)).toNat = 0 from rfl] at hx113_0)
                      (try rw [Addr.add_zero'] at hx113_0)
                      replace p113 := eq_true p113
                      replace q113 := eq_true q113
                      have p115 : 0 ≤ (1 : Int) := (by omega)
                      have q115 : 1 < (x9_1.length : Int) := of_decide_eq_true (by first | (with_reducible assumption) | assumption)
                      obtain ⟨ad115, e115, hx115_0⟩ := Kd.at_int (Kd.R_reads' HO_9.out).2.2 1 p115 q115
                      obtain rfl : (⟨go6, 0, none⟩ : Addr) = ad115 := (by injection e115)
                      (first | simp only [add_plain] at hx115_0 | simp only [add_at] at hx115_0 | simp only [Addr.add, Nat.zero_add] at hx115_0 | skip)
                      have qi115 : (1 < x9_1.length) = True := eq_true (by omega)
                      (try rw [show ((1 : Int)).toNat = 1 from rfl] at hx115_0)
                      replace p115 := eq_true p115
                      replace q115 := eq_true q115
                      have p117 : 0 ≤ (2 : Int) := (by omega)
                      have q117 : 2 < (x9_1.length : Int) := of_decide_eq_true (by first | (with_reducible assumption) | assumption)
                      obtain ⟨ad117, e117, hx117_0⟩ := Kd.at_int (Kd.R_reads' HO_9.out).2.2 2 p117 q117
                      obtain rfl : (⟨go6, 0, none⟩ : Addr) = ad117 := (by injection e117)
                      (first | simp only [add_plain] at hx117_0 | simp only [add_at] at hx117_0 | simp only [Addr.add, Nat.zero_add] at hx117_0 | skip)
                      have qi117 : (2 < x9_1.length) = True := eq_true (by omega)
                      (try rw [show ((2 : Int)).toNat = 2 from rfl] at hx117_0)
                      replace p117 := eq_true p117
                      replace q117 := eq_true q117
                      have p119 : 0 ≤ (3 : Int) := (by omega)
                      have q119 : 3 < (x9_1.length : Int) := of_decide_eq_true (by first | (with_reducible assumption) | assumption)
                      obtain ⟨ad119, e119, hx119_0⟩ := Kd.at_int (Kd.R_reads' HO_9.out).2.2 3 p119 q119
                      obtain rfl : (⟨go6, 0, none⟩ : Addr) = ad119 := (by injection e119)
                      (first | simp only [add_plain] at hx119_0 | simp only [add_at] at hx119_0 | simp only [Addr.add, Nat.zero_add] at hx119_0 | skip)
                      have qi119 : (3 < x9_1.length) = True := eq_true (by omega)
                      (try rw [show ((3 : Int)).toNat = 3 from rfl] at hx119_0)
                      replace p119 := eq_true p119
                      replace q119 := eq_true q119
                      refine start_ (n := 20) (S := fun w' => w'.cell? ⟨go6, 0, none⟩ = some (.int .u64 (rd x9_1 0)) ∧ w'.cell? ⟨go6, 1, none⟩ = some (.int .u64 (rd x9_1 1)) ∧ w'.cell? ⟨go6, 2, none⟩ = some (.int .u64 (rd x9_1 2)) ∧ w'.cell? ⟨go6, 3, none⟩ = some (.int .u64 (rd x9_1 3))) (ds := []) #[false, false, false, false, false, false, false, false, false, false, false, false, false, false, false, false, false, false, false, false] (by kernel_rfl) rfl rfl ⟨hx113_0, hx115_0, hx117_0, hx119_0⟩ (fun hHeld => ?_); refine with_tabW wringerref1_Sum.tab14 wringerref1_Sum.bits14 (fun HT_ HW_ => ?_)
                      generalize wr.drew = w30 at HO_9 HB hx113_0 hx115_0 hx117_0 hx119_0 hHeld ⊢
                      refine pure_ (i := 0) (N := some 58) (v := ?_) (a' := ?_) #[true, false, false, false, false, false, false, false, false, false, false, false, false, false, false, false, false, false, false, false] rfl rfl (any_of HT_.out (by kernel_rfl)) (fun _ _ _ h => h) (Or.inl ⟨by rfl, ?_⟩) ?_ ?_
                      rotate_left
                      · intro w'
                        go_simp
                        with_reducible rfl
                      rotate_left
                      · simp only [Act.put, List.setIfInBounds_toArray, List.set_cons_zero, List.set_cons_succ, i64_w, i32_w]
                        rfl
                      refine pure_ (i := 1) (N := some 59) (v := ?_) (a' := ?_) #[true, true, false, false, false, false, false, false, false, false, false, false, false, false, false, false, false, false, false, false] rfl rfl (any_of HT_.out (by kernel_rfl)) (fun _ _ _ h => h) (Or.inl ⟨by rfl, ?_⟩) ?_ ?_
                      rotate_left
                      · intro w'
                        go_simp
                        with_reducible rfl
                      rotate_left
                      · simp only [Act.put, List.setIfInBounds_toArray, List.set_cons_zero, List.set_cons_succ, i64_w, i32_w]
                        rfl
                      refine pure_ (i := 4) (N := some 62) (v := ?_) (a' := ?_) #[true, true, false, false, true, false, false, false, false, false, false, false, false, false, false, false, false, false, false, false] rfl rfl (any_of HT_.out (by kernel_rfl)) (fun _ _ _ h => h) (Or.inl ⟨by rfl, ?_⟩) ?_ ?_
                      rotate_left
                      · intro w'
                        go_simp
                        with_reducible rfl
                      rotate_left
                      · simp only [Act.put, List.setIfInBounds_toArray, List.set_cons_zero, List.set_cons_succ, i64_w, i32_w]
                        rfl
                      refine pure_ (i := 5) (N := some 63) (v := ?_) (a' := ?_) #[true, true, false, false, true, true, false, false, false, false, false, false, false, false, false, false, false, false, false, false] rfl rfl (any_of HT_.out (by kernel_rfl)) (fun _ _ _ h => h) (Or.inl ⟨by rfl, ?_⟩) ?_ ?_
                      rotate_left
                      · intro w'
                        go_simp
                        with_reducible rfl
                      rotate_left
                      · simp only [Act.put, List.setIfInBounds_toArray, List.set_cons_zero, List.set_cons_succ, i64_w, i32_w]
                        rfl
                      refine pure_ (i := 9) (N := some 67) (v := ?_) (a' := ?_) #[true, true, false, false, true, true, false, false, false, true, false, false, false, false, false, false, false, false, false, false] rfl rfl (any_of HT_.out (by kernel_rfl)) (fun _ _ _ h => h) (Or.inl ⟨by rfl, ?_⟩) ?_ ?_
                      rotate_left
                      · intro w'
                        go_simp
                        with_reducible rfl
                      rotate_left
                      · simp only [Act.put, List.setIfInBounds_toArray, List.set_cons_zero, List.set_cons_succ, i64_w, i32_w]
                        rfl
                      refine pure_ (i := 10) (N := some 68) (v := ?_) (a' := ?_) #[true, true, false, false, true, true, false, false, false, true, true, false, false, false, false, false, false, false, false, false] rfl rfl (any_of HT_.out (by kernel_rfl)) (fun _ _ _ h => h) (Or.inl ⟨by rfl, ?_⟩) ?_ ?_
                      rotate_left
                      · intro w'
                        go_simp
                        with_reducible rfl
                      rotate_left
                      · simp only [Act.put, List.setIfInBounds_toArray, List.set_cons_zero, List.set_cons_succ, i64_w, i32_w]
                        rfl
                      refine pure_ (i := 14) (N := some 72) (v := ?_) (a' := ?_) #[true, true, false, false, true, true, false, false, false, true, true, false, false, false, true, false, false, false, false, false] rfl rfl (any_of HT_.out (by kernel_rfl)) (fun _ _ _ h => h) (Or.inl ⟨by rfl, ?_⟩) ?_ ?_
                      rotate_left
                      · intro w'
                        go_simp
                        with_reducible rfl
                      rotate_left
                      · simp only [Act.put, List.setIfInBounds_toArray, List.set_cons_zero, List.set_cons_succ, i64_w, i32_w]
                        rfl
                      refine pure_ (i := 15) (N := some 73) (v := ?_) (a' := ?_) #[true, true, false, false, true, true, false, false, false, true, true, false, false, false, true, true, false, false, false, false] rfl rfl (any_of HT_.out (by kernel_rfl)) (fun _ _ _ h => h) (Or.inl ⟨by rfl, ?_⟩) ?_ ?_
                      rotate_left
                      · intro w'
                        go_simp
                        with_reducible rfl
                      rotate_left
                      · simp only [Act.put, List.setIfInBounds_toArray, List.set_cons_zero, List.set_cons_succ, i64_w, i32_w]
                        rfl
                      refine take_ (i := 2) (N := some 60) (v := ?_) (a' := ?_) #[true, true, true, false, true, true, false, false, false, true, true, false, false, false, true, true, false, false, false, false] rfl rfl (take_ofW HT_.out HW_.out (by kernel_rfl)) (fun _ _ _ h => h) (Or.inl ⟨by rfl, ?_⟩) hHeld ?_ ?_
                      rotate_left
                      · rintro w' ⟨s0, s1, s2, s3⟩
                        go_simp
                        with_reducible rfl
                      rotate_left
                      · simp only [Act.put, List.setIfInBounds_toArray, List.set_cons_zero, List.set_cons_succ, i64_w, i32_w]
                        rfl
                      refine take_ (i := 6) (N := some 64) (v := ?_) (a' := ?_) #[true, true, true, false, true, true, true, false, false, true, true, false, false, false, true, true, false, false, false, false] rfl rfl (take_ofW HT_.out HW_.out (by kernel_rfl)) (fun _ _ _ h => h) (Or.inl ⟨by rfl, ?_⟩) hHeld ?_ ?_
                      rotate_left
                      · rintro w' ⟨s0, s1, s2, s3⟩
                        go_simp
                        with_reducible rfl
                      rotate_left
                      · simp only [Act.put, List.setIfInBounds_toArray, List.set_cons_zero, List.set_cons_succ, i64_w, i32_w]
                        rfl
                      refine take_ (i := 11) (N := some 69) (v := ?_) (a' := ?_) #[true, true, true, false, true, true, true, false, false, true, true, true, false, false, true, true, false, false, false, false] rfl rfl (take_ofW HT_.out HW_.out (by kernel_rfl)) (fun _ _ _ h => h) (Or.inl ⟨by rfl, ?_⟩) hHeld ?_ ?_
                      rotate_left
                      · rintro w' ⟨s0, s1, s2, s3⟩
                        go_simp
                        with_reducible rfl
                      rotate_left
                      · simp only [Act.put, List.setIfInBounds_toArray, List.set_cons_zero, List.set_cons_succ, i64_w, i32_w]
                        rfl
                      refine take_ (i := 16) (N := some 74) (v := ?_) (a' := ?_) #[true, true, true, false, true, true, true, false, false, true, true, true, false, false, true, true, true, false, false, false] rfl rfl (take_ofW HT_.out HW_.out (by kernel_rfl)) (fun _ _ _ h => h) (Or.inl ⟨by rfl, ?_⟩) hHeld ?_ ?_
                      rotate_left
                      · rintro w' ⟨s0, s1, s2, s3⟩
                        go_simp
                        with_reducible rfl
                      rotate_left
                      · simp only [Act.put, List.setIfInBounds_toArray, List.set_cons_zero, List.set_cons_succ, i64_w, i32_w]
                        rfl
                      refine one_ (i := 3) (N := some 61) #[true, true, true, true, true, true, true, false, false, true, true, true, false, false, true, true, true, false, false, false] rfl rfl (one_of HT_.out (by kernel_rfl)) (by decide) (fun K hK => ?_)
                      refine goes_ Try.func28 (by kernel_rfl) rfl #[.int .u64 (rd x9_1 0), .int .i64 1] (by rfl) rfl rfl (by (try simp only [List.map_toArray, List.map_cons, List.map_nil]); first | done | rfl | (simp only [List.length_drop, List.length_take]; rfl)) ?_
                      with_reducible refine (wringerref1_rol.calls (rd x9_1 0) 1 t114 _ A23.out).mono ?_
                      rintro e w' ⟨rfl, ⟨nd, rfl⟩⟩
                      refine ⟨_, rfl, ?_⟩
                      refine hK.out _ _ ⟨hHeld.1, hHeld.2.1, hHeld.2.2.1, hHeld.2.2.2⟩ (fun hHeld => ?_)
                      clear hK K
                      refine norm_ (a' := ?_) ?_ ?_
                      rotate_left
                      · show Act.put _ (some 61) _ = _
                        simp only [Act.put, List.setIfInBounds_toArray, List.set_cons_zero, List.set_cons_succ, i64_w, i32_w]
                        rfl
                      refine one_ (i := 7) (N := some 65) #[true, true, true, true, true, true, true, true, false, true, true, true, false, false, true, true, true, false, false, false] rfl rfl (one_of HT_.out (by kernel_rfl)) (by decide) (fun K hK => ?_)
                      refine goes_ Try.func28 (by kernel_rfl) rfl #[.int .u64 (rd x9_1 1), .int .i64 7] (by rfl) rfl rfl (by (try simp only [List.map_toArray, List.map_cons, List.map_nil]); first | done | rfl | (simp only [List.length_drop, List.length_take]; rfl)) ?_
                      with_reducible refine (wringerref1_rol.calls (rd x9_1 1) 7 t116 _ A25.out).mono ?_
                      rintro e w' ⟨rfl, ⟨nd, rfl⟩⟩
                      refine ⟨_, rfl, ?_⟩
                      refine hK.out _ _ ⟨hHeld.1, hHeld.2.1, hHeld.2.2.1, hHeld.2.2.2⟩ (fun hHeld => ?_)
                      clear hK K
                      refine norm_ (a' := ?_) ?_ ?_
                      rotate_left
                      · show Act.put _ (some 65) _ = _
                        simp only [Act.put, List.setIfInBounds_toArray, List.set_cons_zero, List.set_cons_succ, i64_w, i32_w]
                        rfl
                      refine pure_ (i := 8) (N := some 66) (v := ?_) (a' := ?_) #[true, true, true, true, true, true, true, true, true, true, true, true, false, false, true, true, true, false, false, false] rfl rfl (any_of HT_.out (by kernel_rfl)) (fun _ _ _ h => h) (Or.inl ⟨by rfl, ?_⟩) ?_ ?_
                      rotate_left
                      · intro w'
                        go_simp
                        with_reducible rfl
                      rotate_left
                      · simp only [Act.put, List.setIfInBounds_toArray, List.set_cons_zero, List.set_cons_succ, i64_w, i32_w]
                        rfl
                      refine one_ (i := 12) (N := some 70) #[true, true, true, true, true, true, true, true, true, true, true, true, true, false, true, true, true, false, false, false] rfl rfl (one_of HT_.out (by kernel_rfl)) (by decide) (fun K hK => ?_)
                      refine goes_ Try.func28 (by kernel_rfl) rfl #[.int .u64 (rd x9_1 2), .int .i64 12] (by rfl) rfl rfl (by (try simp only [List.map_toArray, List.map_cons, List.map_nil]); first | done | rfl | (simp only [List.length_drop, List.length_take]; rfl)) ?_
                      with_reducible refine (wringerref1_rol.calls (rd x9_1 2) 12 t118 _ A27.out).mono ?_
                      rintro e w' ⟨rfl, ⟨nd, rfl⟩⟩
                      refine ⟨_, rfl, ?_⟩
                      refine hK.out _ _ ⟨hHeld.1, hHeld.2.1, hHeld.2.2.1, hHeld.2.2.2⟩ (fun hHeld => ?_)
                      clear hK K
                      refine norm_ (a' := ?_) ?_ ?_
                      rotate_left
                      · show Act.put _ (some 70) _ = _
                        simp only [Act.put, List.setIfInBounds_toArray, List.set_cons_zero, List.set_cons_succ, i64_w, i32_w]
                        rfl
                      refine pure_ (i := 13) (N := some 71) (v := ?_) (a' := ?_) #[true, true, true, true, true, true, true, true, true, true, true, true, true, true, true, true, true, false, false, false] rfl rfl (any_of HT_.out (by kernel_rfl)) (fun _ _ _ h => h) (Or.inl ⟨by rfl, ?_⟩) ?_ ?_
                      rotate_left
                      · intro w'
                        go_simp
                        with_reducible rfl
                      rotate_left
                      · simp only [Act.put, List.setIfInBounds_toArray, List.set_cons_zero, List.set_cons_succ, i64_w, i32_w]
                        rfl
                      refine one_ (i := 17) (N := some 75) #[true, true, true, true, true, true, true, true, true, true, true, true, true, true, true, true, true, true, false, false] rfl rfl (one_of HT_.out (by kernel_rfl)) (by decide) (fun K hK => ?_)
                      refine goes_ Try.func28 (by kernel_rfl) rfl #[.int .u64 (rd x9_1 3), .int .i64 18] (by rfl) rfl rfl (by (try simp only [List.map_toArray, List.map_cons, List.map_nil]); first | done | rfl | (simp only [List.length_drop, List.length_take]; rfl)) ?_
                      with_reducible refine (wringerref1_rol.calls (rd x9_1 3) 18 t120 _ A29.out).mono ?_
                      rintro e w' ⟨rfl, ⟨nd, rfl⟩⟩
                      refine ⟨_, rfl, ?_⟩
                      refine hK.out _ _ ⟨hHeld.1, hHeld.2.1, hHeld.2.2.1, hHeld.2.2.2⟩ (fun hHeld => ?_)
                      clear hK K
                      refine norm_ (a' := ?_) ?_ ?_
                      rotate_left
                      · show Act.put _ (some 75) _ = _
                        simp only [Act.put, List.setIfInBounds_toArray, List.set_cons_zero, List.set_cons_succ, i64_w, i32_w]
                        rfl
                      refine pure_ (i := 18) (N := some 76) (v := ?_) (a' := ?_) #[true, true, true, true, true, true, true, true, true, true, true, true, true, true, true, true, true, true, true, false] rfl rfl (any_of HT_.out (by kernel_rfl)) (fun _ _ _ h => h) (Or.inl ⟨by rfl, ?_⟩) ?_ ?_
                      rotate_left
                      · intro w'
                        go_simp
                        with_reducible rfl
                      rotate_left
                      · simp only [Act.put, List.setIfInBounds_toArray, List.set_cons_zero, List.set_cons_succ, i64_w, i32_w]
                        rfl
                      refine pure_ (i := 19) (N := some 5) (v := ?_) (a' := ?_) #[true, true, true, true, true, true, true, true, true, true, true, true, true, true, true, true, true, true, true, true] rfl rfl (any_of HT_.out (by kernel_rfl)) (fun _ _ _ h => h) (Or.inl ⟨by rfl, ?_⟩) ?_ ?_
                      rotate_left
                      · intro w'
                        go_simp
                        with_reducible rfl
                      rotate_left
                      · simp only [Act.put, List.setIfInBounds_toArray, List.set_cons_zero, List.set_cons_succ, i64_w, i32_w]
                        rfl
                      refine done_ (done_of HT_.out (by kernel_rfl)) ?_
                      try go_wp2
                      go_loopg [5, 11] k1 (fun kq v5 v11 w' => ∃ (x5_2 : Int) (x11_2 : Int), v5 = .int .u64 x5_2 ∧ v11 = .int .i64 x11_2 ∧ Aside0 (wringerref1_Sum.l2 kq a1 x5_2 (a1.size : Int) x7_1 x9_1 x11_2 = some r) ∧ Aside0 (kq ≤ k1) ∧ Aside0 (Kd.R (Kd.int .u64) 22 w' w.heap.size (fun _ => True) (.slice (some ⟨go6, 0, none⟩) x9_1.length co9) x9_1) ∧ Aside0 (Below w.heap.size w w'))
                      case atStart => exact ⟨(IntKind.u64.wrap ((IntKind.u64.wrap ((IntKind.u64.wrap (t114 + t116)) + t118)) + t120)), (0), (by first | rfl | (simp; done) | (simp [*]; done)), (by first | rfl | (simp; done) | (simp [*]; done)), H', ⟨Nat.le_refl _⟩, ⟨by (try simp only [hl9_1]); (with_reducible repeat (first | apply Kd.R_alloc | apply Kd.R_drewN | apply Kd.R_drew)); exact HO_9.out⟩, ⟨by repeat (first | (with_reducible first | exact HB.out | apply below_alloc | apply pw_below_drewN | apply below_drew1) | exact HB.out)⟩⟩
                      case round =>
                        clear H'
                        try clear c1
                        try clear p1
                        try clear q1
                        try clear hx1
                        try clear qi1
                        try clear c2
                        try clear p2
                        try clear c4
                        try clear c4b0
                        try clear c4b1
                        try clear c5
                        try clear c5b0
                        try clear c5b1
                        try clear p6
                        try clear q6
                        try clear hx6
                        try clear qi6
                        try clear hf6
                        try clear p10
                        try clear q10
                        try clear hx10
                        try clear qi10
                        try clear p11
                        try clear q11
                        try clear hx11
                        try clear qi11
                        try clear c12
                        try clear c12b0
                        try clear c13
                        try clear c13b0
                        try clear c14
                        try clear c14b0
                        try clear c15
                        try clear c15b0
                        try clear p18
                        try clear q18
                        try clear hx18
                        try clear hf18
                        try clear c22
                        try clear c22b0
                        try clear c22b1
                        try clear c24
                        try clear c24b0
                        try clear c24b1
                        try clear c26
                        try clear c26b0
                        try clear c26b1
                        try clear c27
                        try clear c28
                        try clear c28b0
                        try clear c28b1
                        try clear hx105_0
                        try clear hx107_0
                        try clear hx113_0
                        try clear hx115_0
                        try clear hx117_0
                        try clear hx119_0
                        try clear hx18_0
                        try clear hx6_0
                        try clear p1
                        try clear p10
                        try clear p105
                        try clear p107
                        try clear p113
                        try clear p115
                        try clear p117
                        try clear p119
                        try clear p18
                        try clear p2
                        try clear p6
                        try clear q1
                        try clear q10
                        try clear q105
                        try clear q107
                        try clear q113
                        try clear q115
                        try clear q117
                        try clear q119
                        try clear q18
                        try clear q6
                        obtain ⟨x5_2, x11_2, rfl, rfl, HA, HK2, HO_9, HB⟩ := hrel
                        cases gk with
                        | zero => exact absurd HA.out (by simp [wringerref1_Sum.l2])
                        | succ k2 =>
                          have H := HA.out
                          clear HA
                          simp only [wringerref1_Sum.l2] at H
                          by_cases c31 : x11_2 < 4
                          · rw [if_pos c31] at H
                            have c31b0 : decide (x11_2 < 4) = true := decide_eq_true c31
                            clear c31
                            by_cases c32 : 0 ≤ x11_2
                            · rw [if_pos c32] at H
                              have c32b0 : decide (0 ≤ x11_2) = true := decide_eq_true c32
                              clear c32
                              by_cases c33 : x11_2 < (x9_1.length : Int)
                              · rw [if_pos c33] at H
                                have c33b0 : decide (x11_2 < (x9_1.length : Int)) = true := decide_eq_true c33
                                clear c33
                                replace H := Option.bind_eq_some_iff.mp H
                                obtain ⟨t122, A340, H⟩ := H
                                replace H : (wringerref1_Sum.l2 k2 a1 (IntKind.u64.wrap ((IntKind.u64.wrap ((Go.bits .xor .u64 x5_2 t122) * 11400714785074694791)) + 9650029242287828579)) (a1.size : Int) x7_1 x9_1 (wrap64 (x11_2 + 1))) = some r := H
                                have A34 := Aside0.mk A340
                                clear A340
                                have H' := Aside0.mk H
                                clear H
                                have p121 : 0 ≤ (x11_2 : Int) := of_decide_eq_true (by first | (with_reducible assumption) | assumption)
                                have q121 : x11_2 < (x9_1.length : Int) := of_decide_eq_true (by first | (with_reducible assumption) | assumption)
                                obtain ⟨ad121, e121, hx121_0⟩ := Kd.at_int (Kd.R_reads' HO_9.out).2.2 x11_2 p121 q121
                                obtain rfl : (⟨go6, 0, none⟩ : Addr) = ad121 := (by injection e121)
                                (first | simp only [add_plain] at hx121_0 | simp only [add_at] at hx121_0 | simp only [Addr.add, Nat.zero_add] at hx121_0 | skip)
                                replace p121 := eq_true p121
                                replace q121 := eq_true q121
                                go_wp2_with (first | ((with_reducible refine gate_callee (f := 15) rfl ?_); refine goesL_ (some 86) rfl rfl Try.func15 (by kernel_rfl) rfl #[.int .u64 0, .int .u64 (rd x9_1 x11_2)] rfl (by (try simp only [List.map_toArray, List.map_cons, List.map_nil]); first | done | rfl | (simp only [List.length_drop, List.length_take]; rfl)) ?_; (with_reducible refine (wringerref1_Round.calls 0 (rd x9_1 x11_2) t122 _ A34.out).mono ?_); rintro e w' ⟨rfl, ⟨nd, rfl⟩⟩; refine ⟨_, rfl, ?_⟩))
                                go_roundg k2
                                case measure => have := HK1.out; have := HK2.out; omega
                                case rel => exact ⟨(IntKind.u64.wrap ((IntKind.u64.wrap ((Go.bits .xor .u64 x5_2 t122) * 11400714785074694791)) + 9650029242287828579)), (wrap64 (x11_2 + 1)), (by first | rfl | (simp; done) | (simp [*]; done)), (by first | rfl | (simp; done) | (simp [*]; done)), H', ⟨by have := HK1.out; have := HK2.out; omega⟩, ⟨by (try simp only [hl9_1]); (with_reducible repeat (first | apply Kd.R_alloc | apply Kd.R_drewN | apply Kd.R_drew)); exact HO_9.out⟩, ⟨by repeat (first | (with_reducible first | exact HB.out | apply below_alloc | apply pw_below_drewN | apply below_drew1) | exact HB.out)⟩⟩
                              · rw [if_neg c33] at H
                                exact absurd H (by simp)
                            · rw [if_neg c32] at H
                              exact absurd H (by simp)
                          · rw [if_neg c31] at H
                            have c31b0 : decide (x11_2 < 4) = false := decide_eq_false c31
                            clear c31
                            have H' := Aside0.mk H
                            clear H
                            go_wp2
                            (try simp only [← hl9_1])
                            go_meet
                            case rel => exact ⟨_, (x5_2), (x7_1), (by first | rfl | (simp; done) | (simp [*]; done)), (by first | rfl | (simp; done) | (simp [*]; done)), H', ⟨by have := HK1.out; have := HK2.out; first | omega | exact Nat.le_refl _⟩, ⟨by repeat (first | (with_reducible first | exact HB.out | apply below_alloc | apply pw_below_drewN | apply below_drew1) | exact HB.out)⟩⟩
                    · rw [if_neg c28] at H
                      exact absurd H (by simp)
                  · rw [if_neg c26] at H
                    exact absurd H (by simp)
                · rw [if_neg c24] at H
                  exact absurd H (by simp)
              · rw [if_neg c22] at H
                exact absurd H (by simp)
      · rw [if_neg c5] at H
        exact absurd H (by simp)
    · rw [if_neg c4] at H
      have c4b0 : decide (32 ≤ (a1.size : Int)) = false := decide_eq_false c4
      have c4b1 : decide (32 ≤ a1.size) = false := decide_eq_false (by omega)
      clear c4
      (first | rw [c4b0] | (simp only [i64_w, i32_w]; rw [c4b0]) | skip)
      have H' := Aside0.mk H
      clear H
      go_wp2
      go_meet
      case rel => exact ⟨_, (IntKind.u64.wrap (a0 + 2870177450012600261)), (0), (by first | rfl | (simp; done) | (simp [*]; done)), (by first | rfl | (simp; done) | (simp [*]; done)), H', ⟨by first | omega | exact Nat.le_refl _⟩, ⟨by repeat (first | (with_reducible first | exact HB.out | apply below_alloc | apply pw_below_drewN | apply below_drew1) | exact HB.out)⟩⟩
  case rest =>
    clear HC3
    try clear c1
    try clear p1
    try clear q1
    try clear hx1
    try clear qi1
    try clear c2
    try clear p2
    try clear c3
    try clear c4
    try clear c4b0
    try clear c4b1
    try clear c5
    try clear c5b0
    try clear c5b1
    try clear p6
    try clear q6
    try clear hx6
    try clear qi6
    try clear hf6
    try clear p10
    try clear q10
    try clear hx10
    try clear qi10
    try clear p11
    try clear q11
    try clear hx11
    try clear qi11
    try clear c12
    try clear c12b0
    try clear p12
    try clear q12
    try clear hx12
    try clear c13
    try clear c13b0
    try clear c14
    try clear c14b0
    try clear c15
    try clear c15b0
    try clear p18
    try clear q18
    try clear hx18
    try clear hf18
    try clear c22
    try clear c22b0
    try clear c22b1
    try clear c24
    try clear c24b0
    try clear c24b1
    try clear c26
    try clear c26b0
    try clear c26b1
    try clear c27
    try clear c28
    try clear c28b0
    try clear c28b1
    try clear c31
    try clear c31b0
    try clear c32
    try clear c32b0
    try clear c33
    try clear c33b0
    try clear hx105_0
    try clear hx107_0
    try clear hx113_0
    try clear hx115_0
    try clear hx117_0
    try clear hx119_0
    try clear hx121_0
    try clear hx18_0
    try clear hx6_0
    try clear p1
    try clear p10
    try clear p105
    try clear p107
    try clear p11
    try clear p113
    try clear p115
    try clear p117
    try clear p119
    try clear p121
    try clear p18
    try clear p2
    try clear p6
    try clear q1
    try clear q10
    try clear q105
    try clear q107
    try clear q11
    try clear q113
    try clear q115
    try clear q117
    try clear q119
    try clear q121
    try clear q18
    try clear q6
    obtain ⟨kq, x5_2, x7_2, rfl, rfl, HA, HJ2, HB⟩ := hcut
    cases kq with
    | zero => exact absurd HA.out (by simp [wringerref1_Sum.j3])
    | succ kj2 =>
      have H := HA.out
      clear HA
      simp only [wringerref1_Sum.j3] at H
      have H' := Aside0.mk H
      clear H
      go_wp2
      go_loopg [5, 7] kj2 (fun kq v5 v7 w' => ∃ (x5_2 : Int) (x7_2 : Int), v5 = .int .u64 x5_2 ∧ v7 = .int .i64 x7_2 ∧ Aside0 (wringerref1_Sum.l3 kq a1 x5_2 (a1.size : Int) x7_2 = some r) ∧ Aside0 (kq ≤ kj2) ∧ Aside0 (Below w.heap.size w w'))
      case atStart => exact ⟨(IntKind.u64.wrap (x5_2 + (IntKind.u64.wrap ((a1.size : Int))))), (x7_2), (by first | rfl | (simp; done) | (simp [*]; done)), (by first | rfl | (simp; done) | (simp [*]; done)), H', ⟨Nat.le_refl _⟩, ⟨by repeat (first | (with_reducible first | exact HB.out | apply below_alloc | apply pw_below_drewN | apply below_drew1) | exact HB.out)⟩⟩
      case round =>
        clear H'
        try clear c1
        try clear p1
        try clear q1
        try clear hx1
        try clear qi1
        try clear c2
        try clear p2
        try clear c3
        try clear c4
        try clear c4b0
        try clear c4b1
        try clear c5
        try clear c5b0
        try clear c5b1
        try clear p6
        try clear q6
        try clear hx6
        try clear qi6
        try clear hf6
        try clear p10
        try clear q10
        try clear hx10
        try clear qi10
        try clear p11
        try clear q11
        try clear hx11
        try clear qi11
        try clear c12
        try clear c12b0
        try clear p12
        try clear q12
        try clear hx12
        try clear c13
        try clear c13b0
        try clear c14
        try clear c14b0
        try clear c15
        try clear c15b0
        try clear p18
        try clear q18
        try clear hx18
        try clear hf18
        try clear c22
        try clear c22b0
        try clear c22b1
        try clear c24
        try clear c24b0
        try clear c24b1
        try clear c26
        try clear c26b0
        try clear c26b1
        try clear c27
        try clear c28
        try clear c28b0
        try clear c28b1
        try clear c31
        try clear c31b0
        try clear c32
        try clear c32b0
        try clear c33
        try clear c33b0
        try clear hx105_0
        try clear hx107_0
        try clear hx113_0
        try clear hx115_0
        try clear hx117_0
        try clear hx119_0
        try clear hx121_0
        try clear hx18_0
        try clear hx6_0
        try clear p1
        try clear p10
        try clear p105
        try clear p107
        try clear p11
        try clear p113
        try clear p115
        try clear p117
        try clear p119
        try clear p12
        try clear p121
        try clear p18
        try clear p2
        try clear p6
        try clear q1
        try clear q10
        try clear q105
        try clear q107
        try clear q11
        try clear q113
        try clear q115
        try clear q117
        try clear q119
        try clear q12
        try clear q121
        try clear q18
        try clear q6
        obtain ⟨x5_2, x7_2, rfl, rfl, HA, HK2, HB⟩ := hrel
        cases gk with
        | zero => exact absurd HA.out (by simp [wringerref1_Sum.l3])
        | succ k2 =>
          have H := HA.out
          clear HA
          simp only [wringerref1_Sum.l3] at H
          by_cases c35 : (wrap64 (x7_2 + 8)) ≤ (a1.size : Int)
          · rw [if_pos c35] at H
            have c35b0 : decide ((wrap64 (x7_2 + 8)) ≤ (a1.size : Int)) = true := decide_eq_true c35
            clear c35
            replace H := Option.bind_eq_some_iff.mp H
            obtain ⟨⟨t123, t124, t125⟩, A360, H⟩ := H
            replace H : ((wringerref1_Round.f 0 t123).bind fun t126 => ((wringerref1_rol.f (Go.bits .xor .u64 x5_2 t126) 27).bind fun t127 => (wringerref1_Sum.l3 k2 a1 (IntKind.u64.wrap ((IntKind.u64.wrap (t127 * 11400714785074694791)) + 9650029242287828579)) (a1.size : Int) (wrap64 (x7_2 + 8))))) = some r := H
            have A36 := Aside0.mk A360
            clear A360
            replace H := Option.bind_eq_some_iff.mp H
            obtain ⟨t126, A370, H⟩ := H
            replace H : ((wringerref1_rol.f (Go.bits .xor .u64 x5_2 t126) 27).bind fun t127 => (wringerref1_Sum.l3 k2 a1 (IntKind.u64.wrap ((IntKind.u64.wrap (t127 * 11400714785074694791)) + 9650029242287828579)) (a1.size : Int) (wrap64 (x7_2 + 8)))) = some r := H
            have A37 := Aside0.mk A370
            clear A370
            replace H := Option.bind_eq_some_iff.mp H
            obtain ⟨t127, A380, H⟩ := H
            replace H : (wringerref1_Sum.l3 k2 a1 (IntKind.u64.wrap ((IntKind.u64.wrap (t127 * 11400714785074694791)) + 9650029242287828579)) (a1.size : Int) (wrap64 (x7_2 + 8))) = some r := H
            have A38 := Aside0.mk A380
            clear A380
            have H' := Aside0.mk H
            clear H
            go_wp2_with (first | ((with_reducible refine gate_callee (f := 27) rfl ?_); refine goesL_ (some 101) rfl rfl Try.func27 (by kernel_rfl) rfl #[.string a1, .int .i64 x7_2] rfl (by (try simp only [List.map_toArray, List.map_cons, List.map_nil]); first | done | rfl | (simp only [List.length_drop, List.length_take]; rfl)) ?_; (with_reducible refine (wringerref1_GetWord.calls k2 a1 x7_2 t123 t124 t125 _ A36.out).mono ?_); rintro e w39 ⟨rfl, hb⟩; refine ⟨_, rfl, ?_⟩; have n0_ := Aside0.mk (below_step (by repeat (first | (with_reducible first | exact HB.out | apply below_alloc | apply pw_below_drewN | apply below_drew1) | exact HB.out)) hb); clear HB; have HB := n0_; clear n0_; (try clear hb); (try clear hb2); (try clear hk); (try clear hi)) | ((with_reducible refine gate_callee (f := 15) rfl ?_); refine goesL_ (some 103) rfl rfl Try.func15 (by kernel_rfl) rfl #[.int .u64 0, .int .u64 t123] rfl (by (try simp only [List.map_toArray, List.map_cons, List.map_nil]); first | done | rfl | (simp only [List.length_drop, List.length_take]; rfl)) ?_; (with_reducible refine (wringerref1_Round.calls 0 t123 t126 _ A37.out).mono ?_); rintro e w' ⟨rfl, ⟨nd, rfl⟩⟩; refine ⟨_, rfl, ?_⟩) | ((with_reducible refine gate_callee (f := 28) rfl ?_); refine goesL_ (some 105) rfl rfl Try.func28 (by kernel_rfl) rfl #[.int .u64 (Go.bits .xor .u64 x5_2 t126), .int .i64 27] rfl (by (try simp only [List.map_toArray, List.map_cons, List.map_nil]); first | done | rfl | (simp only [List.length_drop, List.length_take]; rfl)) ?_; (with_reducible refine (wringerref1_rol.calls (Go.bits .xor .u64 x5_2 t126) 27 t127 _ A38.out).mono ?_); rintro e w' ⟨rfl, ⟨nd, rfl⟩⟩; refine ⟨_, rfl, ?_⟩))
            go_roundg k2
            case measure => have := HJ2.out; have := HK2.out; omega
            case rel => exact ⟨(IntKind.u64.wrap ((IntKind.u64.wrap (t127 * 11400714785074694791)) + 9650029242287828579)), (wrap64 (x7_2 + 8)), (by first | rfl | (simp; done) | (simp [*]; done)), (by first | rfl | (simp; done) | (simp [*]; done)), H', ⟨by have := HJ2.out; have := HK2.out; omega⟩, ⟨by repeat (first | (with_reducible first | exact HB.out | apply below_alloc | apply pw_below_drewN | apply below_drew1) | exact HB.out)⟩⟩
          · rw [if_neg c35] at H
            have c35b0 : decide ((wrap64 (x7_2 + 8)) ≤ (a1.size : Int)) = false := decide_eq_false c35
            clear c35
            have HC40 := Aside0.mk H
            clear H
            go_upto_if 113 with (fail)
            go_cut [5, 7] (fun v5 v7 wc => ∃ (kq : Nat) (x5_39 : Int) (x7_39 : Int), v5 = .int .u64 x5_39 ∧ v7 = .int .i64 x7_39 ∧ Aside0 (wringerref1_Sum.j6 kq a1 x5_39 (a1.size : Int) x7_39 = some r) ∧ Aside0 (kq ≤ k2) ∧ Aside0 (Below w.heap.size w wc))
            case first =>
              have H := HC40.out
              clear HC40
              by_cases c41 : (wrap64 (x7_2 + 4)) ≤ (a1.size : Int)
              · rw [if_pos c41] at H
                have c41b0 : decide ((wrap64 (x7_2 + 4)) ≤ (a1.size : Int)) = true := decide_eq_true c41
                clear c41
                (first | rw [c41b0] | (simp only [i64_w, i32_w]; rw [c41b0]) | skip)
                have H' := Aside0.mk H
                clear H
                go_wp2
                go_loopg [12, 13] k2 (fun kq v12 v13 w' => ∃ (x12_3 : Int) (x13_3 : Int), v12 = .int .u64 x12_3 ∧ v13 = .int .i64 x13_3 ∧ Aside0 (wringerref1_Sum.l4 kq a1 x5_2 (a1.size : Int) x7_2 x12_3 x13_3 = some r) ∧ Aside0 (kq ≤ k2) ∧ Aside0 (Below w.heap.size w w'))
                case atStart => exact ⟨(0), (0), (by first | rfl | (simp; done) | (simp [*]; done)), (by first | rfl | (simp; done) | (simp [*]; done)), H', ⟨Nat.le_refl _⟩, ⟨by repeat (first | (with_reducible first | exact HB.out | apply below_alloc | apply pw_below_drewN | apply below_drew1) | exact HB.out)⟩⟩
                case round =>
                  clear H'
                  try clear c1
                  try clear p1
                  try clear q1
                  try clear hx1
                  try clear qi1
                  try clear c2
                  try clear p2
                  try clear c3
                  try clear c4
                  try clear c4b0
                  try clear c4b1
                  try clear c5
                  try clear c5b0
                  try clear c5b1
                  try clear p6
                  try clear q6
                  try clear hx6
                  try clear qi6
                  try clear hf6
                  try clear p10
                  try clear q10
                  try clear hx10
                  try clear qi10
                  try clear p11
                  try clear q11
                  try clear hx11
                  try clear qi11
                  try clear c12
                  try clear c12b0
                  try clear p12
                  try clear q12
                  try clear hx12
                  try clear c13
                  try clear c13b0
                  try clear c14
                  try clear c14b0
                  try clear c15
                  try clear c15b0
                  try clear p18
                  try clear q18
                  try clear hx18
                  try clear hf18
                  try clear c22
                  try clear c22b0
                  try clear c22b1
                  try clear c24
                  try clear c24b0
                  try clear c24b1
                  try clear c26
                  try clear c26b0
                  try clear c26b1
                  try clear c27
                  try clear c28
                  try clear c28b0
                  try clear c28b1
                  try clear c31
                  try clear c31b0
                  try clear c32
                  try clear c32b0
                  try clear c33
                  try clear c33b0
                  try clear c35
                  try clear c35b0
                  try clear c41
                  try clear c41b0
                  try clear hx105_0
                  try clear hx107_0
                  try clear hx113_0
                  try clear hx115_0
                  try clear hx117_0
                  try clear hx119_0
                  try clear hx121_0
                  try clear hx18_0
                  try clear hx6_0
                  try clear p1
                  try clear p10
                  try clear p105
                  try clear p107
                  try clear p11
                  try clear p113
                  try clear p115
                  try clear p117
                  try clear p119
                  try clear p12
                  try clear p121
                  try clear p18
                  try clear p2
                  try clear p6
                  try clear q1
                  try clear q10
                  try clear q105
                  try clear q107
                  try clear q11
                  try clear q113
                  try clear q115
                  try clear q117
                  try clear q119
                  try clear q12
                  try clear q121
                  try clear q18
                  try clear q6
                  obtain ⟨x12_3, x13_3, rfl, rfl, HA, HK3, HB⟩ := hrel
                  cases gk with
                  | zero => exact absurd HA.out (by simp [wringerref1_Sum.l4])
                  | succ k3 =>
                    have H := HA.out
                    clear HA
                    simp only [wringerref1_Sum.l4] at H
                    by_cases c42 : x13_3 < 4
                    · rw [if_pos c42] at H
                      have c42b0 : decide (x13_3 < 4) = true := decide_eq_true c42
                      clear c42
                      obtain ⟨ji43, hji43⟩ : ∃ j_ : Int, (wrap64 (x7_2 + x13_3)) = j_ := ⟨_, rfl⟩
                      replace H : (if 0 ≤ (ji43) then (if (ji43) < (a1.size : Int) then (if 0 ≤ (wrap64 (8 * x13_3)) then (wringerref1_Sum.l4 k3 a1 x5_2 (a1.size : Int) x7_2 (Go.bits .or .u64 x12_3 (shl .u64 (IntKind.u64.wrap (bt a1 (ji43))) (wrap64 (8 * x13_3)))) (wrap64 (x13_3 + 1))) else (none)) else (none)) else (none)) = some r := by first | (rw [hji43] at H; exact H) | (simp only [hji43] at H ⊢; exact H)
                      have hji43w : (IntKind.i64.wrap (x7_2 + x13_3)) = ji43 := (i64_w _).trans hji43
                      by_cases c44 : 0 ≤ (ji43)
                      · rw [if_pos c44] at H
                        have c44b0 : decide (0 ≤ (ji43)) = true := decide_eq_true c44
                        clear c44
                        by_cases c45 : (ji43) < (a1.size : Int)
                        · rw [if_pos c45] at H
                          have c45b0 : decide ((ji43) < (a1.size : Int)) = true := decide_eq_true c45
                          clear c45
                          obtain ⟨ji47, hji47⟩ : ∃ j_ : Int, (wrap64 (8 * x13_3)) = j_ := ⟨_, rfl⟩
                          replace H : (if 0 ≤ (ji47) then (wringerref1_Sum.l4 k3 a1 x5_2 (a1.size : Int) x7_2 (Go.bits .or .u64 x12_3 (shl .u64 (IntKind.u64.wrap (bt a1 (ji43))) (ji47))) (wrap64 (x13_3 + 1))) else (none)) = some r := by first | (rw [hji47] at H; exact H) | (simp only [hji47] at H ⊢; exact H)
                          have hji47w : (IntKind.i64.wrap (8 * x13_3)) = ji47 := (i64_w _).trans hji47
                          by_cases c48 : 0 ≤ (ji47)
                          · rw [if_pos c48] at H
                            have c48b0 := eq_true c48
                            have c48b1 : decide (0 ≤ (ji47)) = true := decide_eq_true c48
                            clear c48
                            obtain ⟨ji49, hji49⟩ : ∃ j_ : Int, (shl .u64 (IntKind.u64.wrap (bt a1 (ji43))) (ji47)) = j_ := ⟨_, rfl⟩
                            replace H : (wringerref1_Sum.l4 k3 a1 x5_2 (a1.size : Int) x7_2 (Go.bits .or .u64 x12_3 (ji49)) (wrap64 (x13_3 + 1))) = some r := by first | (rw [hji49] at H; exact H) | (simp only [hji49] at H ⊢; exact H)
                            have hji49_ : (IntKind.u64.wrap ((IntKind.u64.wrap (bt a1 (ji43))) * 2 ^ min (ji47).toNat 64)) = ji49 := hji49
                            have hji49z : (ji47) ≤ 64 → (IntKind.u64.wrap ((IntKind.u64.wrap (bt a1 (ji43))) * 2 ^ (ji47).toNat)) = ji49 := shl_small hji49
                            have H' := Aside0.mk H
                            clear H
                            have p46 : 0 ≤ ((ji43) : Int) := of_decide_eq_true (by first | (with_reducible assumption) | assumption)
                            have q46 : (ji43) < (a1.size : Int) := of_decide_eq_true (by first | (with_reducible assumption) | assumption)
                            have hx46 := bt_at a1 (ji43)
                            replace p46 := eq_true p46
                            replace q46 := eq_true q46
                            go_wp2
                            go_roundg k3
                            case measure => have := HJ2.out; have := HK2.out; have := HK3.out; omega
                            case rel => exact ⟨(Go.bits .or .u64 x12_3 (ji49)), (wrap64 (x13_3 + 1)), (by first | rfl | (simp; done) | (simp only [← hji49] <;> (first | rfl | simp)) | (simp [*]; done)), (by first | rfl | (simp; done) | (simp [*]; done)), H', ⟨by have := HJ2.out; have := HK2.out; have := HK3.out; omega⟩, ⟨by repeat (first | (with_reducible first | exact HB.out | apply below_alloc | apply pw_below_drewN | apply below_drew1) | exact HB.out)⟩⟩
                          · rw [if_neg c48] at H
                            exact absurd H (by simp)
                        · rw [if_neg c45] at H
                          exact absurd H (by simp)
                      · rw [if_neg c44] at H
                        exact absurd H (by simp)
                    · rw [if_neg c42] at H
                      have c42b0 : decide (x13_3 < 4) = false := decide_eq_false c42
                      clear c42
                      replace H := Option.bind_eq_some_iff.mp H
                      obtain ⟨t128, A500, H⟩ := H
                      replace H : (wringerref1_Sum.j6 k3 a1 (IntKind.u64.wrap ((IntKind.u64.wrap (t128 * 14029467366897019727)) + 1609587929392839161)) (a1.size : Int) (wrap64 (x7_2 + 4))) = some r := H
                      have A50 := Aside0.mk A500
                      clear A500
                      have H' := Aside0.mk H
                      clear H
                      go_wp2_with (first | ((with_reducible refine gate_callee (f := 28) rfl ?_); refine goesL_ (some 133) rfl rfl Try.func28 (by kernel_rfl) rfl #[.int .u64 (Go.bits .xor .u64 x5_2 (IntKind.u64.wrap (x12_3 * 11400714785074694791))), .int .i64 23] rfl (by (try simp only [List.map_toArray, List.map_cons, List.map_nil]); first | done | rfl | (simp only [List.length_drop, List.length_take]; rfl)) ?_; (with_reducible refine (wringerref1_rol.calls (Go.bits .xor .u64 x5_2 (IntKind.u64.wrap (x12_3 * 11400714785074694791))) 23 t128 _ A50.out).mono ?_); rintro e w' ⟨rfl, ⟨nd, rfl⟩⟩; refine ⟨_, rfl, ?_⟩))
                      go_meet
                      case rel => exact ⟨_, (IntKind.u64.wrap ((IntKind.u64.wrap (t128 * 14029467366897019727)) + 1609587929392839161)), (wrap64 (x7_2 + 4)), (by first | rfl | (simp; done) | (simp [*]; done)), (by first | rfl | (simp; done) | (simp [*]; done)), H', ⟨by have := HJ2.out; have := HK2.out; have := HK3.out; first | omega | exact Nat.le_refl _⟩, ⟨by repeat (first | (with_reducible first | exact HB.out | apply below_alloc | apply pw_below_drewN | apply below_drew1) | exact HB.out)⟩⟩
              · rw [if_neg c41] at H
                have c41b0 : decide ((wrap64 (x7_2 + 4)) ≤ (a1.size : Int)) = false := decide_eq_false c41
                clear c41
                (first | rw [c41b0] | (simp only [i64_w, i32_w]; rw [c41b0]) | skip)
                have H' := Aside0.mk H
                clear H
                go_wp2
                go_meet
                case rel => exact ⟨_, (x5_2), (x7_2), (by first | rfl | (simp; done) | (simp [*]; done)), (by first | rfl | (simp; done) | (simp [*]; done)), H', ⟨by have := HJ2.out; have := HK2.out; first | omega | exact Nat.le_refl _⟩, ⟨by repeat (first | (with_reducible first | exact HB.out | apply below_alloc | apply pw_below_drewN | apply below_drew1) | exact HB.out)⟩⟩
            case rest =>
              clear HC40
              try clear c1
              try clear p1
              try clear q1
              try clear hx1
              try clear qi1
              try clear c2
              try clear p2
              try clear c3
              try clear c4
              try clear c4b0
              try clear c4b1
              try clear p4
              try clear q4
              try clear hx4
              try clear c5
              try clear c5b0
              try clear c5b1
              try clear p6
              try clear q6
              try clear hx6
              try clear qi6
              try clear hf6
              try clear p10
              try clear q10
              try clear hx10
              try clear qi10
              try clear p11
              try clear q11
              try clear hx11
              try clear qi11
              try clear c12
              try clear c12b0
              try clear p12
              try clear q12
              try clear hx12
              try clear c13
              try clear c13b0
              try clear c14
              try clear c14b0
              try clear c15
              try clear c15b0
              try clear p18
              try clear q18
              try clear hx18
              try clear hf18
              try clear c22
              try clear c22b0
              try clear c22b1
              try clear c24
              try clear c24b0
              try clear c24b1
              try clear c26
              try clear c26b0
              try clear c26b1
              try clear c27
              try clear c28
              try clear c28b0
              try clear c28b1
              try clear c31
              try clear c31b0
              try clear c32
              try clear c32b0
              try clear c33
              try clear c33b0
              try clear c35
              try clear c35b0
              try clear c41
              try clear c41b0
              try clear c42
              try clear c42b0
              try clear c44
              try clear c44b0
              try clear c45
              try clear c45b0
              try clear p46
              try clear q46
              try clear hx46
              try clear c48
              try clear c48b0
              try clear c48b1
              try clear hx105_0
              try clear hx107_0
              try clear hx113_0
              try clear hx115_0
              try clear hx117_0
              try clear hx119_0
              try clear hx121_0
              try clear hx18_0
              try clear hx6_0
              try clear p1
              try clear p10
              try clear p105
              try clear p107
              try clear p11
              try clear p113
              try clear p115
              try clear p117
              try clear p119
              try clear p12
              try clear p121
              try clear p18
              try clear p2
              try clear p46
              try clear p6
              try clear q1
              try clear q10
              try clear q105
              try clear q107
              try clear q11
              try clear q113
              try clear q115
              try clear q117
              try clear q119
              try clear q12
              try clear q121
              try clear q18
              try clear q46
              try clear q6
              obtain ⟨kq, x5_39, x7_39, rfl, rfl, HA, HJ39, HB⟩ := hcut
              cases kq with
              | zero => exact absurd HA.out (by simp [wringerref1_Sum.j6])
              | succ kj39 =>
                have H := HA.out
                clear HA
                simp only [wringerref1_Sum.j6] at H
                have H' := Aside0.mk H
                clear H
                go_wp2
                go_loopg [5, 7] kj39 (fun kq v5 v7 w' => ∃ (x5_4 : Int) (x7_4 : Int), v5 = .int .u64 x5_4 ∧ v7 = .int .i64 x7_4 ∧ Aside0 (wringerref1_Sum.l5 kq a1 x5_4 (a1.size : Int) x7_4 = some r) ∧ Aside0 (kq ≤ kj39) ∧ Aside0 (Below w.heap.size w w'))
                case atStart => exact ⟨(x5_39), (x7_39), (by first | rfl | (simp; done) | (simp [*]; done)), (by first | rfl | (simp; done) | (simp [*]; done)), H', ⟨Nat.le_refl _⟩, ⟨by repeat (first | (with_reducible first | exact HB.out | apply below_alloc | apply pw_below_drewN | apply below_drew1) | exact HB.out)⟩⟩
                case round =>
                  clear H'
                  try clear c1
                  try clear p1
                  try clear q1
                  try clear hx1
                  try clear qi1
                  try clear c2
                  try clear p2
                  try clear c3
                  try clear c4
                  try clear c4b0
                  try clear c4b1
                  try clear p4
                  try clear q4
                  try clear hx4
                  try clear c5
                  try clear c5b0
                  try clear c5b1
                  try clear p6
                  try clear q6
                  try clear hx6
                  try clear qi6
                  try clear hf6
                  try clear p10
                  try clear q10
                  try clear hx10
                  try clear qi10
                  try clear p11
                  try clear q11
                  try clear hx11
                  try clear qi11
                  try clear c12
                  try clear c12b0
                  try clear p12
                  try clear q12
                  try clear hx12
                  try clear c13
                  try clear c13b0
                  try clear c14
                  try clear c14b0
                  try clear c15
                  try clear c15b0
                  try clear p18
                  try clear q18
                  try clear hx18
                  try clear hf18
                  try clear c22
                  try clear c22b0
                  try clear c22b1
                  try clear c24
                  try clear c24b0
                  try clear c24b1
                  try clear c26
                  try clear c26b0
                  try clear c26b1
                  try clear c27
                  try clear c28
                  try clear c28b0
                  try clear c28b1
                  try clear c31
                  try clear c31b0
                  try clear c32
                  try clear c32b0
                  try clear c33
                  try clear c33b0
                  try clear c35
                  try clear c35b0
                  try clear c41
                  try clear c41b0
                  try clear c42
                  try clear c42b0
                  try clear c44
                  try clear c44b0
                  try clear c45
                  try clear c45b0
                  try clear p46
                  try clear q46
                  try clear hx46
                  try clear c48
                  try clear c48b0
                  try clear c48b1
                  try clear hx105_0
                  try clear hx107_0
                  try clear hx113_0
                  try clear hx115_0
                  try clear hx117_0
                  try clear hx119_0
                  try clear hx121_0
                  try clear hx18_0
                  try clear hx6_0
                  try clear p1
                  try clear p10
                  try clear p105
                  try clear p107
                  try clear p11
                  try clear p113
                  try clear p115
                  try clear p117
                  try clear p119
                  try clear p12
                  try clear p121
                  try clear p18
                  try clear p2
                  try clear p4
                  try clear p46
                  try clear p6
                  try clear q1
                  try clear q10
                  try clear q105
                  try clear q107
                  try clear q11
                  try clear q113
                  try clear q115
                  try clear q117
                  try clear q119
                  try clear q12
                  try clear q121
                  try clear q18
                  try clear q4
                  try clear q46
                  try clear q6
                  obtain ⟨x5_4, x7_4, rfl, rfl, HA, HK4, HB⟩ := hrel
                  cases gk with
                  | zero => exact absurd HA.out (by simp [wringerref1_Sum.l5])
                  | succ k4 =>
                    have H := HA.out
                    clear HA
                    simp only [wringerref1_Sum.l5] at H
                    by_cases c51 : x7_4 < (a1.size : Int)
                    · rw [if_pos c51] at H
                      have c51b0 : decide (x7_4 < (a1.size : Int)) = true := decide_eq_true c51
                      clear c51
                      by_cases c52 : 0 ≤ x7_4
                      · rw [if_pos c52] at H
                        have c52b0 : decide (0 ≤ x7_4) = true := decide_eq_true c52
                        clear c52
                        by_cases c53 : x7_4 < (a1.size : Int)
                        · rw [if_pos c53] at H
                          have c53b0 : decide (x7_4 < (a1.size : Int)) = true := decide_eq_true c53
                          clear c53
                          replace H := Option.bind_eq_some_iff.mp H
                          obtain ⟨t129, A550, H⟩ := H
                          replace H : (wringerref1_Sum.l5 k4 a1 (IntKind.u64.wrap (t129 * 11400714785074694791)) (a1.size : Int) (wrap64 (x7_4 + 1))) = some r := H
                          have A55 := Aside0.mk A550
                          clear A550
                          have H' := Aside0.mk H
                          clear H
                          have p54 : 0 ≤ (x7_4 : Int) := of_decide_eq_true (by first | (with_reducible assumption) | assumption)
                          have q54 : x7_4 < (a1.size : Int) := of_decide_eq_true (by first | (with_reducible assumption) | assumption)
                          have hx54 := bt_at a1 x7_4
                          replace p54 := eq_true p54
                          replace q54 := eq_true q54
                          go_wp2_with (first | ((with_reducible refine gate_callee (f := 28) rfl ?_); refine goesL_ (some 148) rfl rfl Try.func28 (by kernel_rfl) rfl #[.int .u64 (Go.bits .xor .u64 x5_4 (IntKind.u64.wrap ((IntKind.u64.wrap (bt a1 x7_4)) * 2870177450012600261))), .int .i64 11] rfl (by (try simp only [List.map_toArray, List.map_cons, List.map_nil]); first | done | rfl | (simp only [List.length_drop, List.length_take]; rfl)) ?_; (with_reducible refine (wringerref1_rol.calls (Go.bits .xor .u64 x5_4 (IntKind.u64.wrap ((IntKind.u64.wrap (bt a1 x7_4)) * 2870177450012600261))) 11 t129 _ A55.out).mono ?_); rintro e w' ⟨rfl, ⟨nd, rfl⟩⟩; refine ⟨_, rfl, ?_⟩))
                          go_roundg k4
                          case measure => have := HJ2.out; have := HK2.out; have := HJ39.out; have := HK4.out; omega
                          case rel => exact ⟨(IntKind.u64.wrap (t129 * 11400714785074694791)), (wrap64 (x7_4 + 1)), (by first | rfl | (simp; done) | (simp [*]; done)), (by first | rfl | (simp; done) | (simp [*]; done)), H', ⟨by have := HJ2.out; have := HK2.out; have := HJ39.out; have := HK4.out; omega⟩, ⟨by repeat (first | (with_reducible first | exact HB.out | apply below_alloc | apply pw_below_drewN | apply below_drew1) | exact HB.out)⟩⟩
                        · rw [if_neg c53] at H
                          exact absurd H (by simp)
                      · rw [if_neg c52] at H
                        exact absurd H (by simp)
                    · rw [if_neg c51] at H
                      have c51b0 : decide (x7_4 < (a1.size : Int)) = false := decide_eq_false c51
                      clear c51
                      replace H := Option.bind_eq_some_iff.mp H
                      obtain ⟨t130, A560, H⟩ := H
                      replace H : (some t130) = some r := H
                      have A56 := Aside0.mk A560
                      clear A560
                      obtain rfl := Option.some.inj H
                      go_wp2_with (first | ((with_reducible refine gate_callee (f := 17) rfl ?_); refine goesL_ (some 153) rfl rfl Try.func17 (by kernel_rfl) rfl #[.int .u64 x5_4] rfl (by (try simp only [List.map_toArray, List.map_cons, List.map_nil]); first | done | rfl | (simp only [List.length_drop, List.length_take]; rfl)) ?_; (with_reducible refine (wringerref1_Mix.calls x5_4 t130 _ A56.out).mono ?_); rintro e w' ⟨rfl, ⟨nd, rfl⟩⟩; refine ⟨_, rfl, ?_⟩))
                      go_ret
                      exact ⟨by first | rfl | (simp [errW_none, errW_some] <;> rfl) | (simp [*, errW_none, errW_some] <;> rfl), by repeat (first | (with_reducible first | exact HB.out | apply below_alloc | apply pw_below_drewN | apply below_drew1) | exact HB.out)⟩

end Go.Proofs.Ytckjigbhdndgdaa.PRef
