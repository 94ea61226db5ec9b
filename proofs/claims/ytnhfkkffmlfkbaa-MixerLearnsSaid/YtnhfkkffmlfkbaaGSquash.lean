/- squash.Squash and the reference's Squash of any number are the document's chance of its logit; the memory that was there stays. -/
import Derived.Test.YtnhfkkffmlfkbaaProg
import Derived.Below
import Derived.Deep.Draws
import Derived.Deep.AppendLies
import Derived.Maps.AppendAt
import Derived.OwnWalk
import Derived.Laws.BytesArg
import Derived.Laws.MakeOwn
import Derived.Laws.OwnMore
import Derived.Deep.OwnRows
import Derived.Tactics
import Derived.Lib.ConvBytes
import Derived.Laws.Slices
import Derived.WalkKit
import Derived.KernelRfl
import Derived.RowKit3
import Derived.Deep.LoopGhost
import Derived.Deep.QuietTactic
import Derived.BigQuiet
import Derived.WideLaws
import Derived.Deep.DeepCutAuto
import Derived.Deep.CutBlock
import Derived.Deep.RegionHeld3
import Derived.Laws.Rows
import Derived.Lib.AppendStr
import Derived.ArgAppend
import Derived.Laws.IdiomCopy
import Derived.OrdersHeld
import Derived.Laws.BitsLemmas
import Derived.RowKit
import Derived.Test.YtnhfkkffmlfkbaaWWords
import Derived.Test.YtnhfkkffmlfkbaaWLast
import Derived.Test.YtnhfkkffmlfkbaaWTab
import Derived.Test.YtnhfkkffmlfkbaaWFour
import Derived.Test.YtnhfkkffmlfkbaaWQPut
import Derived.Test.YtnhfkkffmlfkbaaWApart
import Derived.Test.YtnhfkkffmlfkbaaWArr
import Derived.Test.YtnhfkkffmlfkbaaWZeros
import Derived.Test.YtnhfkkffmlfkbaaWFoot
import Derived.Test.YtnhfkkffmlfkbaaWKept
import Derived.Test.YtnhfkkffmlfkbaaWShare
import Derived.Test.YtnhfkkffmlfkbaaWN
import Derived.Test.YtnhfkkffmlfkbaaWFootNe
import Derived.Test.YtnhfkkffmlfkbaaWAt
import Derived.Test.YtnhfkkffmlfkbaaWEqStruct
import Derived.Test.YtnhfkkffmlfkbaaWRepsOne
import Derived.Test.YtnhfkkffmlfkbaaWInv
import Derived.Test.YtnhfkkffmlfkbaaWInvWords
import Derived.Test.YtnhfkkffmlfkbaaWGuard
import Derived.Test.YtnhfkkffmlfkbaaWNEv
import Derived.Test.YtnhfkkffmlfkbaaWMore
namespace Go.Proofs.Ytnhfkkffmlfkbaa
open Go.RowKit Go.Proofs.YtnhfkkffmlfkbaaW.PrintWords Go.Proofs.YtnhfkkffmlfkbaaW.PrintLast Go.Proofs.YtnhfkkffmlfkbaaW.PrintMore
attribute [local go_sem] max2_int min2_int max_two min_two max_three min_three max_four min_four
/-- The chance of a logit from 0 to 2047. -/
def sqE (x : Int) : Int := 65536 / 2 ^ (x / 256).toNat
def sqPos (x : Int) : Int := 268435456 / (65536 + (sqE x - sqE x / 2 * (x % 256) / 256))
/-- A logit that may be. -/
def sqCut (x : Int) : Int := mx (-2047) (mn x 2047)
def sq (x : Int) : Int := if sqCut x < 0 then 4096 - sqPos (-(sqCut x)) else sqPos (sqCut x)
theorem sqCut_range (x : Int) : -2047 ≤ sqCut x ∧ sqCut x ≤ 2047 := by unfold sqCut mx mn; split <;> split <;> omega
theorem sqE_range (x : Int) (h0 : 0 ≤ x) (h1 : x ≤ 2047) : 512 ≤ sqE x ∧ sqE x ≤ 65536 := by
  unfold sqE
  have hq : x / 256 = 0 ∨ x / 256 = 1 ∨ x / 256 = 2 ∨ x / 256 = 3 ∨ x / 256 = 4 ∨ x / 256 = 5 ∨ x / 256 = 6 ∨ x / 256 = 7 := by omega
  rcases hq with h | h | h | h | h | h | h | h <;> rw [h] <;> decide
theorem sq_div (d : Int) (h0 : 65537 ≤ d) (h1 : d ≤ 131072) : 2048 ≤ 268435456 / d ∧ 268435456 / d ≤ 4095 := by
  refine ⟨(Int.le_ediv_iff_mul_le (by omega)).2 (by omega), ?_⟩
  have := (Int.ediv_lt_iff_lt_mul (a := 268435456) (b := 4096) (c := d) (by omega)).2 (by omega)
  omega
theorem sq_seven (r : Int) : (65536 / 2 ^ Int.toNat 7 : Int) - 65536 / 2 ^ Int.toNat 7 / 2 * r / 256 = 512 - r := by
  have e : (65536 / 2 ^ Int.toNat 7 : Int) = 512 := rfl
  rw [e]
  omega
theorem sqPos_range (x : Int) (h0 : 0 ≤ x) (h1 : x ≤ 2047) : 2048 ≤ sqPos x ∧ sqPos x ≤ 4095 := by
  have hE := sqE_range x h0 h1
  have hq : x / 256 = 0 ∨ x / 256 = 1 ∨ x / 256 = 2 ∨ x / 256 = 3 ∨ x / 256 = 4 ∨ x / 256 = 5 ∨ x / 256 = 6 ∨ x / 256 = 7 := by omega
  unfold sqPos sqE
  rcases hq with h | h | h | h | h | h | h | h <;> rw [h] <;> exact sq_div _ (by simp; omega) (by simp; omega)

set_option maxHeartbeats 4000000 in
set_option maxRecDepth 100000 in
theorem squash_Squash.pos (y : Int) (w : World) (h0 : 0 ≤ y) (h1 : y ≤ 2047) :
    Calls Try.prog 22 #[.int .i64 y] w fun e w' => e = .returned (.int .i64 (sqPos y)) ∧ Below w.heap.size w w' := by
  have r0 : 0 ≤ y % 256 := by omega
  have r1 : y % 256 ≤ 255 := by omega
  have b1 : decide (y < 0) = false := decide_eq_false (by omega)
  have hq : y / 256 = 0 ∨ y / 256 = 1 ∨ y / 256 = 2 ∨ y / 256 = 3 ∨ y / 256 = 4 ∨ y / 256 = 5 ∨ y / 256 = 6 ∨ y / 256 = 7 := by omega
  have hs : ∀ q : Int, y / 256 = q → sqPos y = 268435456 / (65536 + (65536 / 2 ^ q.toNat - 65536 / 2 ^ q.toNat / 2 * (y % 256) / 256)) := by
    intro q h
    unfold sqPos sqE
    rw [h]
  rcases hq with h | h | h | h | h | h | h | h
  all_goals
    have HS := Aside0.mk (hs _ h)
    clear hs
    go_enter Try.func22, Try.ntmps22
    go_wp2
    go_ret
    refine ⟨?_, Below.refl _ _⟩
    rw [HS.out]
    first | rfl | (rw [sq_seven]; rfl)
set_option maxHeartbeats 4000000 in
set_option maxRecDepth 100000 in
theorem squash_Squash.big (y : Int) (w : World) (h1 : 2047 < y) :
    Calls Try.prog 22 #[.int .i64 y] w fun e w' => e = .returned (.int .i64 (sqPos 2047)) ∧ Below w.heap.size w w' := by
  go_enter Try.func22, Try.ntmps22
  go_wp2
  go_ret
  exact ⟨rfl, Below.refl _ _⟩
set_option maxHeartbeats 4000000 in
set_option maxRecDepth 100000 in
theorem squash_Squash.neg (y : Int) (w : World) (h0 : y < 0) (h1 : -2047 < y) :
    Calls Try.prog 22 #[.int .i64 y] w fun e w' => e = .returned (.int .i64 (4096 - sqPos (-y))) ∧ Below w.heap.size w w' := by
  have hp := sqPos_range (-y) (by omega) (by omega)
  have hcall := fun W => squash_Squash.pos (-y) W (by omega) (by omega)
  obtain ⟨z, hz⟩ : ∃ z, sqPos (-y) = z := ⟨_, rfl⟩
  rw [hz] at hp hcall ⊢
  have hp1 := hp.1
  have hp2 := hp.2
  have HC := Aside0.mk hcall
  clear hp hz hcall
  have b1 : decide (y < 0) = true := decide_eq_true (by omega)
  go_enter Try.func22, Try.ntmps22
  go_wp2_with (first | (go_at_call 22; refine (HC.out _).mono ?_; rintro e w' ⟨rfl, hb⟩))
  go_ret
  exact ⟨rfl, by assumption⟩
set_option maxHeartbeats 4000000 in
set_option maxRecDepth 100000 in
theorem squash_Squash.low (y : Int) (w : World) (h1 : y ≤ -2047) :
    Calls Try.prog 22 #[.int .i64 y] w fun e w' => e = .returned (.int .i64 (4096 - sqPos 2047)) ∧ Below w.heap.size w w' := by
  have hp := sqPos_range 2047 (by omega) (by omega)
  have hcall := fun W => squash_Squash.pos 2047 W (by omega) (by omega)
  obtain ⟨z, hz⟩ : ∃ z, sqPos 2047 = z := ⟨_, rfl⟩
  rw [hz] at hp hcall ⊢
  have hp1 := hp.1
  have hp2 := hp.2
  have HC := Aside0.mk hcall
  clear hp hz hcall
  go_enter Try.func22, Try.ntmps22
  go_wp2_with (first | (go_at_call 22; refine (HC.out _).mono ?_; rintro e w' ⟨rfl, hb⟩))
  go_ret
  exact ⟨rfl, by assumption⟩
theorem squash_Squash.any (a0 : Int) (w : World) :
    Calls Try.prog 22 #[.int .i64 a0] w fun e w' => e = .returned (.int .i64 (sq a0)) ∧ Below w.heap.size w w' := by
  by_cases c1 : 2047 < a0
  · have e : sq a0 = sqPos 2047 := by
      have : sqCut a0 = 2047 := by unfold sqCut mx mn; rw [if_pos c1]; rfl
      unfold sq; rw [this]; rfl
    rw [e]; exact squash_Squash.big a0 w c1
  · by_cases c2 : a0 ≤ -2047
    · have e : sq a0 = 4096 - sqPos 2047 := by
        have : sqCut a0 = -2047 := by unfold sqCut mx mn; rw [if_neg c1, if_neg (by omega)]
        unfold sq; rw [this]; rfl
      rw [e]; exact squash_Squash.low a0 w c2
    · have hc : sqCut a0 = a0 := by
        unfold sqCut mx mn; rw [if_neg c1]; split <;> omega
      by_cases c3 : a0 < 0
      · have e : sq a0 = 4096 - sqPos (-a0) := by unfold sq; rw [hc, if_pos c3]
        rw [e]; exact squash_Squash.neg a0 w c3 (by omega)
      · have e : sq a0 = sqPos a0 := by unfold sq; rw [hc, if_neg c3]
        rw [e]; exact squash_Squash.pos a0 w (by omega) (by omega)
def squash_Squash.f (a0 : Int) : Option Int := some (sq a0)
theorem squash_Squash.calls (a0 : Int) (r : Int) (w : World) (h : squash_Squash.f a0 = some r) :
    Calls Try.prog 22 #[.int .i64 a0] w fun e w' => e = .returned (.int .i64 r) ∧ Below w.heap.size w w' := by
  obtain rfl := Option.some.inj h
  exact squash_Squash.any a0 w

set_option maxHeartbeats 4000000 in
set_option maxRecDepth 100000 in
theorem wringerref15_Squash.pos (y : Int) (w : World) (h0 : 0 ≤ y) (h1 : y ≤ 2047) :
    Calls Try.prog 18 #[.int .i64 y] w fun e w' => e = .returned (.int .i64 (sqPos y)) ∧ Below w.heap.size w w' := by
  have r0 : 0 ≤ y % 256 := by omega
  have r1 : y % 256 ≤ 255 := by omega
  have b1 : decide (y < 0) = false := decide_eq_false (by omega)
  have hq : y / 256 = 0 ∨ y / 256 = 1 ∨ y / 256 = 2 ∨ y / 256 = 3 ∨ y / 256 = 4 ∨ y / 256 = 5 ∨ y / 256 = 6 ∨ y / 256 = 7 := by omega
  have hs : ∀ q : Int, y / 256 = q → sqPos y = 268435456 / (65536 + (65536 / 2 ^ q.toNat - 65536 / 2 ^ q.toNat / 2 * (y % 256) / 256)) := by
    intro q h
    unfold sqPos sqE
    rw [h]
  rcases hq with h | h | h | h | h | h | h | h
  all_goals
    have HS := Aside0.mk (hs _ h)
    clear hs
    go_enter Try.func18, Try.ntmps18
    go_wp2
    go_ret
    refine ⟨?_, Below.refl _ _⟩
    rw [HS.out]
    first | rfl | (rw [sq_seven]; rfl)
set_option maxHeartbeats 4000000 in
set_option maxRecDepth 100000 in
theorem wringerref15_Squash.big (y : Int) (w : World) (h1 : 2047 < y) :
    Calls Try.prog 18 #[.int .i64 y] w fun e w' => e = .returned (.int .i64 (sqPos 2047)) ∧ Below w.heap.size w w' := by
  go_enter Try.func18, Try.ntmps18
  go_wp2
  go_ret
  exact ⟨rfl, Below.refl _ _⟩
set_option maxHeartbeats 4000000 in
set_option maxRecDepth 100000 in
theorem wringerref15_Squash.neg (y : Int) (w : World) (h0 : y < 0) (h1 : -2047 < y) :
    Calls Try.prog 18 #[.int .i64 y] w fun e w' => e = .returned (.int .i64 (4096 - sqPos (-y))) ∧ Below w.heap.size w w' := by
  have hp := sqPos_range (-y) (by omega) (by omega)
  have hcall := fun W => wringerref15_Squash.pos (-y) W (by omega) (by omega)
  obtain ⟨z, hz⟩ : ∃ z, sqPos (-y) = z := ⟨_, rfl⟩
  rw [hz] at hp hcall ⊢
  have hp1 := hp.1
  have hp2 := hp.2
  have HC := Aside0.mk hcall
  clear hp hz hcall
  have b1 : decide (y < 0) = true := decide_eq_true (by omega)
  go_enter Try.func18, Try.ntmps18
  go_wp2_with (first | (go_at_call 18; refine (HC.out _).mono ?_; rintro e w' ⟨rfl, hb⟩) | go_in)
  go_ret
  exact ⟨rfl, by assumption⟩
set_option maxHeartbeats 4000000 in
set_option maxRecDepth 100000 in
theorem wringerref15_Squash.low (y : Int) (w : World) (h1 : y ≤ -2047) :
    Calls Try.prog 18 #[.int .i64 y] w fun e w' => e = .returned (.int .i64 (4096 - sqPos 2047)) ∧ Below w.heap.size w w' := by
  have hp := sqPos_range 2047 (by omega) (by omega)
  have hcall := fun W => wringerref15_Squash.pos 2047 W (by omega) (by omega)
  obtain ⟨z, hz⟩ : ∃ z, sqPos 2047 = z := ⟨_, rfl⟩
  rw [hz] at hp hcall ⊢
  have hp1 := hp.1
  have hp2 := hp.2
  have HC := Aside0.mk hcall
  clear hp hz hcall
  go_enter Try.func18, Try.ntmps18
  go_wp2_with (first | (go_at_call 18; refine (HC.out _).mono ?_; rintro e w' ⟨rfl, hb⟩) | go_in)
  go_ret
  exact ⟨rfl, by assumption⟩
theorem wringerref15_Squash.any (a0 : Int) (w : World) :
    Calls Try.prog 18 #[.int .i64 a0] w fun e w' => e = .returned (.int .i64 (sq a0)) ∧ Below w.heap.size w w' := by
  by_cases c1 : 2047 < a0
  · have e : sq a0 = sqPos 2047 := by
      have : sqCut a0 = 2047 := by unfold sqCut mx mn; rw [if_pos c1]; rfl
      unfold sq; rw [this]; rfl
    rw [e]; exact wringerref15_Squash.big a0 w c1
  · by_cases c2 : a0 ≤ -2047
    · have e : sq a0 = 4096 - sqPos 2047 := by
        have : sqCut a0 = -2047 := by unfold sqCut mx mn; rw [if_neg c1, if_neg (by omega)]
        unfold sq; rw [this]; rfl
      rw [e]; exact wringerref15_Squash.low a0 w c2
    · have hc : sqCut a0 = a0 := by
        unfold sqCut mx mn; rw [if_neg c1]; split <;> omega
      by_cases c3 : a0 < 0
      · have e : sq a0 = 4096 - sqPos (-a0) := by unfold sq; rw [hc, if_pos c3]
        rw [e]; exact wringerref15_Squash.neg a0 w c3 (by omega)
      · have e : sq a0 = sqPos a0 := by unfold sq; rw [hc, if_neg c3]
        rw [e]; exact wringerref15_Squash.pos a0 w (by omega) (by omega)
def wringerref15_Squash.f (a0 : Int) : Option Int := some (sq a0)
theorem wringerref15_Squash.calls (a0 : Int) (r : Int) (w : World) (h : wringerref15_Squash.f a0 = some r) :
    Calls Try.prog 18 #[.int .i64 a0] w fun e w' => e = .returned (.int .i64 r) ∧ Below w.heap.size w w' := by
  obtain rfl := Option.some.inj h
  exact wringerref15_Squash.any a0 w
end Go.Proofs.Ytnhfkkffmlfkbaa
