/- StateAll walked: the call returns true, and of the memory that was there nothing turns. -/
import Derived.Test.YtckjigbhdndgdaaGSlaw
namespace Go.Proofs.Ytckjigbhdndgdaa
set_option linter.unusedVariables false
open Go.RowKit Go.Proofs.YtckjigbhdndgdaaW.PrintWords Go.Proofs.YtckjigbhdndgdaaW.PrintLast Go.Proofs.YtckjigbhdndgdaaW.PrintMore Go.Proofs.Ytckjigbhdndgdaa.PBits Go.Proofs.Ytckjigbhdndgdaa.PReader Go.Proofs.Ytckjigbhdndgdaa.PRef
/-- A slice of strings in memory. -/
def IsStrs (w : World) (a : Option Addr) (len cap : Nat) (zs : List ByteArray) : Prop :=
  (a = none ∧ len = 0 ∧ cap = 0 ∧ zs = []) ∨
  ∃ x, a = some x ∧ len ≤ cap ∧ cap ≤ maxLen ∧ zs.length = cap ∧ (∀ i, i < zs.length → w.cell? (x.add i) = some (.string (zs.getD i ByteArray.empty)))
set_option maxHeartbeats 4000000 in
set_option maxRecDepth 100000 in
theorem stateAll_main (seed : Nat) (hs : Aside0 (seed < 18446744073709551616)) (a : Option Addr) (len cap : Nat) (zs : List ByteArray) (W : World) (hr : Aside0 (IsStrs W a len cap zs)) :
    Calls Try.prog 8 #[.int .u64 (seed : Int), .slice a len cap] W fun e w' => e = .returned (.bool true) ∧ Below W.heap.size W w' := by
  go_enter Try.func8, Try.ntmps8
  go_wp2_with fail
  refine (state_New.of seed _).mono ?_
  rintro e w1 ⟨rfl, hS, hb, hlt⟩
  have HS := Aside0.mk (hS W.heap.size)
  have HB := Aside0.mk hb
  clear hS hb hlt
  by_cases hl : len ≤ 30
  · have hl1 : decide ((len : Int) > 30) = false := decide_eq_false (by omega)
    go_wp2_with fail
    go_loopg [6, 7] (len + 1) (fun kq v6 v7 w' => ∃ (S : ByteArray) (i : Nat) (v : Value), v6 = .string S ∧ v7 = .int .i64 (i : Int) ∧ Aside0 (kq = len - i + 1) ∧ Aside0 (i ≤ len) ∧ Aside0 (S.size ≤ 500 * i) ∧ Aside0 (StAt w' W.heap.size W.heap.size seed S (S.size : Int) v) ∧ Aside0 (Below W.heap.size W w'))
    case atStart => exact ⟨ByteArray.empty, 0, _, rfl, rfl, ⟨by omega⟩, ⟨Nat.zero_le _⟩, ⟨Nat.zero_le _⟩, HS, HB⟩
    case round =>
      clear HS HB
      obtain ⟨S, i, v, rfl, rfl, hk, hi, hSz, HS, HB⟩ := hrel
      cases gk with
      | zero => exact absurd hk.out (by omega)
      | succ k1 =>
        by_cases hil : i < len
        · have hil1 := eq_true (show (i : Int) < (len : Int) by omega)
          have hi0 := eq_true (show (0 : Int) ≤ (i : Int) by omega)
          rcases hr.out with ⟨_, h0, _⟩ | ⟨x, rfl, hlc, hcm, hzl, hcell⟩
          · omega
          have hc0 := hcell i (by omega)
          have hc : wr.cell? (x.add i) = some (.string (zs.getD i ByteArray.empty)) := by rw [HB.out.cell (World.block_lt_of_cell? _ _ hc0)]; exact hc0
          generalize zs.getD i ByteArray.empty = P at *
          by_cases hP : P.size ≤ 500
          · have hP1 : decide ((P.size : Int) > 500) = false := decide_eq_false (by omega)
            have hP2 : decide (500 < (P.size : Int)) = false := decide_eq_false (by omega)
            have hP3 : decide (500 < P.size) = false := decide_eq_false (by omega)
            have hS5 := hSz.out
            go_wp2_with fail
            refine (state_Write.calls seed S P v W.heap.size W.heap.size wr HS ⟨HB.out.size⟩ ⟨Nat.le_refl _⟩ ⟨by omega⟩).mono ?_
            rintro e w2 ⟨rfl, v2, hS2, hM2, _⟩
            have HS2 := Aside0.mk hS2
            have HB2 : Aside0 (Below W.heap.size W w2) := ⟨Mine.to_below hM2 HB.out HB.out.size (fun k hk => by
              rcases hk with rfl | hk
              · exact Nat.le_refl _
              · exact (HS.out.own.lt k hk).1)⟩
            have hc2 : w2.cell? (x.add i) = some (.string P) := by rw [HB2.out.cell (World.block_lt_of_cell? _ _ hc0), ← HB.out.cell (World.block_lt_of_cell? _ _ hc0)]; exact hc
            have hsz2 : (S ++ P).size = S.size + P.size := size_app S P
            have hq := sum_val (S ++ P) seed 20000 (by omega) hs.out (by omega)
            have hR := Aside0.mk (refsum_val (S ++ P) seed 20000 (by omega) hs.out (by omega))
            clear hS2 hM2 hq hc HS HB
            go_wp2_with fail
            have hS6 : (S ++ P).size ≤ 500 * (i + 1) := by omega
            clear hsz2 hc2
            generalize S ++ P = S2 at *
            refine (state_Sum.calls seed hs.out S2 (by omega) v2 _ _ _ HS2.out).mono ?_
            rintro e w3 ⟨rfl, hb⟩
            have HS3 := Aside0.mk (HS2.out.below hb)
            have HB3 := Aside0.mk (below_step HB2.out hb)
            clear HS2 HB2 hb
            go_wp2_with fail
            refine (wringerref1_Sum.calls 20000 _ _ _ _ hR.out).mono ?_
            rintro e w4 ⟨rfl, hb⟩
            have HS4 := Aside0.mk (HS3.out.below hb)
            have HB4 := Aside0.mk (below_step HB3.out hb)
            clear HS3 HB3 hb
            go_wp2_with fail
            refine (state_Len.calls seed S2 v2 _ _ _ HS4).mono ?_
            rintro e w5 ⟨rfl, hb⟩
            have HS5 := Aside0.mk (HS4.out.below hb)
            have HB5 := Aside0.mk (below_step HB4.out hb)
            clear HS4 HB4 hb
            go_wp2_with fail
            refine (state_Sum.calls seed hs.out S2 (by omega) v2 _ _ _ HS5.out).mono ?_
            rintro e w6 ⟨rfl, hb⟩
            have HS6 := Aside0.mk (HS5.out.below hb)
            have HB6 := Aside0.mk (below_step HB5.out hb)
            clear HS5 HB5 hb
            go_wp2_with fail
            refine (wringerref1_Sum.calls 20000 _ _ _ _ hR.out).mono ?_
            rintro e w7 ⟨rfl, hb⟩
            have HS7 := Aside0.mk (HS6.out.below hb)
            have HB7 := Aside0.mk (below_step HB6.out hb)
            clear HS6 HB6 hb
            go_wp2_with fail
            go_roundg k1
            case measure => omega
            case rel => exact ⟨S2, i + 1, v2, rfl, rfl, ⟨by have := hk.out; omega⟩, ⟨by omega⟩, ⟨hS6⟩, HS7, HB7⟩
          · have hP1 : decide ((P.size : Int) > 500) = true := decide_eq_true (by omega)
            have hP2 : decide (500 < (P.size : Int)) = true := decide_eq_true (by omega)
            have hP3 : decide (500 < P.size) = true := decide_eq_true (by omega)
            go_wp2_with fail
            refine (wringerlaw6_awake.calls _).mono ?_
            rintro e w2 ⟨rfl, hb⟩
            go_wp2
            go_ret
            exact ⟨rfl, below_step HB.out hb⟩
        · have hil1 := eq_false (show ¬ (i : Int) < (len : Int) by omega)
          go_wp2_with fail
          refine (wringerlaw6_awake.calls _).mono ?_
          rintro e w2 ⟨rfl, hb⟩
          go_wp2
          go_ret
          exact ⟨rfl, below_step HB.out hb⟩
  · have hl1 : decide ((len : Int) > 30) = true := decide_eq_true (by omega)
    go_wp2_with fail
    refine (wringerlaw6_awake.calls _).mono ?_
    rintro e w2 ⟨rfl, hb⟩
    go_wp2
    go_ret
    exact ⟨rfl, below_step HB.out hb⟩
theorem u64_nat (a : Int) (h : (Lit.int .u64 a).wf = true) : ∃ n : Nat, n < 18446744073709551616 ∧ a = (n : Int) := by
  simp only [Lit.wf, Bool.and_eq_true, decide_eq_true_eq] at h
  have h0 : 0 ≤ a := h.1
  have h1 : a ≤ 18446744073709551615 := h.2
  exact ⟨a.toNat, by omega, by omega⟩
theorem wringerlaw6_StateAll.walk (a0 : Int) (a1 : Option Addr) (len1 cap1 : Nat) (z1 : List ByteArray) (W : World) (w0 : (Lit.int .u64 a0).wf = true) (w1 : IsStrs W a1 len1 cap1 z1) :
    Calls Try.prog 8 #[.int .u64 a0, .slice a1 len1 cap1] W fun e W' => e = .returned (.bool true) ∧ Below W.heap.size W W' := by
  obtain ⟨n, hn, rfl⟩ := u64_nat a0 w0
  exact stateAll_main n ⟨hn⟩ a1 len1 cap1 z1 W ⟨w1⟩
end Go.Proofs.Ytckjigbhdndgdaa
