/- ChanceLong walked: the call returns true, and of the memory that was there nothing turns. -/
import Derived.Test.YtgldblakdhalkaaGNil
import Derived.Test.YtgldblakdhalkaaGAwk
namespace Go.Proofs.Ytgldblakdhalkaa
set_option linter.unusedVariables false
open Go.RowKit Go.Proofs.YtgldblakdhalkaaW.PrintWords Go.Proofs.YtgldblakdhalkaaW.PrintLast Go.Proofs.YtgldblakdhalkaaW.PrintMore Go.Proofs.Ytgldblakdhalkaa.PBase
theorem wrap_one (i : Nat) (h : i ≤ 1000) : Value.int .i64 (wrap64 ((i : Int) + 1)) = .int .i64 ((i + 1 : Nat) : Int) := by
  have : wrap64 ((i : Int) + 1) = ((i + 1 : Nat) : Int) := by unfold wrap64; omega
  rw [this]
set_option maxHeartbeats 4000000 in
set_option maxRecDepth 100000 in
theorem wringerlaw15_ChanceLong.walk (a0 a1 : Int) (W : World) (w0 : (Lit.int .u16 a0).wf = true) (w1 : (Lit.int .u64 a1).wf = true) :
    Calls Try.prog 9 #[.int .u16 a0, .int .u64 a1] W fun e W' => e = .returned (.bool true) ∧ Below W.heap.size W W' := by
  obtain ⟨n, rfl⟩ : ∃ n : Nat, a0 = (n : Int) := ⟨a0.toNat, by have := u16_bounds _ w0; omega⟩
  obtain ⟨V, rfl⟩ : ∃ n : Nat, a1 = (n : Int) := ⟨a1.toNat, by have := u64_bounds _ w1; omega⟩
  have hVA : Aside0 (V < 18446744073709551616) := ⟨by have := u64_bounds _ w1; omega⟩
  have hn := u16_bounds _ w0
  clear w0 w1
  have hq : Int.tmod (n : Int) 1000 = ((n % 1000 : Nat) : Int) := by rfl
  obtain ⟨K, hK⟩ : ∃ q, n % 1000 = q := ⟨_, rfl⟩
  have hK9 : K ≤ 999 := by omega
  rw [hK] at hq
  have hd : Int.tdiv (K : Int) 64 = ((K / 64 : Nat) : Int) := by rw [Int.tdiv_eq_ediv_of_nonneg (by omega)]; omega
  obtain ⟨M, hM⟩ : ∃ q, K / 64 = q := ⟨_, rfl⟩
  have hM15 : M ≤ 15 := by omega
  rw [hM] at hd
  go_enter Try.func9, Try.ntmps9
  go_wp2_with fail
  refine (chance_New.calls _).mono ?_
  rintro r w1 ⟨g1, v1, rfl, hS, hg1, hb1⟩
  go_wp2_with fail
  refine (chance_New.calls _).mono ?_
  rintro r w2 ⟨g2, v2, rfl, hT, hg2, hb2⟩
  have HT := Aside0.mk (TwoE.made hS hb1 hT hg2 hb2)
  have HB := Aside0.mk (below_step hb1 hb2)
  have hG1 := Aside0.mk hg1
  have hG2 := Aside0.mk (Nat.le_trans hb1.size hg2)
  clear hS hT hg1 hg2 hb1 hb2
  go_wp2_with fail
  go_loopg [8] (K + 1) (fun kq v8 w' => ∃ (i : Nat) (v1 : Value), v8 = .int .i64 (i : Int) ∧ Aside0 (kq = K - i + 1) ∧ Aside0 (i ≤ K) ∧ Aside0 (TwoE w' W.heap.size g1 g2 (likE i) Enc.new v1 v2) ∧ Aside0 (Below W.heap.size W w'))
  case atStart => exact ⟨0, v1, rfl, ⟨rfl⟩, ⟨Nat.zero_le _⟩, HT, HB⟩
  case round =>
    clear HT HB
    obtain ⟨i, v1, rfl, hk, hi, HT, HB⟩ := hrel
    cases gk with
    | zero => exact absurd hk.out (by omega)
    | succ k1 =>
      have hi2 := hi.out
      by_cases hil : i < K
      · have hil1 := eq_true (show (i : Int) < (K : Int) by omega)
        go_wp2_with fail
        refine (enc_Bit.calls (likE i) v1 W.heap.size g1 4095 1 true rfl wr ⟨HT.out.a⟩ ⟨likE_ok i⟩ ⟨by have := (likE_at i (by omega)).2.1; omega⟩ ⟨HB.out.size⟩).mono ?_
        rintro r w3 ⟨rfl, v3, hS3, hm3⟩
        have HT3 := Aside0.mk (HT.out.first (show EncAt w3 W.heap.size g1 (likE (i + 1)) v3 from hS3) hm3)
        have HB3 : Aside0 (Below W.heap.size W w3) := ⟨hm3.to_below HB.out HB.out.size hG1.out HT.out.a.ge⟩
        clear hS3 hm3
        go_wp2_with fail
        go_roundg k1
        case measure => have := hk.out; omega
        case rel => exact ⟨i + 1, v3, by first | rfl | exact wrap_one i (by omega), ⟨by have := hk.out; omega⟩, ⟨hil⟩, HT3, HB3⟩
      · have hil1 := eq_false (show ¬ (i : Int) < (K : Int) by omega)
        obtain rfl : K = i := by omega
        clear hil hi2 hi hk
        go_wp2_with fail
        go_loopg [9] (M + 1) (fun kq v9 w' => ∃ (j : Nat) (v2 : Value), v9 = .int .i64 (j : Int) ∧ Aside0 (kq = M - j + 1) ∧ Aside0 (j ≤ M) ∧ Aside0 (TwoE w' W.heap.size g1 g2 (likE K) (dirsE V j) v1 v2) ∧ Aside0 (Below W.heap.size W w'))
        case atStart => exact ⟨0, v2, rfl, ⟨rfl⟩, ⟨Nat.zero_le _⟩, HT, HB⟩
        case round =>
          clear HT HB
          obtain ⟨j, v2, rfl, hk, hj, HT, HB⟩ := hrel
          cases gk with
          | zero => exact absurd hk.out (by omega)
          | succ k1 =>
            have hj2 := hj.out
            by_cases hjl : j < M
            · have hjl1 := eq_true (show (j : Int) < (M : Int) by omega)
              go_wp2_with fail
              refine (enc_Direct.calls (dirsE V j) v2 W.heap.size g2 V 64 _ hVA ⟨HT.out.b⟩ ⟨dirsE_ok V j⟩ ⟨by have := (dirsE_at V j).1; omega⟩ ⟨HB.out.size⟩).mono ?_
              rintro r w3 ⟨rfl, v3, hS3, hm3⟩
              rw [show lenN 64 = 64 by decide] at hS3
              have HT3 := Aside0.mk (HT.out.second (show EncAt w3 W.heap.size g2 (dirsE V (j + 1)) v3 from hS3) hm3)
              have HB3 : Aside0 (Below W.heap.size W w3) := ⟨hm3.to_below HB.out HB.out.size hG2.out HT.out.b.ge⟩
              clear hS3 hm3
              go_wp2_with fail
              go_roundg k1
              case measure => have := hk.out; omega
              case rel => exact ⟨j + 1, v3, by first | rfl | exact wrap_one j (by omega), ⟨by have := hk.out; omega⟩, ⟨hjl⟩, HT3, HB3⟩
            · have hjl1 := eq_false (show ¬ (j : Int) < (M : Int) by omega)
              obtain rfl : M = j := by omega
              clear hjl hj2 hj hk
              have hL1 := (likE_at K (by omega)).2.1
              have hL2 := (dirsE_at V M).1
              have hz1 : (strOfNums (beI ((likE K).L + 4) (likE K).V)).size = 5 := by rw [strOfNums_size, beI_length, hL1]
              have hz2 : (strOfNums (beI ((dirsE V M).L + 4) (dirsE V M).V)).size = 5 + M * 8 := by rw [strOfNums_size, beI_length, hL2]; omega
              have hLA : Aside0 (1 ≤ (likE K).L ∧ (likE K).L ≤ 1000000000) := ⟨by omega⟩
              have hLB : Aside0 (1 ≤ (dirsE V M).L ∧ (dirsE V M).L ≤ 1000000000) := ⟨by omega⟩
              clear hL1 hL2
              go_wp2_with fail
              refine (enc_Bytes.calls (likE K) v1 W.heap.size g1 _ ⟨HT.out.a⟩ hLA).mono ?_
              rintro r w3 ⟨rfl, hb⟩
              have HT3 := Aside0.mk (HT.out.below hb)
              have HB3 := Aside0.mk (below_step HB.out hb)
              clear hb HT HB
              generalize strOfNums (beI ((likE K).L + 4) (likE K).V) = S1 at *
              go_wp2_with fail
              refine (enc_Bytes.calls (dirsE V M) v2 W.heap.size g2 w3 ⟨HT3.out.b⟩ hLB).mono ?_
              rintro r w4 ⟨rfl, hb⟩
              have HB4 := Aside0.mk (below_step HB3.out hb)
              clear hb HT3 HB3
              generalize strOfNums (beI ((dirsE V M).L + 4) (dirsE V M).V) = S2 at *
              obtain ⟨z, hz⟩ : ∃ z, 5 + M * 8 = z := ⟨_, rfl⟩
              rw [hz] at hz2
              have hzz : (z : Int) = 5 + (M : Int) * 8 := by omega
              have hz1' : (S1.size : Int) = 5 := by omega
              have hz2' : (S2.size : Int) = (z : Int) := by omega
              go_wp2_with fail
              refine (enc_Bit.none 1 1 _).mono ?_
              rintro r w5 ⟨rfl, hb⟩
              have HB5 := Aside0.mk (below_step HB4.out hb)
              clear hb HB4
              go_wp2_with fail
              refine (enc_Direct.none 1 1 _).mono ?_
              rintro r w6 ⟨rfl, hb⟩
              have HB6 := Aside0.mk (below_step HB5.out hb)
              clear hb HB5
              go_wp2_with fail
              refine (dec_Bit.none 1 _).mono ?_
              rintro r w7 ⟨rfl, hb⟩
              have HB7 := Aside0.mk (below_step HB6.out hb)
              clear hb HB6
              go_wp2_with fail
              refine (dec_Direct.none 1 _).mono ?_
              rintro r w8 ⟨rfl, hb⟩
              have HB8 := Aside0.mk (below_step HB7.out hb)
              clear hb HB7
              go_wp2_with fail
              refine (enc_Bytes.none _).mono ?_
              rintro r w9 ⟨rfl, hb⟩
              have HB9 := Aside0.mk (below_step HB8.out hb)
              clear hb HB8
              go_wp2_with fail
              refine (wringerlaw1_Err.calls 6 6 _ rfl).mono ?_
              rintro r w10 ⟨rfl, hd⟩
              have HB10 := Aside0.mk (below_step HB9.out hd.below)
              clear hd HB9
              go_wp2_with fail
              refine (wringerlaw1_Err.calls 6 6 _ rfl).mono ?_
              rintro r w11 ⟨rfl, hd⟩
              have HB11 := Aside0.mk (below_step HB10.out hd.below)
              clear hd HB10
              go_wp2_with fail
              refine (dec_End.none _).mono ?_
              rintro r w12 ⟨rfl, hb⟩
              have HB12 := Aside0.mk (below_step HB11.out hb)
              clear hb HB11
              go_wp2_with fail
              refine (wringerlaw1_Err.calls 6 6 _ rfl).mono ?_
              rintro r w13 ⟨rfl, hd⟩
              have HB13 := Aside0.mk (below_step HB12.out hd.below)
              clear hd HB12
              go_wp2_with fail
              refine (awake15.calls _).mono ?_
              rintro r w14 ⟨rfl, hb⟩
              have HB14 := Aside0.mk (below_step HB13.out hb)
              clear hb HB13
              go_wp2
              go_ret
              exact ⟨rfl, HB14.out⟩
end Go.Proofs.Ytgldblakdhalkaa
