/- ChanceFirst walked: the call returns true, and of the memory that was there nothing turns. -/
import Derived.Test.YtgldblakdhalkaaGTwoE
import Derived.Test.YtgldblakdhalkaaGAwk
namespace Go.Proofs.Ytgldblakdhalkaa
set_option linter.unusedVariables false
open Go.RowKit Go.Proofs.YtgldblakdhalkaaW.PrintWords Go.Proofs.YtgldblakdhalkaaW.PrintLast Go.Proofs.YtgldblakdhalkaaW.PrintMore Go.Proofs.Ytgldblakdhalkaa.PBase
theorem mask_low (V K : Nat) (hV : V < 18446744073709551616) (hK : K ≤ 7) : Go.bits .and .u64 (V : Int) (IntKind.u64.wrap (IntKind.u64.wrap (2 ^ K) - 1)) = ((V % 2 ^ K : Nat) : Int) := by
  have e : IntKind.u64.wrap (IntKind.u64.wrap (2 ^ K) - 1) = ((2 ^ K - 1 : Nat) : Int) := by
    rcases (by omega : K = 0 ∨ K = 1 ∨ K = 2 ∨ K = 3 ∨ K = 4 ∨ K = 5 ∨ K = 6 ∨ K = 7) with h | h | h | h | h | h | h | h <;> subst h <;> rfl
  have hp : 2 ^ K ≤ 2 ^ 7 := Nat.pow_le_pow_right (by decide) hK
  rw [e, u64_and_nat _ _ hV (by omega), Nat.and_two_pow_sub_one_eq_mod]
set_option maxHeartbeats 4000000 in
set_option maxRecDepth 100000 in
theorem wringerlaw15_ChanceFirst.walk (a0 a1 : Int) (W : World) (w0 : (Lit.int .u8 a0).wf = true) (w1 : (Lit.int .u8 a1).wf = true) :
    Calls Try.prog 10 #[.int .u8 a0, .int .u8 a1] W fun e W' => e = .returned (.bool true) ∧ Below W.heap.size W W' := by
  have hu2 := Try.underlying95
  obtain ⟨V, rfl⟩ : ∃ n : Nat, a0 = (n : Int) := ⟨a0.toNat, by have := u8_bounds _ w0; omega⟩
  obtain ⟨n, rfl⟩ : ∃ n : Nat, a1 = (n : Int) := ⟨a1.toNat, by have := u8_bounds _ w1; omega⟩
  have hV := u8_bounds _ w0
  have hn := u8_bounds _ w1
  clear w0 w1
  have hq : Int.tmod (n : Int) 8 = ((n % 8 : Nat) : Int) := by rfl
  obtain ⟨K, hK⟩ : ∃ q, n % 8 = q := ⟨_, rfl⟩
  have hK7 : K ≤ 7 := by omega
  rw [hK] at hq
  have hw0 : wrap64 ((K : Int) - 1) = (K : Int) - 1 := by unfold wrap64; omega
  go_enter Try.func10, Try.ntmps10
  go_wp2_with fail
  refine (chance_New.calls _).mono ?_
  rintro r w1 ⟨g1, v1, rfl, hS, hg1, hb1⟩
  go_wp2_with fail
  refine (chance_New.calls _).mono ?_
  rintro r w2 ⟨g2, v2, rfl, hT, hg2, hb2⟩
  have HT := Aside0.mk (TwoE.made hS hb1 hT hg2 hb2)
  have HB := Aside0.mk (below_step hb1 hb2)
  have hG1 := Aside0.mk hg1
  have hG2 := Aside0.mk (Nat.le_trans hb1.size hg2)
  clear hS hT hg1 hg2 hb1 hb2
  go_wp2_with fail
  go_loopg [8] (K + 1) (fun kq v8 w' => ∃ (j : Nat) (f : Enc) (v2 : Value), v8 = .int .i64 ((j : Int) - 1) ∧ Aside0 (kq = j + 1) ∧ Aside0 (j ≤ 7) ∧ Aside0 (directE V j f = directE V K Enc.new) ∧ Aside0 f.ok ∧ Aside0 (f.L + 4 * j ≤ 1 + 4 * K) ∧ Aside0 (TwoE w' W.heap.size g1 g2 Enc.new f v1 v2) ∧ Aside0 (Below W.heap.size W w'))
  case atStart => exact ⟨K, Enc.new, v2, by first | rfl | rw [hw0], ⟨rfl⟩, ⟨hK7⟩, ⟨rfl⟩, ⟨Enc.new_ok⟩, ⟨Nat.le_refl _⟩, HT, HB⟩
  case round =>
    clear hw0 HT HB
    obtain ⟨j, f, v2, rfl, hk, hj, hd, hfo, hfL, HT, HB⟩ := hrel
    cases gk with
    | zero => exact absurd hk.out (by omega)
    | succ k1 =>
      cases j with
      | zero =>
        have hd0 := hd.out
        have hok : (directE V K Enc.new).ok := directE_ok V K _ Enc.new_ok
        have hL : (directE V K Enc.new).L ≤ 29 := by have := directE_L V K Enc.new; have h1 : Enc.new.L = 1 := rfl; omega
        have e0 : lenN (0 : Int) = 0 := by decide
        have e3 : lenN (-3 : Int) = 0 := by decide
        have eK : lenN (K : Int) = K := lenN_nat K (by omega)
        have hVA : Aside0 (V < 18446744073709551616) := ⟨by omega⟩
        have hdir := Says.direct V K Enc.new 0 Enc.new_ok (bytesE_says hok)
        have hsz : (bytesE (directE V K Enc.new)).size ≤ 33 := by rw [bytesE_size]; omega
        have hend := bytesE_end hok
        have hbd : strOfNums (beI ((directE V K Enc.new).L + 4) (directE V K Enc.new).V) = bytesE (directE V K Enc.new) := rfl
        rw [show directE V 0 f = f from rfl] at hd0
        subst hd0
        have hok' := Aside0.mk hok
        obtain ⟨E, hE⟩ : ∃ E, directE V K Enc.new = E := ⟨_, rfl⟩
        rw [hE] at hok' hL hdir hsz hend hbd HT
        obtain ⟨S, hS⟩ : ∃ S, bytesE E = S := ⟨_, rfl⟩
        rw [hS] at hdir hsz hend hbd
        rw [Nat.zero_mul, Nat.zero_add] at hdir
        obtain ⟨M, hM⟩ : ∃ M, V % 2 ^ K = M := ⟨_, rfl⟩
        rw [hM] at hdir
        have HE := Aside0.mk hE
        have HSS := Aside0.mk hS
        have HMM := Aside0.mk hM
        have HL := Aside0.mk hL
        have HBD := Aside0.mk hbd
        have HEND := Aside0.mk hend
        have HDIR := Aside0.mk hdir
        clear hok hfo hd hfL hE hS hM hL hbd hend hdir
        go_wp2_with fail
        refine (enc_Direct.calls Enc.new v1 W.heap.size g1 V (K : Int) wr hVA ⟨HT.out.a⟩ ⟨Enc.new_ok⟩ ⟨by decide⟩ ⟨HB.out.size⟩).mono ?_
        rintro r w3 ⟨rfl, v3, hS3, hm3⟩
        rw [eK, HE.out] at hS3
        have HT3 := Aside0.mk (HT.out.first hS3 hm3)
        have HB3 : Aside0 (Below W.heap.size W w3) := ⟨hm3.to_below HB.out HB.out.size hG1.out HT.out.a.ge⟩
        clear hS3 hm3 HT HB
        go_wp2_with fail
        refine (enc_Direct.calls E v3 W.heap.size g1 V 0 w3 hVA ⟨HT3.out.a⟩ hok' ⟨by have := HL.out; omega⟩ ⟨HB3.out.size⟩).mono ?_
        rintro r w4 ⟨rfl, v4, hS4, hm4⟩
        rw [e0] at hS4
        have HT4 := Aside0.mk (HT3.out.first (show EncAt w4 W.heap.size g1 E v4 from hS4) hm4)
        have HB4 : Aside0 (Below W.heap.size W w4) := ⟨hm4.to_below HB3.out HB3.out.size hG1.out HT3.out.a.ge⟩
        clear hS4 hm4 HT3 HB3
        go_wp2_with fail
        refine (enc_Direct.calls E v4 W.heap.size g1 1 (-3) w4 ⟨by decide⟩ ⟨HT4.out.a⟩ hok' ⟨by have := HL.out; omega⟩ ⟨HB4.out.size⟩).mono ?_
        rintro r w5 ⟨rfl, v5, hS5, hm5⟩
        rw [e3] at hS5
        have HT5 := Aside0.mk (HT4.out.first (show EncAt w5 W.heap.size g1 E v5 from hS5) hm5)
        have HB5 : Aside0 (Below W.heap.size W w5) := ⟨hm5.to_below HB4.out HB4.out.size hG1.out HT4.out.a.ge⟩
        clear hS5 hm5 HT4 HB4
        go_wp2_with fail
        have hL1 : Aside0 (1 ≤ E.L ∧ E.L ≤ 1000000000) := ⟨hok'.out.1, by have := HL.out; omega⟩
        refine (enc_Bytes.calls E v5 W.heap.size g1 w5 ⟨HT5.out.a⟩ hL1).mono ?_
        rintro r w6 ⟨rfl, hb⟩
        rw [HBD.out]
        have HT6 := Aside0.mk (HT5.out.below hb)
        have HB6 := Aside0.mk (below_step HB5.out hb)
        clear hb HT5 HB5
        go_wp2_with fail
        refine (chance_From.calls S w6).mono ?_
        rintro r w7 ⟨rfl, hD, hb⟩
        have HD7 : Aside0 (LiveAt w7 w6.heap.size S Enc.new) := ⟨0, 0, hD, DecIn.start _⟩
        have HT7 := Aside0.mk (HT6.out.below hb)
        have HB7 := Aside0.mk (below_step HB6.out hb)
        have hgd : Aside0 (W.heap.size ≤ w6.heap.size) := ⟨HB6.out.size⟩
        have hgd6 := Aside0.mk (Nat.le_refl w6.heap.size)
        clear hD hb HB6
        obtain ⟨gd, hgdd⟩ : ∃ gd, w6.heap.size = gd := ⟨_, rfl⟩
        have hgd6 : Aside0 (w6.heap.size ≤ gd) := ⟨by omega⟩
        rw [hgdd] at HD7 hgd ⊢
        clear hgdd
        go_wp2_with fail
        refine (dec_Direct.live S Enc.new gd 0 w7 0 0 Enc.new ⟨by rw [e0]; rfl⟩ HD7 ⟨Enc.new_ok⟩ ⟨by decide⟩ ⟨by omega⟩).mono ?_
        rintro r w8 ⟨rfl, hl, _, hm⟩
        have HD8 := Aside0.mk (hl rfl).1
        have HT8 := Aside0.mk (HT7.out.past HT6.out hgd6.out hm)
        have HB8 := Aside0.mk (Mine.to_below hm HB7.out HB7.out.size (fun k hk => by rw [hk]; exact hgd.out))
        clear hl hm HD7 HB7 HT7
        go_wp2_with fail
        refine (dec_Direct.live S Enc.new gd (K : Int) w8 M 0 E ⟨by rw [eK]; exact HDIR.out⟩ HD8 ⟨Enc.new_ok⟩ ⟨by decide⟩ ⟨by omega⟩).mono ?_
        rintro r w9 ⟨rfl, hl, _, hm⟩
        have HD9 := Aside0.mk (hl rfl).1
        have HT9 := Aside0.mk (HT8.out.past HT6.out hgd6.out hm)
        have HB9 := Aside0.mk (Mine.to_below hm HB8.out HB8.out.size (fun k hk => by rw [hk]; exact hgd.out))
        clear hl hm HD8 HB8 HT8
        go_wp2_with fail
        refine (enc_Bytes.calls E v5 W.heap.size g1 w9 ⟨HT9.out.a⟩ hL1).mono ?_
        rintro r w10 ⟨rfl, hb⟩
        rw [HBD.out]
        have HT10 := Aside0.mk (HT9.out.below hb)
        have HD10 := Aside0.mk (HD9.out.below hb)
        have HB10 := Aside0.mk (below_step HB9.out hb)
        clear hb HT9 HB9 HD9
        go_wp2_with fail
        refine (enc_Bytes.calls E v2 W.heap.size g2 w10 ⟨HT10.out.b⟩ hL1).mono ?_
        rintro r w11 ⟨rfl, hb⟩
        rw [HBD.out]
        have HD11 := Aside0.mk (HD10.out.below hb)
        have HB11 := Aside0.mk (below_step HB10.out hb)
        clear hb HT10 HB10 HD10
        go_wp2_with fail
        refine (wringerlaw1_Err.calls 0 0 _ rfl).mono ?_
        rintro r w12 ⟨rfl, hd⟩
        have HB12 := Aside0.mk (below_step HB11.out hd.below)
        have HD12 := Aside0.mk (HD11.out.below hd.below)
        clear hd HB11 HD11
        go_wp2_with fail
        refine (wringerlaw1_Err.calls 0 0 _ rfl).mono ?_
        rintro r w13 ⟨rfl, hd⟩
        have HB13 := Aside0.mk (below_step HB12.out hd.below)
        have HD13 := Aside0.mk (HD12.out.below hd.below)
        clear hd HB12 HD12
        have hmask := mask_low V K hVA.out hK7
        rw [HMM.out] at hmask
        go_wp2_with fail
        refine (dec_End.live S E gd w13 HD13 hok' ⟨by have := HL.out; omega⟩ ⟨by omega⟩ 0 HEND).mono ?_
        rintro r w14 ⟨rfl, hl, _, hm⟩
        have HB14 := Aside0.mk (Mine.to_below hm HB13.out HB13.out.size (fun k hk => by rw [hk]; exact hgd.out))
        clear hl hm HB13
        go_wp2_with fail
        refine (wringerlaw1_Err.calls 0 0 _ rfl).mono ?_
        rintro r w15 ⟨rfl, hd⟩
        have HB15 := Aside0.mk (below_step HB14.out hd.below)
        clear hd
        go_wp2_with fail
        refine (awake15.calls _).mono ?_
        rintro r w16 ⟨rfl, hb⟩
        go_wp2
        go_ret
        exact ⟨rfl, below_step HB15.out hb⟩
      | succ j =>
        have e1 : ((j + 1 : Nat) : Int) - 1 = (j : Int) := by omega
        rw [e1]
        have hj0 := eq_true (show (0 : Int) ≤ (j : Int) by omega)
        obtain ⟨x, hx⟩ : ∃ x, V / 2 ^ j = x := ⟨_, rfl⟩
        have hxl : x < 18446744073709551616 := by rw [← hx]; exact Nat.lt_of_le_of_lt (Nat.div_le_self _ _) (by omega)
        have hsh : (V : Int) / 2 ^ min j 64 = (x : Int) := by
          rw [Nat.min_eq_left (by have := hj.out; omega), ← hx]
          norm_cast
        obtain ⟨y, hy⟩ : ∃ y, x % 2 = y := ⟨_, rfl⟩
        have hand : Go.bits .and .u64 (x : Int) 1 = (y : Int) := by rw [and1 x hxl, hy]
        go_wp2_with fail
        refine (enc_Direct.calls f v2 W.heap.size g2 y 1 wr ⟨by omega⟩ ⟨HT.out.b⟩ hfo ⟨by have := hfL.out; omega⟩ ⟨HB.out.size⟩).mono ?_
        rintro r w3 ⟨rfl, v3, hS3, hm3⟩
        have hE1 : directE y (lenN 1) f = halfE (x % 2 == 1) f := by
          have e : lenN 1 = 1 := by decide
          rw [e]
          show halfE (y / 2 ^ 0 % 2 == 1) f = _
          rw [Nat.pow_zero, Nat.div_one, ← hy, Nat.mod_mod]
        rw [hE1] at hS3
        have HT3 := Aside0.mk (HT.out.second hS3 hm3)
        have HB3 : Aside0 (Below W.heap.size W w3) := ⟨hm3.to_below HB.out HB.out.size hG2.out HT.out.b.ge⟩
        have hdj : directE V (j + 1) f = directE V j (halfE (x % 2 == 1) f) := by rw [← hx]; rfl
        clear hS3 hm3
        go_wp2_with fail
        go_roundg k1
        case measure => have := hk.out; omega
        case rel => exact ⟨j, _, v3, first_wrap j (by have := hj.out; omega), ⟨by have := hk.out; omega⟩, ⟨by have := hj.out; omega⟩, ⟨hdj.symm.trans hd.out⟩, ⟨halfE_ok hfo.out _⟩, ⟨by have := halfE_L (x % 2 == 1) f; have := hfL.out; omega⟩, HT3, HB3⟩
end Go.Proofs.Ytgldblakdhalkaa
