/- ChancePut walked: the call returns true, and of the memory that was there nothing turns. -/
import Derived.Test.YtgldblakdhalkaaGOpen
namespace Go.Proofs.Ytgldblakdhalkaa
set_option linter.unusedVariables false
open Go.RowKit Go.Proofs.YtgldblakdhalkaaW.PrintWords Go.Proofs.YtgldblakdhalkaaW.PrintLast Go.Proofs.YtgldblakdhalkaaW.PrintMore Go.Proofs.Ytgldblakdhalkaa.PBase
set_option maxHeartbeats 4000000 in
set_option maxRecDepth 100000 in
theorem chancePut_main (A : Option Addr) (len cap : Nat) (W : World) (hr : Aside0 (IsAsks W A len)) (hln : len ≤ 120) :
    Calls Try.prog 5 #[.slice A len cap] W fun e w' => e = .returned (.bool true) ∧ Below W.heap.size W w' := by
  have hu37 := Try.underlying37
  have hu43 := Try.underlying44
  have hl1 : decide ((len : Int) > 120) = false := decide_eq_false (by omega)
  go_enter Try.func5, Try.ntmps5
  go_wp2_with fail
  refine (chance_New.calls _).mono ?_
  rintro r w1 ⟨g1, v1, rfl, hS, hg, hb⟩
  have HS := Aside0.mk hS
  have HB := Aside0.mk hb
  have hg1 := Aside0.mk hg
  clear hS hb hg
  go_wp2_with fail
  refine (ref_New.calls _).mono ?_
  rintro r w2 ⟨g2, v2, rfl, hT, hg, hb⟩
  have hap : Apart g1 v1 g2 v2 := by
    intro k h1 h2
    have h3 := HS.out.lt2 k h1
    rcases h2 with h2 | h2
    · omega
    · have := hT.ge k h2; omega
  have HP : Aside0 (Pair w2 W.heap.size g1 g2 Enc.new v1 v2) := ⟨⟨HS.out.below hb, ⟨hT.blk, own_base hT.own HB.out.size, hT.far⟩, hap⟩⟩
  have HB2 := Aside0.mk (below_step HB.out hb)
  have hg2 : Aside0 (W.heap.size ≤ g2) := ⟨Nat.le_trans HB.out.size hg⟩
  clear hT hb hg hap HS HB
  go_wp2_with fail
  go_loopg [5] (len + 1) (fun kq v5 w' => ∃ (i : Nat) (e : Enc) (v1 v2 : Value), v5 = .int .i64 (i : Int) ∧ Aside0 (kq = len - i + 1) ∧ Aside0 (i ≤ len) ∧ Aside0 e.ok ∧ Aside0 (e.L ≤ 1 + 256 * i) ∧ Aside0 (Pair w' W.heap.size g1 g2 e v1 v2) ∧ Aside0 (Below W.heap.size W w'))
  case atStart => exact ⟨0, Enc.new, v1, v2, rfl, ⟨rfl⟩, ⟨Nat.zero_le _⟩, ⟨Enc.new_ok⟩, ⟨by decide⟩, HP, HB2⟩
  case round =>
    clear HP HB2
    obtain ⟨i, e, u1, u2, rfl, hk, hi, hok, hL, HP, HB⟩ := hrel
    cases gk with
    | zero => exact absurd hk.out (by omega)
    | succ k1 =>
      have hi2 := hi.out
      by_cases hil : i < len
      · have hil1 := eq_true (show (i : Int) < (len : Int) by omega)
        have hi0 := eq_true (show (0 : Int) ≤ (i : Int) by omega)
        obtain ⟨x, p, bit, n, V, rfl, hA⟩ := hr.out i hil
        have HA := Aside0.mk (hA.below HB.out)
        have HW := Aside0.mk hA
        have hcp := HA.out.cp
        have hcb := HA.out.cbit
        have hcn := HA.out.cn
        have hcv := HA.out.cv
        have hVl := Aside0.mk hA.lt
        have hLb : Aside0 (e.L ≤ 900000000) := ⟨by have := hL.out; omega⟩
        clear hA
        by_cases hn0 : n = 0
        · have hnb : (n != 0) = false := by rw [hn0]; rfl
          go_wp2_with fail
          go_region_with (first | (go_at_call 26; refine (enc_Bit.calls e u1 W.heap.size g1 p bit (bit != 0) rfl _ ⟨HP.out.drew.a⟩ hok ⟨by have := hLb.out; omega⟩ ⟨HB.out.size⟩).mono ?_; rintro r w3 ⟨rfl, u3, hE3, hm3⟩; have HH := Aside0.mk (HP.out.drew.first hE3 hm3); have HB3 : Aside0 (Below W.heap.size W w3) := ⟨hm3.to_below (Below.drew HB.out) HB.out.size hg1.out HP.out.a.ge⟩; have HA3 := Aside0.mk (HW.out.below HB3.out); clear hE3 hm3))
          all_goals
            have hcp := HA3.out.cp
            have hcb := HA3.out.cbit
            have hcn := HA3.out.cn
            have hcv := HA3.out.cv
            go_wp2_with fail
            go_region_with (first | (go_at_call 27; refine (ref_Bit.calls e u2 W.heap.size g2 p bit (bit != 0) rfl _ ⟨HH.out.drew.b⟩ hok ⟨by have := hLb.out; omega⟩ ⟨HB3.out.size⟩).mono ?_; rintro r w4 ⟨rfl, u4, hE4, hm4⟩; have HP4 := Aside0.mk (HH.out.drew.second hE4 hm4); have HB4 : Aside0 (Below W.heap.size W w4) := ⟨hm4.to_below (Below.drew HB3.out) HB3.out.size hg2.out HH.out.b.ge⟩; clear hE4 hm4))
            all_goals
              go_wp2_with fail
              refine (enc_Bytes.calls (bitE p (bit != 0) e) u3 _ g1 w4 ⟨HP4.out.a⟩ ⟨⟨(bitE_ok hok.out p (bit != 0)).1, by have := hL.out; have := bitE_L p (bit != 0) e; omega⟩⟩).mono ?_
              rintro r w5 ⟨rfl, hb5⟩
              have HP5 := Aside0.mk (HP4.out.below hb5)
              have HB5 := Aside0.mk (below_step HB4.out hb5)
              go_wp2_with fail
              refine (ref_Bytes.calls (bitE p (bit != 0) e) u4 _ g2 w5 ⟨HP5.out.b⟩).mono ?_
              rintro r w6 ⟨rfl, hb6⟩
              have HP6 := Aside0.mk (HP5.out.below hb6)
              have HB6 := Aside0.mk (below_step HB5.out hb6)
              go_wp2_with fail
              go_roundg k1
              case measure => have := hk.out; omega
              case rel => exact ⟨i + 1, bitE p (bit != 0) e, u3, u4, rfl, ⟨by have := hk.out; omega⟩, ⟨hil⟩, ⟨bitE_ok hok.out p (bit != 0)⟩, ⟨by have := hL.out; have := bitE_L p (bit != 0) e; omega⟩, HP6, HB6⟩
        · have hnb : (n != 0) = true := bne_iff_ne.2 hn0
          go_wp2_with fail
          go_region_with (first | (go_at_call 24; refine (enc_Direct.calls e u1 W.heap.size g1 V n _ hVl ⟨HP.out.drew.a⟩ hok hLb ⟨HB.out.size⟩).mono ?_; rintro r w3 ⟨rfl, u3, hE3, hm3⟩; have HH := Aside0.mk (HP.out.drew.first hE3 hm3); have HB3 : Aside0 (Below W.heap.size W w3) := ⟨hm3.to_below (Below.drew HB.out) HB.out.size hg1.out HP.out.a.ge⟩; have HA3 := Aside0.mk (HW.out.below HB3.out); clear hE3 hm3))
          all_goals
            have hcp := HA3.out.cp
            have hcb := HA3.out.cbit
            have hcn := HA3.out.cn
            have hcv := HA3.out.cv
            go_wp2_with fail
            go_region_with (first | (go_at_call 25; refine (ref_Direct.calls e u2 W.heap.size g2 V n _ hVl ⟨HH.out.drew.b⟩ hok hLb ⟨HB3.out.size⟩).mono ?_; rintro r w4 ⟨rfl, u4, hE4, hm4⟩; have HP4 := Aside0.mk (HH.out.drew.second hE4 hm4); have HB4 : Aside0 (Below W.heap.size W w4) := ⟨hm4.to_below (Below.drew HB3.out) HB3.out.size hg2.out HH.out.b.ge⟩; have HA4 := Aside0.mk (HW.out.below HB4.out); have hcp4 := HA4.out.cp; have hcv4 := HA4.out.cv; have hcn4 := HA4.out.cn; have hcb4 := HA4.out.cbit; clear hE4 hm4))
            all_goals
              go_wp2_with fail
              refine (enc_Bytes.calls (directE V (lenN n) e) u3 _ g1 w4 ⟨HP4.out.a⟩ ⟨⟨(directE_ok V (lenN n) e hok.out).1, by have := hL.out; have := directE_L V (lenN n) e; have := lenN_le n; omega⟩⟩).mono ?_
              rintro r w5 ⟨rfl, hb5⟩
              have HP5 := Aside0.mk (HP4.out.below hb5)
              have HB5 := Aside0.mk (below_step HB4.out hb5)
              go_wp2_with fail
              refine (ref_Bytes.calls (directE V (lenN n) e) u4 _ g2 w5 ⟨HP5.out.b⟩).mono ?_
              rintro r w6 ⟨rfl, hb6⟩
              have HP6 := Aside0.mk (HP5.out.below hb6)
              have HB6 := Aside0.mk (below_step HB5.out hb6)
              go_wp2_with fail
              go_roundg k1
              case measure => have := hk.out; omega
              case rel => exact ⟨i + 1, directE V (lenN n) e, u3, u4, rfl, ⟨by have := hk.out; omega⟩, ⟨hil⟩, ⟨directE_ok V (lenN n) e hok.out⟩, ⟨by have := hL.out; have := directE_L V (lenN n) e; have := lenN_le n; omega⟩, HP6, HB6⟩
      · have hil1 := eq_false (show ¬ (i : Int) < (len : Int) by omega)
        go_wp2_with fail
        refine (awake15.calls _).mono ?_
        rintro r w9 ⟨rfl, hb9⟩
        go_wp2
        go_ret
        exact ⟨rfl, below_step HB.out hb9⟩
theorem chancePut_out (A : Option Addr) (len cap : Nat) (W : World) (hln : 120 < len) :
    Calls Try.prog 5 #[.slice A len cap] W fun e w' => e = .returned (.bool true) ∧ Below W.heap.size W w' := by
  have hl1 : decide ((len : Int) > 120) = true := decide_eq_true (by omega)
  go_enter Try.func5, Try.ntmps5
  go_wp2_with fail
  refine (chance_New.calls _).mono ?_
  rintro r w1 ⟨g1, v1, rfl, _, _, hb⟩
  go_wp2_with fail
  refine (awake15.calls _).mono ?_
  rintro r w9 ⟨rfl, hb9⟩
  go_wp2
  go_ret
  exact ⟨rfl, below_step hb hb9⟩
theorem wringerlaw15_ChancePut.walk (a0 : Option Addr) (len0 cap0 : Nat) (W : World) (w0 : IsAsks W a0 len0) :
    Calls Try.prog 5 #[.slice a0 len0 cap0] W fun e W' => e = .returned (.bool true) ∧ Below W.heap.size W W' := by
  by_cases h : len0 ≤ 120
  · exact chancePut_main a0 len0 cap0 W ⟨w0⟩ h
  · exact chancePut_out a0 len0 cap0 W (by omega)
end Go.Proofs.Ytgldblakdhalkaa
