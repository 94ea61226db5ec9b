/- The law of the example: the call returns true. -/
import Derived.Test.YtgldblakdhalkaaGDdir
namespace Go.Proofs.Ytgldblakdhalkaa
set_option linter.unusedVariables false
open Go.RowKit Go.Proofs.YtgldblakdhalkaaW.PrintWords Go.Proofs.YtgldblakdhalkaaW.PrintLast Go.Proofs.YtgldblakdhalkaaW.PrintMore Go.Proofs.Ytgldblakdhalkaa.PBase
theorem beI_new : strOfNums (beI (Enc.new.L + 4) Enc.new.V) = ⟨#[0, 0, 0, 0, 0]⟩ := by decide +kernel
theorem ex1 : bitE 2048 true Enc.new = ⟨0, 1, 2147481600⟩ := by kernel_rfl
theorem ex2 : bitE 100 false ⟨0, 1, 2147481600⟩ = ⟨52428700, 1, 2095052900⟩ := by kernel_rfl
def exS : ByteArray := ⟨#[0, 3, 31, 255, 156]⟩
theorem exB : strOfNums (beI (1 + 4) 52428700) = exS := by decide +kernel
theorem exe1 : errE exS Enc.new = 0 := by decide +kernel
theorem exe2 : errE exS ⟨0, 1, 2147481600⟩ = 0 := by decide +kernel
theorem exb1 : decide (dE exS Enc.new < shareN Enc.new.R 2048) = true := by decide +kernel
theorem exb2 : decide (dE exS ⟨0, 1, 2147481600⟩ < shareN 2147481600 100) = false := by decide +kernel
theorem exend : endE exS ⟨52428700, 1, 2095052900⟩ = 0 := by decide +kernel
theorem exok1 : Enc.ok ⟨0, 1, 2147481600⟩ := by rw [← ex1]; exact bitE_ok Enc.new_ok _ _
theorem exok2 : Enc.ok ⟨52428700, 1, 2095052900⟩ := by rw [← ex2]; exact bitE_ok exok1 _ _
set_option maxHeartbeats 4000000 in
set_option maxRecDepth 100000 in
theorem awake15.calls (w : World) : Calls Try.prog 22 #[] w fun e w' => e = .returned (.bool true) ∧ Below w.heap.size w w' := by
  go_enter Try.func22, Try.ntmps22
  go_wp2_with fail
  refine (chance_New.calls _).mono ?_
  rintro r w1 ⟨g, v, rfl, hS, hg, hb⟩
  have HS := Aside0.mk hS
  have HB := Aside0.mk hb
  have hgg := Aside0.mk hg
  have hv := Aside0.mk hS.ge
  clear hS hb hg
  go_wp2_with fail
  refine (enc_Bytes.calls Enc.new v _ g w1 HS ⟨⟨by decide, by decide⟩⟩).mono ?_
  rintro r w2 ⟨rfl, hb⟩
  rw [beI_new]
  have HS2 := Aside0.mk (HS.out.below hb)
  have HB2 := Aside0.mk (below_step HB.out hb)
  clear hb HS HB
  go_wp2_with fail
  refine (enc_Bit.calls Enc.new v _ g 2048 1 true rfl w2 HS2 ⟨Enc.new_ok⟩ ⟨by decide⟩ ⟨HB2.out.size⟩).mono ?_
  rintro r w3 ⟨rfl, v3, hS3, hm3⟩
  rw [ex1] at hS3
  have HS3 := Aside0.mk hS3
  have HB3 := Aside0.mk (hm3.to_below HB2.out HB2.out.size hgg.out HS2.out.ge)
  clear hS3 hm3 HS2 HB2
  go_wp2_with fail
  refine (enc_Bit.calls ⟨0, 1, 2147481600⟩ v3 _ g 100 0 false rfl w3 HS3 ⟨exok1⟩ ⟨by decide⟩ ⟨HB3.out.size⟩).mono ?_
  rintro r w4 ⟨rfl, v4, hS4, hm4⟩
  rw [ex2] at hS4
  have HS4 := Aside0.mk hS4
  have HB4 := Aside0.mk (hm4.to_below HB3.out HB3.out.size hgg.out HS3.out.ge)
  clear hS4 hm4 HS3 HB3
  go_wp2_with fail
  refine (enc_Bytes.calls ⟨52428700, 1, 2095052900⟩ v4 _ g w4 HS4 ⟨⟨by decide, by decide⟩⟩).mono ?_
  rintro r w5 ⟨rfl, hb⟩
  rw [exB]
  have HB5 := Aside0.mk (below_step HB4.out hb)
  clear hb HS4 HB4
  go_wp2_with fail
  refine (chance_From.calls exS w5).mono ?_
  rintro r w6 ⟨rfl, hD, hb⟩
  have HD : Aside0 (LiveAt w6 w5.heap.size exS Enc.new) := ⟨0, 0, hD, DecIn.start _⟩
  have HB6 := Aside0.mk (below_step HB5.out hb)
  have hgd : Aside0 (w.heap.size ≤ w5.heap.size) := ⟨HB5.out.size⟩
  clear hD hb HB5
  generalize w5.heap.size = gd at *
  go_wp2_with fail
  refine (dec_Bit.ok exS Enc.new gd 2048 w6 HD ⟨Enc.new_ok⟩ ⟨by decide⟩ ⟨by decide⟩ ⟨exe1⟩ true exb1).mono ?_
  rintro r w7 ⟨rfl, hD, hm⟩
  rw [ex1] at hD
  have HD7 := Aside0.mk hD
  have HB7 := Aside0.mk (Mine.to_below hm HB6.out HB6.out.size (fun k hk => by rw [hk]; exact hgd.out))
  clear hD hm HB6 HD
  go_wp2_with fail
  refine (dec_Bit.ok exS ⟨0, 1, 2147481600⟩ gd 100 w7 HD7 ⟨exok1⟩ ⟨by decide⟩ ⟨by decide⟩ ⟨exe2⟩ false exb2).mono ?_
  rintro r w8 ⟨rfl, hD, hm⟩
  rw [ex2] at hD
  have HD8 := Aside0.mk hD
  have HB8 := Aside0.mk (Mine.to_below hm HB7.out HB7.out.size (fun k hk => by rw [hk]; exact hgd.out))
  clear hD hm HB7 HD7
  go_wp2_with fail
  refine (wringerlaw1_Err.calls 0 0 _ rfl).mono ?_
  rintro r w9 ⟨rfl, hd⟩
  have HB9 := Aside0.mk (below_step HB8.out hd.below)
  have HD9 := Aside0.mk (HD8.out.below hd.below)
  clear hd HB8 HD8
  go_wp2_with fail
  refine (wringerlaw1_Err.calls 0 0 _ rfl).mono ?_
  rintro r w10 ⟨rfl, hd⟩
  have HB10 := Aside0.mk (below_step HB9.out hd.below)
  have HD10 := Aside0.mk (HD9.out.below hd.below)
  clear hd HB9 HD9
  go_wp2_with fail
  refine (dec_End.live exS ⟨52428700, 1, 2095052900⟩ gd w10 HD10 ⟨exok2⟩ ⟨by decide⟩ ⟨by decide⟩ 0 ⟨exend⟩).mono ?_
  rintro r w11 ⟨rfl, _, _, hm⟩
  have HB11 := Aside0.mk (Mine.to_below hm HB10.out HB10.out.size (fun k hk => by rw [hk]; exact hgd.out))
  clear hm HB10 HD10
  go_wp2_with fail
  refine (wringerlaw1_Err.calls 0 0 _ rfl).mono ?_
  rintro r w12 ⟨rfl, hd⟩
  have HB12 := Aside0.mk (below_step HB11.out hd.below)
  clear hd HB11
  go_wp2
  go_ret
  exact ⟨rfl, HB12.out⟩
end Go.Proofs.Ytgldblakdhalkaa
