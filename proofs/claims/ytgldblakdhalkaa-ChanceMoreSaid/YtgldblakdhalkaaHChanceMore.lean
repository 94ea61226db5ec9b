/- ChanceMore walked: the call returns true, and of the memory that was there nothing turns. -/
import Derived.Test.YtgldblakdhalkaaGAwk
import Derived.Test.YtgldblakdhalkaaGAsks
namespace Go.Proofs.Ytgldblakdhalkaa
set_option linter.unusedVariables false
open Go.RowKit Go.Proofs.YtgldblakdhalkaaW.PrintWords Go.Proofs.YtgldblakdhalkaaW.PrintLast Go.Proofs.YtgldblakdhalkaaW.PrintMore Go.Proofs.Ytgldblakdhalkaa.PBase
theorem u8_bounds (a : Int) (h : (Lit.int .u8 a).wf = true) : 0 ≤ a ∧ a ≤ 255 := by
  simp only [Lit.wf, Bool.and_eq_true, decide_eq_true_eq] at h
  exact h
theorem hi_err (h : Nat) (h1 : 1 ≤ h) (h2 : h ≤ 255) : errE (strOfNums [(h : Int), 0, 0, 0, 0]) Enc.new = 3 := by
  have hn : numB (strOfNums [(h : Int), 0, 0, 0, 0]) 5 = h * 4294967296 := by
    have e0 : bn (strOfNums [(h : Int), 0, 0, 0, 0]) 0 = h := by
      unfold bn
      rw [lst_nums]
      show ((h : Int)).toNat % 256 = h
      omega
    show ((((0 * 256 + bn _ 0) * 256 + 0) * 256 + 0) * 256 + 0) * 256 + 0 = _
    rw [e0]
    omega
  unfold errE
  have hs : (strOfNums [(h : Int), 0, 0, 0, 0]).size = 5 := by rw [strOfNums_size]; rfl
  rw [hs, if_neg (by decide), if_pos]
  show 0 + 4294967295 ≤ numB _ 5
  rw [hn]
  omega
theorem g_err : errE ⟨#[0, 255, 255, 255, 255]⟩ Enc.new = 3 := by decide +kernel
set_option maxHeartbeats 4000000 in
set_option maxRecDepth 100000 in
theorem wringerlaw15_ChanceMore.walk (a0 a1 a2 : Int) (W : World) (w0 : (Lit.int .u8 a0).wf = true) (w1 : (Lit.int .i64 a1).wf = true) (w2 : (Lit.int .u8 a2).wf = true) :
    Calls Try.prog 7 #[.int .u8 a0, .int .i64 a1, .int .u8 a2] W fun e W' => e = .returned (.bool true) ∧ Below W.heap.size W W' := by
  have hu2 := Try.underlying95
  obtain ⟨n, rfl⟩ : ∃ n : Nat, a0 = (n : Int) := ⟨a0.toNat, by have := u8_bounds _ w0; omega⟩
  obtain ⟨h, rfl⟩ : ∃ n : Nat, a2 = (n : Int) := ⟨a2.toNat, by have := u8_bounds _ w2; omega⟩
  have hn := u8_bounds _ w0
  have hh := u8_bounds _ w2
  clear w0 w2
  have hq : Int.tmod (n : Int) 5 = ((n % 5 : Nat) : Int) := by rfl
  obtain ⟨q, hqq⟩ : ∃ q, n % 5 = q := ⟨_, rfl⟩
  have hq5 : q < 5 := by omega
  rw [hqq] at hq
  have hr : Int.tmod (h : Int) 255 = ((h % 255 : Nat) : Int) := by rfl
  obtain ⟨t, htt⟩ : ∃ q, h % 255 = q := ⟨_, rfl⟩
  have ht5 : (t : Int) < 255 := by omega
  rw [htt] at hr
  obtain ⟨y, hy⟩ : ∃ y, t + 1 = y := ⟨_, rfl⟩
  have hyw : IntKind.u8.wrap (1 + (t : Int)) = (y : Int) := by rw [IntKind.wrap_u8]; omega
  have hferr := hi_err y (by omega) (by omega)
  obtain ⟨F, hF⟩ : ∃ F, strOfNums [(y : Int), 0, 0, 0, 0] = F := ⟨_, rfl⟩
  have hFs : F.size = 5 := by rw [← hF, strOfNums_size]; rfl
  rw [hF] at hferr
  replace hF := Aside0.mk hF
  have hmk : (Instr.makeSlice 33 (.int .i64 (q : Int)) (.int .i64 (q : Int))).run Try.prog W = .ok (.slice (some ⟨W.heap.size, 0, none⟩) q q) (W.alloc (.cells (madeCells #[.int .u8 0] q) 5)) :=
    run_make_row (P := Try.prog) 33 5 Try.t5 (.int .u8 0) Try.underlying33 hi5 rfl rfl rfl .i64 .i64 q (by show 1 * q ≤ _; omega) (by omega) W
  obtain ⟨w1, hw1⟩ : ∃ w1, W.alloc (.cells (madeCells #[.int .u8 0] q) 5) = w1 := ⟨_, rfl⟩
  have hB1 : Below W.heap.size W w1 := by rw [← hw1]; exact below_alloc (Below.refl _ _) _
  have hcv : (convert 33 9 (.slice (some ⟨W.heap.size, 0, none⟩) q q)).run Try.prog w1 = .ok (.string (strOfNums (List.replicate q 0))) w1 := by
    have := conv_ints (P := Try.prog) w1 33 5 9 Try.underlying33 Try.underlying5 Try.underlying9 0 (.slice (some ⟨W.heap.size, 0, none⟩) q q) (List.replicate q 0) (by
      rw [List.length_replicate, ← hw1]
      refine ⟨by simp, .inr ⟨W.heap.size, q, _, rfl, Nat.zero_le _, blk_new W _, Nat.le_refl _, Nat.le_trans (show q ≤ 5 by omega) (by decide), by rw [size_madeCells, Nat.mul_one], ?_⟩⟩
      rcases (by omega : q = 0 ∨ q = 1 ∨ q = 2 ∨ q = 3 ∨ q = 4) with h | h | h | h | h <;> subst h <;> kernel_rfl)
    exact this
  rw [hw1] at hmk
  have hsz : (strOfNums (List.replicate q 0)).size ≤ 4 := by rw [strOfNums_size, List.length_replicate]; omega
  generalize strOfNums (List.replicate q 0) = S at *
  clear hw1
  have hserr : errE S Enc.new = 2 := by unfold errE; rw [if_pos]; show S.size < 5; omega
  have hsdir : dirS S (lenN 3) Enc.new 0 = (0, 2, Enc.new) := by
    rw [show lenN 3 = 2 + 1 from rfl, dirS_err S 2 Enc.new 0 (by rw [hserr]; decide), hserr]
  go_enter Try.func7, Try.ntmps7
  go_wp2_with fail
  have HB1 := Aside0.mk hB1
  clear hB1
  refine (chance_From.calls S w1).mono ?_
  rintro r w2 ⟨rfl, hD, hb⟩
  have Hd2 : Aside0 (LiveAt w2 w1.heap.size S Enc.new) := ⟨0, 0, hD, DecIn.start _⟩
  have HB2 := Aside0.mk (below_step HB1.out hb)
  have hld : w1.heap.size < w2.heap.size := dec_blk Hd2.out
  have hgd : W.heap.size ≤ w1.heap.size := HB1.out.size
  clear hD hb HB1 
  generalize w1.heap.size = gd at *
  go_wp2_with fail
  refine (chance_From.calls S w2).mono ?_
  rintro r w3 ⟨rfl, hD, hb⟩
  have He3 : Aside0 (LiveAt w3 w2.heap.size S Enc.new) := ⟨0, 0, hD, DecIn.start _⟩
  have Hd3 := Aside0.mk (Hd2.out.below hb)
  have HB3 := Aside0.mk (below_step HB2.out hb)
  have hle : w2.heap.size < w3.heap.size := dec_blk He3.out
  have hge : W.heap.size ≤ w2.heap.size := HB2.out.size
  clear hD hb HB2 Hd2
  generalize w2.heap.size = ge at *
  have hcv3 : (convert 33 9 (.slice (some ⟨w3.heap.size, 0, none⟩) 5 5)).run Try.prog (w3.alloc (.cells #[.int .u8 (y : Int), .int .u8 0, .int .u8 0, .int .u8 0, .int .u8 0] 5)) = .ok (.string F) (w3.alloc (.cells #[.int .u8 (y : Int), .int .u8 0, .int .u8 0, .int .u8 0, .int .u8 0] 5)) := by
    rw [← hF.out]
    exact conv_ints (P := Try.prog) _ 33 5 9 Try.underlying33 Try.underlying5 Try.underlying9 0 (.slice (some ⟨w3.heap.size, 0, none⟩) 5 5) [(y : Int), 0, 0, 0, 0] ⟨rfl, .inr ⟨w3.heap.size, 5, _, rfl, Nat.zero_le _, blk_new w3 _, Nat.le_refl _, by decide, rfl, rfl⟩⟩
  obtain ⟨wf, hwf⟩ : ∃ wf, w3.alloc (.cells #[.int .u8 (y : Int), .int .u8 0, .int .u8 0, .int .u8 0, .int .u8 0] 5) = wf := ⟨_, rfl⟩
  have hbf : Below w3.heap.size w3 wf := by rw [← hwf]; exact below_alloc (Below.refl _ _) _
  rw [hwf] at hcv3
  have hwfs : w3.heap.size ≤ wf.heap.size := hbf.size
  go_wp2_with fail
  have HBf := Aside0.mk (below_step HB3.out hbf)
  have Hdf := Aside0.mk (Hd3.out.below hbf)
  have Hef := Aside0.mk (He3.out.below hbf)
  clear hwf hbf HB3 Hd3 He3
  refine (chance_From.calls F wf).mono ?_
  rintro r w4 ⟨rfl, hD, hb⟩
  have Hf4 : Aside0 (LiveAt w4 wf.heap.size F Enc.new) := ⟨0, 0, hD, DecIn.start _⟩
  have Hd4 := Aside0.mk (Hdf.out.below hb)
  have He4 := Aside0.mk (Hef.out.below hb)
  have HB4 := Aside0.mk (below_step HBf.out hb)
  have hlf : wf.heap.size < w4.heap.size := dec_blk Hf4.out
  have hgf : W.heap.size ≤ wf.heap.size := HBf.out.size
  clear hD hb HBf Hdf Hef
  generalize wf.heap.size = gf at *
  go_wp2_with fail
  refine (chance_From.calls ⟨#[0, 255, 255, 255, 255]⟩ w4).mono ?_
  rintro r w5 ⟨rfl, hD, hb⟩
  have Hg5 : Aside0 (LiveAt w5 w4.heap.size ⟨#[0, 255, 255, 255, 255]⟩ Enc.new) := ⟨0, 0, hD, DecIn.start _⟩
  have Hd5 := Aside0.mk (Hd4.out.below hb)
  have He5 := Aside0.mk (He4.out.below hb)
  have Hf5 := Aside0.mk (Hf4.out.below hb)
  have HB5 := Aside0.mk (below_step HB4.out hb)
  have hlg : w4.heap.size < w5.heap.size := dec_blk Hg5.out
  have hgg : W.heap.size ≤ w4.heap.size := HB4.out.size
  clear hD hb HB4 Hd4 He4 Hf4
  generalize w4.heap.size = gg at *
  go_wp2_with fail
  refine (dec_Bit.err S Enc.new gd a1 w5 Hd5 ⟨Enc.new_ok⟩ ⟨by decide⟩ ⟨by omega⟩ 2 ⟨hserr⟩ (Or.inl rfl)).mono ?_
  rintro r w6 ⟨rfl, hD, hm⟩
  have Hd6 := Aside0.mk hD
  have He6 := Aside0.mk (He5.out.mine hm (by omega))
  have Hf6 := Aside0.mk (Hf5.out.mine hm (by omega))
  have Hg6 := Aside0.mk (Hg5.out.mine hm (by omega))
  have HB6 := Aside0.mk (Mine.to_below hm HB5.out HB5.out.size (fun k hk => by rw [hk]; exact hgd))
  go_wp2_with fail
  refine (dec_Bit.dead S gd a1 w6 Hd6).mono ?_
  rintro r w7 ⟨rfl, hb⟩
  have Hd7 := Aside0.mk (Hd6.out.below hb)
  have He7 := Aside0.mk (He6.out.below hb)
  have Hf7 := Aside0.mk (Hf6.out.below hb)
  have Hg7 := Aside0.mk (Hg6.out.below hb)
  have HB7 := Aside0.mk (below_step HB6.out hb)
  go_wp2_with fail
  refine (dec_Direct.live S Enc.new ge 3 w7 0 2 Enc.new ⟨hsdir⟩ He7 ⟨Enc.new_ok⟩ ⟨by decide⟩ ⟨by omega⟩).mono ?_
  rintro r w8 ⟨rfl, _, hD, hm⟩
  have Hd8 := Aside0.mk (Hd7.out.mine hm (by omega))
  have He8 := Aside0.mk (hD (by decide))
  have Hf8 := Aside0.mk (Hf7.out.mine hm (by omega))
  have Hg8 := Aside0.mk (Hg7.out.mine hm (by omega))
  have HB8 := Aside0.mk (Mine.to_below hm HB7.out HB7.out.size (fun k hk => by rw [hk]; exact hge))
  go_wp2_with fail
  refine (dec_Bit.err F Enc.new gf a1 w8 Hf8 ⟨Enc.new_ok⟩ ⟨by decide⟩ ⟨by omega⟩ 3 ⟨hferr⟩ (Or.inr rfl)).mono ?_
  rintro r w9 ⟨rfl, hD, hm⟩
  have Hd9 := Aside0.mk (Hd8.out.mine hm (by omega))
  have He9 := Aside0.mk (He8.out.mine hm (by omega))
  have Hg9 := Aside0.mk (Hg8.out.mine hm (by omega))
  have HB9 := Aside0.mk (Mine.to_below hm HB8.out HB8.out.size (fun k hk => by rw [hk]; exact hgf))
  go_wp2_with fail
  refine (dec_Bit.err ⟨#[0, 255, 255, 255, 255]⟩ Enc.new gg a1 w9 Hg9 ⟨Enc.new_ok⟩ ⟨by decide⟩ ⟨by decide⟩ 3 ⟨g_err⟩ (Or.inr rfl)).mono ?_
  rintro r w10 ⟨rfl, hD, hm⟩
  have Hd10 := Aside0.mk (Hd9.out.mine hm (by omega))
  have He10 := Aside0.mk (He9.out.mine hm (by omega))
  have HB10 := Aside0.mk (Mine.to_below hm HB9.out HB9.out.size (fun k hk => by rw [hk]; exact hgg))
  go_wp2_with fail
  refine (wringerlaw1_Err.calls 2 2 _ rfl).mono ?_
  rintro r w11 ⟨rfl, hd⟩
  have Hd11 := Aside0.mk (Hd10.out.below hd.below)
  have He11 := Aside0.mk (He10.out.below hd.below)
  have HB11 := Aside0.mk (below_step HB10.out hd.below)
  go_wp2_with fail
  refine (wringerlaw1_Err.calls 3 3 _ rfl).mono ?_
  rintro r w12 ⟨rfl, hd⟩
  have Hd12 := Aside0.mk (Hd11.out.below hd.below)
  have He12 := Aside0.mk (He11.out.below hd.below)
  have HB12 := Aside0.mk (below_step HB11.out hd.below)
  go_wp2_with fail
  refine (dec_End.dead S gd w12 Hd12).mono ?_
  rintro r w13 ⟨rfl, hb⟩
  have He13 := Aside0.mk (He12.out.below hb)
  have HB13 := Aside0.mk (below_step HB12.out hb)
  go_wp2_with fail
  refine (wringerlaw1_Err.calls 3 3 _ rfl).mono ?_
  rintro r w14 ⟨rfl, hd⟩
  have He14 := Aside0.mk (He13.out.below hd.below)
  have HB14 := Aside0.mk (below_step HB13.out hd.below)
  go_wp2_with fail
  refine (wringerlaw1_Err.calls 2 2 _ rfl).mono ?_
  rintro r w15 ⟨rfl, hd⟩
  have He15 := Aside0.mk (He14.out.below hd.below)
  have HB15 := Aside0.mk (below_step HB14.out hd.below)
  go_wp2_with fail
  refine (dec_End.dead S ge w15 He15).mono ?_
  rintro r w16 ⟨rfl, hb⟩
  have HB16 := Aside0.mk (below_step HB15.out hb)
  go_wp2_with fail
  refine (wringerlaw1_Err.calls 3 3 _ rfl).mono ?_
  rintro r w17 ⟨rfl, hd⟩
  have HB17 := Aside0.mk (below_step HB16.out hd.below)
  go_wp2_with fail
  refine (wringerlaw1_Err.calls 3 3 _ rfl).mono ?_
  rintro r w18 ⟨rfl, hd⟩
  have HB18 := Aside0.mk (below_step HB17.out hd.below)
  go_wp2_with fail
  refine (wringerlaw1_Err.calls 3 3 _ rfl).mono ?_
  rintro r w19 ⟨rfl, hd⟩
  have HB19 := Aside0.mk (below_step HB18.out hd.below)
  go_wp2_with fail
  refine (awake15.calls _).mono ?_
  rintro r w20 ⟨rfl, hb⟩
  have HB20 := Aside0.mk (below_step HB19.out hb)
  go_wp2
  go_ret
  exact ⟨rfl, HB20.out⟩
end Go.Proofs.Ytgldblakdhalkaa
