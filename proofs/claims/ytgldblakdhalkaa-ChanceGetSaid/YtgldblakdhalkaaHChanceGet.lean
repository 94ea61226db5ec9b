/- ChanceGet walked: the call returns true, and of the memory that was there nothing turns. -/
import Derived.Test.YtgldblakdhalkaaGRddir
namespace Go.Proofs.Ytgldblakdhalkaa
set_option linter.unusedVariables false
open Go.RowKit Go.Proofs.YtgldblakdhalkaaW.PrintWords Go.Proofs.YtgldblakdhalkaaW.PrintLast Go.Proofs.YtgldblakdhalkaaW.PrintMore Go.Proofs.Ytgldblakdhalkaa.PBase
theorem err_same (a : Int) (w : World) : Calls Try.prog 17 #[.int .i64 a] w fun e w' => e = .returned (.int .i64 a) ∧ w' = w := by
  go_enter Try.func17, Try.ntmps17
  go_wp2
  go_ret
  exact ⟨rfl, rfl⟩
theorem up_ {W w : World} {gd : Nat} (h : Below gd W w) (hg : W.heap.size = gd) : gd ≤ w.heap.size := by rw [← hg]; exact h.size
/-- A decoder and the reference's reader at one state. -/
structure Twin (w : World) (B gd g gc : Nat) (s : ByteArray) (v : Value) (e : Enc) : Prop where
  live : LiveAt w gd s e
  read : ReadAt w B g gc s e v
  apart : ¬ rfoot g gc v gd
  up : ∀ k, rfoot g gc v k → B ≤ k
  ok : e.ok
theorem Twin.below {w w' : World} {B gd g gc : Nat} {s : ByteArray} {v : Value} {e : Enc} (h : Twin w B gd g gc s v e) (hb : Below w.heap.size w w') : Twin w' B gd g gc s v e :=
  ⟨h.live.below hb, h.read.below hb, h.apart, h.up, h.ok⟩
/-- Both went one step. -/
theorem Twin.step {w w1 w2 : World} {B gd g gc : Nat} {s : ByteArray} {v v' : Value} {e f : Enc} (h : Twin w B gd g gc s v e) (hl : LiveAt w1 gd s f) (hr : ReadAt w2 B g gc s f v') (hm : RMoved g gc w1 v w2 v') (hok : f.ok) (hB : B ≤ w1.heap.size) : Twin w2 B gd g gc s v' f := by
  refine ⟨hl.mine hm.mine h.apart, hr, ?_, ?_, hok⟩
  · intro hk
    rcases hm.foot gd hk with h1 | h1
    · exact h.apart h1
    · have := dec_blk hl; omega
  · intro k hk
    rcases hm.foot k hk with h1 | h1
    · exact h.up k h1
    · omega
set_option maxHeartbeats 4000000 in
set_option maxRecDepth 100000 in
theorem chanceGet_main (s : ByteArray) (A : Option Addr) (len cap : Nat) (W : World) (hr : Aside0 (IsAsks W A len)) (hln : len ≤ 80) (hsz : s.size ≤ 200) :
    Calls Try.prog 6 #[.string s, .slice A len cap] W fun e w' => e = .returned (.bool true) ∧ Below W.heap.size W w' := by
  have hu37 := Try.underlying37
  have hu43 := Try.underlying44
  have hu56 := Try.underlying56
  have hl1 : decide ((len : Int) > 80) = false := decide_eq_false (by omega)
  have hl2 : decide ((s.size : Int) > 200) = false := decide_eq_false (by omega)
  have HSZ : Aside0 (s.size ≤ 1000000000) := ⟨by omega⟩
  go_enter Try.func6, Try.ntmps6
  go_wp2_with fail
  refine (chance_From.calls s _).mono ?_
  rintro r w1 ⟨rfl, hD, hb⟩
  have HD : Aside0 (LiveAt w1 W.heap.size s Enc.new) := ⟨0, 0, hD, DecIn.start _⟩
  have HB := Aside0.mk hb
  obtain ⟨gd, hgd⟩ : ∃ gd, W.heap.size = gd := ⟨_, rfl⟩
  have HGD := Aside0.mk hgd
  rw [hgd] at HD HB ⊢
  clear hgd
  have hsz1 : Aside0 (gd ≤ w1.heap.size) := ⟨by rw [← HGD.out]; exact HB.out.size⟩
  clear hD hb
  go_wp2_with fail
  refine (ref_From.calls s w1).mono ?_
  rintro r w2 ⟨g, gc, v, rfl, hS, hf, hb⟩
  have HT : Aside0 (Twin w2 gd gd g gc s v Enc.new) := ⟨⟨HD.out.below hb, ⟨hS.blk, ⟨hS.cod.blk, own_base hS.cod.own hsz1.out, hS.cod.far⟩, hS.ne, hS.far, hS.told⟩, fun h => by have := hf gd h; have := dec_blk HD.out; omega, fun k hk => Nat.le_trans hsz1.out (hf k hk), Enc.new_ok⟩⟩
  have HB2 := Aside0.mk (below_then HB.out hsz1.out hb)
  clear hS hf hb HD HB
  go_wp2_with fail
  go_loopg [7] (len + 1) (fun kq v7 w' => ∃ (i : Nat), v7 = .int .i64 (i : Int) ∧ Aside0 (kq = len - i + 1) ∧ Aside0 (i ≤ len) ∧ Aside0 ((∃ e u, Twin w' gd gd g gc s u e ∧ e.L ≤ 1 + 260 * i) ∨ (DeadAt w' gd s ∧ BadAt w' g s)) ∧ Aside0 (Below gd W w'))
  case atStart => exact ⟨0, rfl, ⟨rfl⟩, ⟨Nat.zero_le _⟩, ⟨Or.inl ⟨_, _, HT.out, by decide⟩⟩, HB2⟩
  case round =>
    clear HT HB2
    obtain ⟨i, rfl, hk, hi, hor, HB⟩ := hrel
    cases gk with
    | zero => exact absurd hk.out (by omega)
    | succ k1 =>
      have hi2 := hi.out
      have HBW : Aside0 (Below W.heap.size W wr) := ⟨by rw [HGD.out]; exact HB.out⟩
      by_cases hil : i < len
      · have hil1 := eq_true (show (i : Int) < (len : Int) by omega)
        have hi0 := eq_true (show (0 : Int) ≤ (i : Int) by omega)
        obtain ⟨x, p, bit, n, V0, rfl, hA⟩ := hr.out i hil
        have HA := Aside0.mk (hA.below HBW.out)
        have HW := Aside0.mk hA
        have hcp := HA.out.cp
        have hcn := HA.out.cn
        clear hA
        rcases hor.out with ⟨e, u, hT, hL0⟩ | ⟨hdead, hbad⟩
        · have HT := Aside0.mk hT
          have hL := Aside0.mk hL0
          clear hT hL0 hor
          by_cases hn0 : n = 0
          · have hnb : (n != 0) = false := by rw [hn0]; rfl
            clear hn0
            rcases errE_small s e with he | he
            · have HE := Aside0.mk he
              clear he
              cases hbb : decide (dE s e < shareN e.R p)
              · have HBB := Aside0.mk hbb
                clear hbb
                go_wp2_with fail
                refine (dec_Bit.ok s e gd p wr ⟨HT.out.live⟩ ⟨HT.out.ok⟩ ⟨by have := hL.out; omega⟩ HSZ HE _ HBB.out).mono ?_
                rintro r w3 ⟨rfl, hl, hm⟩
                have HB3 := Aside0.mk (Mine.to_below hm HB.out (up_ HB.out HGD.out) (fun k hk => by rw [hk]; exact Nat.le_refl _))
                have HR3 := Aside0.mk (HT.out.read.mine hm (fun k hk hkg => HT.out.apart (by rw [← hkg]; exact hk)))
                have HL3 := Aside0.mk hl
                clear hl hm hcp
                have HA3 := Aside0.mk (HW.out.below (by rw [HGD.out]; exact HB3.out))
                have hcp := HA3.out.cp
                go_wp2_with fail
                refine (ref_RBit.ok s e u gd g gc p w3 HR3 ⟨HT.out.ok⟩ ⟨by have := hL.out; omega⟩ HSZ ⟨(up_ HB3.out HGD.out)⟩ HE _ HBB).mono ?_
                rintro r w4 ⟨rfl, u', hr4, hm4⟩
                have HB4 := Aside0.mk (hm4.to_below HB3.out (up_ HB3.out HGD.out) HT.out.up)
                have HR4 := Aside0.mk hr4
                have HM4 := Aside0.mk hm4
                clear hr4 hm4 hcp
                unfold got
                go_wp2_with fail
                go_quiet ((go_at_call 17; exact Calls.quiet_of_same (err_same _ _)))
                go_wp2_with fail
                go_roundg k1
                case measure => have := hk.out; omega
                case rel =>
                  have hbl : Below w4.heap.size w4 ((w4.alloc (.cells #[.int .u64 0, .int .i64 0, .int .i64 0] 56)).drewN nq) := below_drewN (below_alloc (Below.refl _ _) _) _
                  exact ⟨i + 1, by first | rfl | exact wrap_one i (by omega), ⟨by have := hk.out; omega⟩, ⟨hil⟩, ⟨Or.inl ⟨_, u', (HT.out.step HL3.out HR4.out HM4.out (bitE_ok HT.out.ok p _) (up_ HB3.out HGD.out)).below hbl, by have := hL.out; have := bitE_L p false e; omega⟩⟩, ⟨below_then HB4.out (up_ HB4.out HGD.out) hbl⟩⟩
              · have HBB := Aside0.mk hbb
                clear hbb
                go_wp2_with fail
                refine (dec_Bit.ok s e gd p wr ⟨HT.out.live⟩ ⟨HT.out.ok⟩ ⟨by have := hL.out; omega⟩ HSZ HE _ HBB.out).mono ?_
                rintro r w3 ⟨rfl, hl, hm⟩
                have HB3 := Aside0.mk (Mine.to_below hm HB.out (up_ HB.out HGD.out) (fun k hk => by rw [hk]; exact Nat.le_refl _))
                have HR3 := Aside0.mk (HT.out.read.mine hm (fun k hk hkg => HT.out.apart (by rw [← hkg]; exact hk)))
                have HL3 := Aside0.mk hl
                clear hl hm hcp
                have HA3 := Aside0.mk (HW.out.below (by rw [HGD.out]; exact HB3.out))
                have hcp := HA3.out.cp
                go_wp2_with fail
                refine (ref_RBit.ok s e u gd g gc p w3 HR3 ⟨HT.out.ok⟩ ⟨by have := hL.out; omega⟩ HSZ ⟨(up_ HB3.out HGD.out)⟩ HE _ HBB).mono ?_
                rintro r w4 ⟨rfl, u', hr4, hm4⟩
                have HB4 := Aside0.mk (hm4.to_below HB3.out (up_ HB3.out HGD.out) HT.out.up)
                have HR4 := Aside0.mk hr4
                have HM4 := Aside0.mk hm4
                clear hr4 hm4 hcp
                unfold got
                go_wp2_with fail
                go_quiet ((go_at_call 17; exact Calls.quiet_of_same (err_same _ _)))
                go_wp2_with fail
                go_roundg k1
                case measure => have := hk.out; omega
                case rel =>
                  have hbl : Below w4.heap.size w4 ((w4.alloc (.cells #[.int .u64 1, .int .i64 0, .int .i64 0] 56)).drewN nq) := below_drewN (below_alloc (Below.refl _ _) _) _
                  exact ⟨i + 1, by first | rfl | exact wrap_one i (by omega), ⟨by have := hk.out; omega⟩, ⟨hil⟩, ⟨Or.inl ⟨_, u', (HT.out.step HL3.out HR4.out HM4.out (bitE_ok HT.out.ok p _) (up_ HB3.out HGD.out)).below hbl, by have := hL.out; have := bitE_L p true e; omega⟩⟩, ⟨below_then HB4.out (up_ HB4.out HGD.out) hbl⟩⟩
            · have HE := Aside0.mk (show errE s e = errE s e from rfl)
              obtain ⟨er, her⟩ : ∃ er, errE s e = er := ⟨_, rfl⟩
              have HER := Aside0.mk her
              rw [her] at he
              clear HE her
              go_wp2_with fail
              refine (dec_Bit.err s e gd p wr ⟨HT.out.live⟩ ⟨HT.out.ok⟩ ⟨by have := hL.out; omega⟩ HSZ er HER he).mono ?_
              rintro r w3 ⟨rfl, hdd, hm⟩
              have HB3 := Aside0.mk (Mine.to_below hm HB.out (up_ HB.out HGD.out) (fun k hk => by rw [hk]; exact Nat.le_refl _))
              have HR3 := Aside0.mk (HT.out.read.mine hm (fun k hk hkg => HT.out.apart (by rw [← hkg]; exact hk)))
              have HD3 := Aside0.mk hdd
              clear hdd hm hcp
              have HA3 := Aside0.mk (HW.out.below (by rw [HGD.out]; exact HB3.out))
              have hcp := HA3.out.cp
              go_wp2_with fail
              refine (ref_RBit.err s e u gd g gc p w3 HR3 ⟨HT.out.ok⟩ ⟨by have := hL.out; omega⟩ HSZ er HER he).mono ?_
              rintro r w4 ⟨rfl, hd4, hm4⟩
              have HB4 := Aside0.mk (Mine.to_below hm4 HB3.out (up_ HB3.out HGD.out) (fun k hk => by rw [hk]; exact HT.out.up g (Or.inl rfl)))
              have HD4 := Aside0.mk hd4
              have HM4 := Aside0.mk hm4
              clear hd4 hm4 hcp
              unfold got
              go_wp2_with fail
              go_quiet ((go_at_call 17; exact Calls.quiet_of_same (err_same _ _)))
              go_wp2_with fail
              go_roundg k1
              case measure => have := hk.out; omega
              case rel =>
                have hbl : Below w4.heap.size w4 ((w4.alloc (.cells #[.int .u64 0, .int .i64 0, .int .i64 (er : Int)] 56)).drewN nq) := below_drewN (below_alloc (Below.refl _ _) _) _
                exact ⟨i + 1, by first | rfl | exact wrap_one i (by omega), ⟨by have := hk.out; omega⟩, ⟨hil⟩, ⟨Or.inr ⟨(HD3.out.mine HM4.out (by rintro rfl; exact HT.out.apart (Or.inl rfl))).below hbl, HD4.out.below hbl⟩⟩, ⟨below_then HB4.out (up_ HB4.out HGD.out) hbl⟩⟩
          · have hnb : (n != 0) = true := bne_iff_ne.2 hn0
            clear hn0
            obtain ⟨V, er, f, hd⟩ : ∃ V er f, dirS s (lenN n) e 0 = (V, er, f) := ⟨_, _, _, rfl⟩
            have HDIR := Aside0.mk hd
            have hes := dirS_small s _ _ _ _ _ _ hd
            clear hd
            go_wp2_with fail
            refine (dec_Direct.live s e gd n wr V er f HDIR ⟨HT.out.live⟩ ⟨HT.out.ok⟩ ⟨by have := hL.out; omega⟩ HSZ).mono ?_
            rintro r w3 ⟨rfl, hl, hdd, hm⟩
            have HB3 := Aside0.mk (Mine.to_below hm HB.out (up_ HB.out HGD.out) (fun k hk => by rw [hk]; exact Nat.le_refl _))
            have HR3 := Aside0.mk (HT.out.read.mine hm (fun k hk hkg => HT.out.apart (by rw [← hkg]; exact hk)))
            have HL3 := Aside0.mk hl
            have HD3 := Aside0.mk hdd
            clear hl hdd hm hcn
            have HA3 := Aside0.mk (HW.out.below (by rw [HGD.out]; exact HB3.out))
            have hcn := HA3.out.cn
            go_wp2_with fail
            refine (ref_RDirect.live s e u gd g gc n w3 V er f HDIR HR3 ⟨HT.out.ok⟩ ⟨by have := hL.out; omega⟩ HSZ ⟨(up_ HB3.out HGD.out)⟩).mono ?_
            rintro r w4 ⟨rfl, u', hl4, hd4, hm4⟩
            have HB4 := Aside0.mk (hm4.to_below HB3.out (up_ HB3.out HGD.out) HT.out.up)
            have HL4 := Aside0.mk hl4
            have HD4 := Aside0.mk hd4
            have HM4 := Aside0.mk hm4
            clear hl4 hd4 hm4 hcn
            unfold got
            go_wp2_with fail
            go_quiet ((go_at_call 17; exact Calls.quiet_of_same (err_same _ _)))
            go_wp2_with fail
            go_roundg k1
            case measure => have := hk.out; omega
            case rel =>
              have hbl : Below w4.heap.size w4 ((w4.alloc (.cells #[.int .u64 (V : Int), .int .i64 0, .int .i64 (er : Int)] 56)).drewN nq) := below_drewN (below_alloc (Below.refl _ _) _) _
              by_cases her : er = 0
              · obtain ⟨h1, h2, h3⟩ := HL3.out her
                exact ⟨i + 1, by first | rfl | exact wrap_one i (by omega), ⟨by have := hk.out; omega⟩, ⟨hil⟩, ⟨Or.inl ⟨f, u', (HT.out.step h1 (HL4.out her).1 HM4.out h2 (up_ HB3.out HGD.out)).below hbl, by have := hL.out; omega⟩⟩, ⟨below_then HB4.out (up_ HB4.out HGD.out) hbl⟩⟩
              · exact ⟨i + 1, by first | rfl | exact wrap_one i (by omega), ⟨by have := hk.out; omega⟩, ⟨hil⟩, ⟨Or.inr ⟨((HD3.out her).mine HM4.out.mine HT.out.apart).below hbl, (HD4.out her).below hbl⟩⟩, ⟨below_then HB4.out (up_ HB4.out HGD.out) hbl⟩⟩
        · have HDD := Aside0.mk hdead
          have HBD := Aside0.mk hbad
          clear hdead hbad hor
          by_cases hn0 : n = 0
          · have hnb : (n != 0) = false := by rw [hn0]; rfl
            clear hn0
            go_wp2_with fail
            refine (dec_Bit.dead s gd p wr ⟨HDD.out⟩).mono ?_
            rintro r w3 ⟨rfl, hb3⟩
            have HB3 := Aside0.mk (below_then HB.out (up_ HB.out HGD.out) hb3)
            have HD3 := Aside0.mk (HDD.out.below hb3)
            have HR3 := Aside0.mk (HBD.out.below hb3)
            clear hb3 hcp
            have HA3 := Aside0.mk (HW.out.below (by rw [HGD.out]; exact HB3.out))
            have hcp := HA3.out.cp
            go_wp2_with fail
            refine (ref_RBit.bad s g p w3 HR3).mono ?_
            rintro r w4 ⟨rfl, hb4⟩
            have HB4 := Aside0.mk (below_then HB3.out (up_ HB3.out HGD.out) hb4)
            have HD4 := Aside0.mk (HD3.out.below hb4)
            have HR4 := Aside0.mk (HR3.out.below hb4)
            clear hb4 hcp
            unfold got
            go_wp2_with fail
            go_quiet ((go_at_call 17; exact Calls.quiet_of_same (err_same _ _)))
            go_wp2_with fail
            go_roundg k1
            case measure => have := hk.out; omega
            case rel =>
              have hbl : Below w4.heap.size w4 ((w4.alloc (.cells #[.int .u64 0, .int .i64 0, .int .i64 3] 56)).drewN nq) := below_drewN (below_alloc (Below.refl _ _) _) _
              exact ⟨i + 1, by first | rfl | exact wrap_one i (by omega), ⟨by have := hk.out; omega⟩, ⟨hil⟩, ⟨Or.inr ⟨HD4.out.below hbl, HR4.out.below hbl⟩⟩, ⟨below_then HB4.out (up_ HB4.out HGD.out) hbl⟩⟩
          · have hnb : (n != 0) = true := bne_iff_ne.2 hn0
            clear hn0
            obtain ⟨er, her⟩ : ∃ er, er = if lenN n = 0 then 0 else 3 := ⟨_, rfl⟩
            have HER := Aside0.mk her
            clear her
            go_wp2_with fail
            refine (dec_Direct.dead s gd n wr ⟨HDD.out⟩ er HER.out).mono ?_
            rintro r w3 ⟨rfl, hb3⟩
            have HB3 := Aside0.mk (below_then HB.out (up_ HB.out HGD.out) hb3)
            have HD3 := Aside0.mk (HDD.out.below hb3)
            have HR3 := Aside0.mk (HBD.out.below hb3)
            clear hb3 hcn
            have HA3 := Aside0.mk (HW.out.below (by rw [HGD.out]; exact HB3.out))
            have hcn := HA3.out.cn
            go_wp2_with fail
            refine (ref_RDirect.bad s g n w3 HR3 er HER.out).mono ?_
            rintro r w4 ⟨rfl, hb4⟩
            have HB4 := Aside0.mk (below_then HB3.out (up_ HB3.out HGD.out) hb4)
            have HD4 := Aside0.mk (HD3.out.below hb4)
            have HR4 := Aside0.mk (HR3.out.below hb4)
            clear hb4 hcn
            unfold got
            go_wp2_with fail
            go_quiet ((go_at_call 17; exact Calls.quiet_of_same (err_same _ _)))
            go_wp2_with fail
            go_roundg k1
            case measure => have := hk.out; omega
            case rel =>
              have hbl : Below w4.heap.size w4 ((w4.alloc (.cells #[.int .u64 0, .int .i64 0, .int .i64 (er : Int)] 56)).drewN nq) := below_drewN (below_alloc (Below.refl _ _) _) _
              exact ⟨i + 1, by first | rfl | exact wrap_one i (by omega), ⟨by have := hk.out; omega⟩, ⟨hil⟩, ⟨Or.inr ⟨HD4.out.below hbl, HR4.out.below hbl⟩⟩, ⟨below_then HB4.out (up_ HB4.out HGD.out) hbl⟩⟩
      · have hil1 := eq_false (show ¬ (i : Int) < (len : Int) by omega)
        rcases hor.out with ⟨e, u, hT, hL0⟩ | ⟨hdead, hbad⟩
        · have HT := Aside0.mk hT
          have hL := Aside0.mk hL0
          obtain ⟨N, hN⟩ : ∃ N, endE s e = N := ⟨_, rfl⟩
          have HN := Aside0.mk hN
          clear hT hL0 hor hN
          by_cases hN0 : N = 0
          · subst hN0
            go_wp2_with fail
            refine (dec_End.live s e gd wr ⟨HT.out.live⟩ ⟨HT.out.ok⟩ ⟨by have := hL.out; omega⟩ HSZ 0 HN).mono ?_
            rintro r w3 ⟨rfl, hl, hdd, hm⟩
            have HB3 := Aside0.mk (Mine.to_below hm HB.out (up_ HB.out HGD.out) (fun k hk => by rw [hk]; exact Nat.le_refl _))
            have HR3 := Aside0.mk (HT.out.read.mine hm (fun k hk hkg => HT.out.apart (by rw [← hkg]; exact hk)))
            have HL3 := Aside0.mk hl
            have HD3 := Aside0.mk hdd
            clear hl hdd hm
            go_wp2_with fail
            refine (err_same _ w3).mono ?_
            rintro r wx ⟨rfl, hw⟩
            have hw := hw.symm
            subst hw
            go_wp2_with fail
            refine (ref_REnd.calls s e u gd g gc w3 HR3 ⟨HT.out.ok⟩ ⟨by have := hL.out; omega⟩ HSZ 0 HN).mono ?_
            rintro r w4 ⟨rfl, hl, hdd, hm⟩
            have HB4 := Aside0.mk (Mine.to_below hm HB3.out (up_ HB3.out HGD.out) (fun k hk => by rw [hk]; exact HT.out.up g (Or.inl rfl)))
            have HL4 := Aside0.mk hl
            have HD4 := Aside0.mk hdd
            have HM4 := Aside0.mk hm
            clear hl hdd hm
            have HT4 : Aside0 (Twin w4 gd gd g gc s u e) := ⟨⟨(show LiveAt w3 gd s e by first | exact HL3.out rfl | exact HL3.out trivial | exact HL3.out).mine HM4.out (fun h => HT.out.apart (Or.inl h)), (by first | exact HL4.out rfl | exact HL4.out trivial | exact HL4.out), HT.out.apart, HT.out.up, HT.out.ok⟩⟩
            go_wp2_with fail
            refine (dec_End.live s e gd w4 ⟨HT4.out.live⟩ ⟨HT4.out.ok⟩ ⟨by have := hL.out; omega⟩ HSZ 0 HN).mono ?_
            rintro r w5 ⟨rfl, hl, hdd, hm⟩
            have HB5 := Aside0.mk (Mine.to_below hm HB4.out (up_ HB4.out HGD.out) (fun k hk => by rw [hk]; exact Nat.le_refl _))
            have HR5 := Aside0.mk (HT4.out.read.mine hm (fun k hk hkg => HT4.out.apart (by rw [← hkg]; exact hk)))
            have HL5 := Aside0.mk hl
            have HD5 := Aside0.mk hdd
            clear hl hdd hm
            go_wp2_with fail
            refine (err_same _ w5).mono ?_
            rintro r wx ⟨rfl, hw⟩
            have hw := hw.symm
            subst hw
            go_wp2_with fail
            refine (ref_REnd.calls s e u gd g gc w5 HR5 ⟨HT4.out.ok⟩ ⟨by have := hL.out; omega⟩ HSZ 0 HN).mono ?_
            rintro r w6 ⟨rfl, hl, hdd, hm⟩
            have HB6 := Aside0.mk (Mine.to_below hm HB5.out (up_ HB5.out HGD.out) (fun k hk => by rw [hk]; exact HT4.out.up g (Or.inl rfl)))
            have HL6 := Aside0.mk hl
            have HD6 := Aside0.mk hdd
            have HM6 := Aside0.mk hm
            clear hl hdd hm
            go_wp2_with fail
            refine (awake15.calls _).mono ?_
            rintro r w9 ⟨rfl, hb9⟩
            go_wp2
            go_ret
            exact ⟨rfl, by rw [HGD.out]; exact below_then HB6.out (up_ HB6.out HGD.out) hb9⟩
          · have HNN := Aside0.mk hN0
            clear hN0
            go_wp2_with fail
            refine (dec_End.live s e gd wr ⟨HT.out.live⟩ ⟨HT.out.ok⟩ ⟨by have := hL.out; omega⟩ HSZ N HN).mono ?_
            rintro r w3 ⟨rfl, hl, hdd, hm⟩
            have HB3 := Aside0.mk (Mine.to_below hm HB.out (up_ HB.out HGD.out) (fun k hk => by rw [hk]; exact Nat.le_refl _))
            have HR3 := Aside0.mk (HT.out.read.mine hm (fun k hk hkg => HT.out.apart (by rw [← hkg]; exact hk)))
            have HL3 := Aside0.mk hl
            have HD3 := Aside0.mk hdd
            clear hl hdd hm
            go_wp2_with fail
            refine (err_same _ w3).mono ?_
            rintro r wx ⟨rfl, hw⟩
            have hw := hw.symm
            subst hw
            go_wp2_with fail
            refine (ref_REnd.calls s e u gd g gc w3 HR3 ⟨HT.out.ok⟩ ⟨by have := hL.out; omega⟩ HSZ N HN).mono ?_
            rintro r w4 ⟨rfl, hl, hdd, hm⟩
            have HB4 := Aside0.mk (Mine.to_below hm HB3.out (up_ HB3.out HGD.out) (fun k hk => by rw [hk]; exact HT.out.up g (Or.inl rfl)))
            have HL4 := Aside0.mk hl
            have HD4 := Aside0.mk hdd
            have HM4 := Aside0.mk hm
            clear hl hdd hm
            have HX4 := Aside0.mk ((HD3.out HNN.out).mine HM4.out (fun h => HT.out.apart (Or.inl h)))
            have HY4 := Aside0.mk (HD4.out HNN.out)
            go_wp2_with fail
            refine (dec_End.dead s gd w4 ⟨HX4.out⟩).mono ?_
            rintro r w5 ⟨rfl, hb⟩
            have HB5 := Aside0.mk (below_then HB4.out (up_ HB4.out HGD.out) hb)
            have HE5 := Aside0.mk (HX4.out.below hb)
            have HR5 := Aside0.mk (HY4.out.below hb)
            clear hb
            go_wp2_with fail
            refine (err_same _ w5).mono ?_
            rintro r wx ⟨rfl, hw⟩
            have hw := hw.symm
            subst hw
            go_wp2_with fail
            refine (ref_REnd.bad s g w5 HR5).mono ?_
            rintro r w6 ⟨rfl, hb⟩
            have HB6 := Aside0.mk (below_then HB5.out (up_ HB5.out HGD.out) hb)
            have HE6 := Aside0.mk (HE5.out.below hb)
            have HR6 := Aside0.mk (HR5.out.below hb)
            clear hb
            go_wp2_with fail
            refine (awake15.calls _).mono ?_
            rintro r w9 ⟨rfl, hb9⟩
            go_wp2
            go_ret
            exact ⟨rfl, by rw [HGD.out]; exact below_then HB6.out (up_ HB6.out HGD.out) hb9⟩
        · have HX4 := Aside0.mk hdead
          have HY4 := Aside0.mk hbad
          clear hdead hbad hor
          go_wp2_with fail
          refine (dec_End.dead s gd wr ⟨HX4.out⟩).mono ?_
          rintro r w5 ⟨rfl, hb⟩
          have HB5 := Aside0.mk (below_then HB.out (up_ HB.out HGD.out) hb)
          have HE5 := Aside0.mk (HX4.out.below hb)
          have HR5 := Aside0.mk (HY4.out.below hb)
          clear hb
          go_wp2_with fail
          refine (err_same _ w5).mono ?_
          rintro r wx ⟨rfl, hw⟩
          have hw := hw.symm
          subst hw
          go_wp2_with fail
          refine (ref_REnd.bad s g w5 HR5).mono ?_
          rintro r w6 ⟨rfl, hb⟩
          have HB6 := Aside0.mk (below_then HB5.out (up_ HB5.out HGD.out) hb)
          have HE6 := Aside0.mk (HE5.out.below hb)
          have HR6 := Aside0.mk (HR5.out.below hb)
          clear hb
          go_wp2_with fail
          refine (dec_End.dead s gd w6 ⟨HE6.out⟩).mono ?_
          rintro r w7 ⟨rfl, hb⟩
          have HB7 := Aside0.mk (below_then HB6.out (up_ HB6.out HGD.out) hb)
          have HE7 := Aside0.mk (HE6.out.below hb)
          have HR7 := Aside0.mk (HR6.out.below hb)
          clear hb
          go_wp2_with fail
          refine (err_same _ w7).mono ?_
          rintro r wx ⟨rfl, hw⟩
          have hw := hw.symm
          subst hw
          go_wp2_with fail
          refine (ref_REnd.bad s g w7 HR7).mono ?_
          rintro r w8 ⟨rfl, hb⟩
          have HB8 := Aside0.mk (below_then HB7.out (up_ HB7.out HGD.out) hb)
          have HE8 := Aside0.mk (HE7.out.below hb)
          have HR8 := Aside0.mk (HR7.out.below hb)
          clear hb
          go_wp2_with fail
          refine (awake15.calls _).mono ?_
          rintro r w9 ⟨rfl, hb9⟩
          go_wp2
          go_ret
          exact ⟨rfl, by rw [HGD.out]; exact below_then HB8.out (up_ HB8.out HGD.out) hb9⟩
set_option maxHeartbeats 4000000 in
set_option maxRecDepth 100000 in
theorem chanceGet_out (s : ByteArray) (A : Option Addr) (len cap : Nat) (W : World) (h : 80 < len ∨ 200 < s.size) :
    Calls Try.prog 6 #[.string s, .slice A len cap] W fun e w' => e = .returned (.bool true) ∧ Below W.heap.size W w' := by
  by_cases hln : 80 < len
  · have hl1 : decide ((len : Int) > 80) = true := decide_eq_true (by omega)
    go_enter Try.func6, Try.ntmps6
    go_wp2_with fail
    refine (chance_From.calls s _).mono ?_
    rintro r w1 ⟨rfl, hD, hb⟩
    go_wp2_with fail
    refine (awake15.calls _).mono ?_
    rintro r w9 ⟨rfl, hb9⟩
    go_wp2
    go_ret
    exact ⟨rfl, below_step hb hb9⟩
  · have hl1 : decide ((len : Int) > 80) = false := decide_eq_false (by omega)
    have hl2 : decide ((s.size : Int) > 200) = true := decide_eq_true (by omega)
    go_enter Try.func6, Try.ntmps6
    go_wp2_with fail
    refine (chance_From.calls s _).mono ?_
    rintro r w1 ⟨rfl, hD, hb⟩
    go_wp2_with fail
    refine (awake15.calls _).mono ?_
    rintro r w9 ⟨rfl, hb9⟩
    go_wp2
    go_ret
    exact ⟨rfl, below_step hb hb9⟩
theorem wringerlaw15_ChanceGet.walk (s : ByteArray) (a0 : Option Addr) (len0 cap0 : Nat) (W : World) (_hs : s.size ≤ 140737488351232) (w0 : IsAsks W a0 len0) :
    Calls Try.prog 6 #[.string s, .slice a0 len0 cap0] W fun e W' => e = .returned (.bool true) ∧ Below W.heap.size W W' := by
  by_cases h : 80 < len0 ∨ 200 < s.size
  · exact chanceGet_out s a0 len0 cap0 W h
  · exact chanceGet_main s a0 len0 cap0 W ⟨w0⟩ (by omega) (by omega)
end Go.Proofs.Ytgldblakdhalkaa
