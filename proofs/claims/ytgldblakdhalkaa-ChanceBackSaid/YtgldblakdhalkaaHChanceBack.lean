/- ChanceBack walked: the call returns true, and of the memory that was there nothing turns. -/
import Derived.Test.YtgldblakdhalkaaBackN
import Derived.Test.YtgldblakdhalkaaGOpen
namespace Go.Proofs.Ytgldblakdhalkaa
set_option linter.unusedVariables false
open Go.RowKit Go.Proofs.YtgldblakdhalkaaW.PrintWords Go.Proofs.YtgldblakdhalkaaW.PrintLast Go.Proofs.YtgldblakdhalkaaW.PrintMore Go.Proofs.Ytgldblakdhalkaa.PBase
attribute [local go_sem] max2_mx min2_mn max_two min_two
theorem Moved.row {g B e s n : Nat} {w w' : World} {v v' bv : Value} {xs : List Value} (hm : Moved g w v w' v') (hR : w.ownsRow B e s bv n xs) (hN : ∀ k, bv.ownBlock = some k → ¬ foot g v k) : w'.ownsRow B e s bv n xs :=
  own_mine hR hm.mine (fun k hk hS => hN k hk hS)
theorem Moved.rowNot {g B e s n : Nat} {w w' : World} {v v' bv : Value} {xs : List Value} (hm : Moved g w v w' v') (hR : w.ownsRow B e s bv n xs) (hN : ∀ k, bv.ownBlock = some k → ¬ foot g v k) : ∀ k, bv.ownBlock = some k → ¬ foot g v' k := by
  intro k hk hf
  rcases hf with hf | hf
  · exact hN k hk (Or.inl hf)
  · rcases hm.own with h | ⟨k', h, h2⟩
    · exact hN k hk (Or.inr (h.symm.trans hf))
    · rw [h] at hf
      injection hf with hf
      have := (hR.lt k hk).2
      omega
theorem EncAt.setOther {w : World} {B g b i : Nat} {e : Enc} {v : Value} (h : EncAt w B g e v) (hN : ¬ foot g v b) (x : Value) : EncAt (w.setCell ⟨b, i, none⟩ x) B g e v :=
  h.mine (S := (· = b)) (Mine.set (S := (· = b)) (Mine.refl _ _) (Or.inl rfl) x) (fun hg => hN (Or.inl hg.symm)) (fun k hk hkb => hN (Or.inr (by rw [hk, hkb])))
theorem wrap_one (i : Nat) (h : i ≤ 1000) : Value.int .i64 (wrap64 ((i : Int) + 1)) = .int .i64 ((i + 1 : Nat) : Int) := by
  have : wrap64 ((i : Int) + 1) = ((i + 1 : Nat) : Int) := by unfold wrap64; omega
  rw [this]
theorem mid_done (l : List Raw) (i : Nat) (r : Raw) (h : l[i]? = some r) : (mid (i + 1) l)[i]? = some (clamp r) := by
  have hi : i < (mid i l).length := by rw [mid_length]; exact (List.getElem?_eq_some_iff.1 h).1
  rw [← mid_set l i r h, List.getElem?_set_self hi]
set_option maxHeartbeats 8000000 in
set_option maxRecDepth 100000 in
theorem chanceBack_main (A : Option Addr) (len cap : Nat) (at_ by_ : Nat) (hat : at_ ≤ 255) (hby : by_ ≤ 255) (W : World) (hr : Aside0 (IsAsks W A len)) (hA : A = none → len = 0) (hln : len ≤ 120) :
    Calls Try.prog 8 #[.slice A len cap, .int .u8 (at_ : Int), .int .u8 (by_ : Int)] W fun e w' => e = .returned (.bool true) ∧ Below W.heap.size W w' := by
  have hu37 := Try.underlying37
  have hu44 := Try.underlying44
  obtain ⟨l, hll, hlv, hla⟩ := asks_list len hr.out
  have hl1 : decide ((len : Int) > 120) = false := decide_eq_false (by omega)
  have HLA := Aside0.mk hla
  have HLV := Aside0.mk hlv
  clear hla hlv
  go_enter Try.func8, Try.ntmps8
  go_wp2_with fail
  refine (chance_New.calls _).mono ?_
  rintro r w1 ⟨g1, v1, rfl, hS, hg, hb⟩
  have HB1 := Aside0.mk hb
  have hG1 := Aside0.mk hg
  have HS1 := Aside0.mk hS
  clear hS hb hg
  have hb0 : (w1.alloc (.cells #[] 44)).heap[w1.heap.size]? = some (.cells #[] 44 (0, 0)) := blk_new _ _
  have hba : Below w1.heap.size w1 (w1.alloc (.cells #[] 44)) := below_alloc (Below.refl _ _) _
  have hBa := Aside0.mk (below_step HB1.out hba)
  obtain ⟨bv, w2, hrun, hown, hgrow, hpl⟩ := run_copy_asks (w1.alloc (.cells #[] 44)) W.heap.size w1.heap.size A len cap 37 l hb0 HB1.out.size hll (by omega) (fun i r h => by
    obtain ⟨x, hx, ha⟩ := HLA.out i r h
    exact ⟨x, hx, ha.below hBa.out⟩) hA
  have hSa := HS1.out.below hba
  have HM2 : Mine (· = w1.heap.size) w1 w2 := Mine.grown (Mine.of_below _ hba) hgrow (fun k hk => Or.inl (by injection hk with hk; exact hk.symm))
  have HB2 := Aside0.mk (Mine.to_below HM2 HB1.out HB1.out.size (fun k hk => by rw [hk]; exact HB1.out.size))
  have HS2 := Aside0.mk (HS1.out.mine HM2 (fun h => by have := HS1.out.lt2 g1 (Or.inl rfl); omega) (fun k hk h => by have := HS1.out.lt2 k (Or.inr hk); omega))
  have HN2 : Aside0 (∀ k, bv.ownBlock = some k → ¬ foot g1 v1 k) := ⟨fun k hk hf => by
    have h1 := HS1.out.lt2 k hf
    rcases hpl with h | h
    · rw [h] at hk; injection hk with hk; omega
    · rw [h, Below_alloc_size] at hk; injection hk with hk; omega⟩
  obtain ⟨bA, bC, rfl⟩ := row_slice hown
  have HR2 := Aside0.mk hown
  rw [← mid_zero l] at HR2
  have HRUN := Aside0.mk hrun
  clear hown hgrow hpl hSa HM2 hba hBa HB1 HS1 hb0 hrun
  go_wp2_with (first | (at_builtin; refine list_asks (by rfl) _ _ (by rfl) _ _ _ (by rfl) (by rfl) HRUN.out ?_; clear HRUN))
  go_loopg [8] (len + 1) (fun kq v8 w' => ∃ (i : Nat) (v1 : Value), v8 = .int .i64 (i : Int) ∧ Aside0 (kq = len - i + 1) ∧ Aside0 (i ≤ len) ∧ Aside0 (EncAt w' W.heap.size g1 (runR (l.take i)) v1) ∧ Aside0 (w'.ownsRow W.heap.size 44 4 (.slice bA len bC) len (flat (mid i l))) ∧ Aside0 (∀ k, (Value.slice bA len bC).ownBlock = some k → ¬ foot g1 v1 k) ∧ Aside0 (Below W.heap.size W w'))
  case atStart => exact ⟨0, v1, rfl, ⟨rfl⟩, ⟨Nat.zero_le _⟩, HS2, HR2, HN2, HB2⟩
  case round =>
    clear HS2 HR2 HN2 HB2
    obtain ⟨i, v1, rfl, hk, hi, HS, HR, HN, HB⟩ := hrel
    cases gk with
    | zero => exact absurd hk.out (by omega)
    | succ k1 =>
      have hi2 := hi.out
      by_cases hil : i < len
      · have hil1 := eq_true (show (i : Int) < (len : Int) by omega)
        have hi0 := eq_true (show (0 : Int) ≤ (i : Int) by omega)
        have hgo : l[i]? = some l[i] := List.getElem?_eq_getElem (by omega)
        generalize l[i] = r at hgo
        have hgm := mid_at l i r hgo
        obtain ⟨b, C, hbC, hbB, hbl⟩ := World.ownsRow.form HR.out (by omega)
        injection hbC with e1 _ e3
        subst e1 e3
        obtain ⟨hcn, hfn⟩ := row_cell HR.out (i * 4 + 2) (.int .i64 r.n) (by rw [flat_get _ i 2 r hgm (by decide)]; rfl)
        obtain ⟨N, hN⟩ : ∃ N, lenN r.n = N := ⟨_, rfl⟩
        have hNv := lenN_val r.n
        rw [hN] at hNv
        have hVl : Aside0 (r.v < 18446744073709551616) := ⟨HLV.out r (List.mem_of_getElem? hgo)⟩
        have hok := runR_ok (l.take i)
        have hLi := runR_L l i (by omega)
        have hnx := runR_next l i r hgo
        have hNb := HN.out b rfl
        have HR3 := Aside0.mk (row_put HR.out (i * 4 + 2) (.int .i64 (N : Int)))
        rw [flat_set (mid i l) i r (N : Int) hgm, show r.with (N : Int) = clamp r by unfold clamp; rw [hN], mid_set l i r hgo] at HR3
        have HS3 := Aside0.mk (HS.out.setOther (i := i * 4 + 2) hNb (.int .i64 (N : Int)))
        have HB3 := Aside0.mk (Mine.to_below (Mine.set (S := (· = b)) (i := i * 4 + 2) (Mine.refl _ wr) (Or.inl rfl) (.int .i64 (N : Int))) HB.out HB.out.size (fun k hk => by rw [hk]; exact hbB))
        have hmd := mid_done l i r hgo
        have HNX := Aside0.mk hnx
        have HNN := Aside0.mk hN
        have HLI := Aside0.mk hLi
        have HOK := Aside0.mk hok
        clear hnx hLi hok
        obtain ⟨e, he⟩ : ∃ e, runR (l.take i) = e := ⟨_, rfl⟩
        rw [he] at HNX HLI HOK HS3
        clear hN he
        by_cases hN0 : N = 0
        · have hN1 : (0 < N) = False := eq_false (by omega)
          have HN0 := Aside0.mk hN0
          clear hN0
          go_wp2_with fail
          generalize wr.setCell ⟨b, i * 4 + 2, none⟩ (.int .i64 (N : Int)) = w3 at *
          clear hcn hfn HR HS HB
          have hc0 := (row_cell HR3.out (i * 4) (.int .i64 r.p) (by rw [show i * 4 = i * 4 + 0 from rfl, flat_get _ i 0 _ hmd (by decide)]; rfl)).1
          have hc1 := (row_cell HR3.out (i * 4 + 1) (.int .i64 r.bit) (by rw [flat_get _ i 1 _ hmd (by decide)]; rfl)).1
          go_region_with (first | (go_at_call 26; refine (enc_Bit.calls e v1 W.heap.size g1 r.p r.bit (r.bit != 0) rfl _ ⟨HS3.out.drew⟩ HOK ⟨by have := HLI.out; omega⟩ ⟨HB3.out.size⟩).mono ?_; rintro r2 w4 ⟨rfl, v3, hE4, hm4⟩; have HB4 : Aside0 (Below W.heap.size W w4) := ⟨hm4.to_below (Below.drew HB3.out) HB3.out.size hG1.out HS3.out.ge⟩; have HE4 := Aside0.mk hE4; have HM4 := Aside0.mk hm4; clear hE4 hm4))
          all_goals
            have hst : stepE (askOf r) e = bitE r.p (r.bit != 0) e := by
              show (if lenN r.n = 0 then _ else _) = _
              rw [if_pos (by rw [HNN.out]; exact HN0.out)]
              rfl
            rw [← hst, ← HNX.out] at HE4
            have HR4 : Aside0 (w4.ownsRow W.heap.size 44 4 (.slice (some ⟨b, 0, none⟩) len bC) len (flat (mid (i + 1) l))) := ⟨HM4.out.row (own_frame HR3.out (fun _ _ => rfl)) HN.out⟩
            have HN4 := Aside0.mk (HM4.out.rowNot (own_frame (w' := w3.drew) HR3.out (fun _ _ => rfl)) HN.out)
            go_wp2_with fail
            go_roundg k1
            case measure => have := hk.out; omega
            case rel => exact ⟨i + 1, v3, by first | rfl | exact wrap_one i (by omega), ⟨by have := hk.out; omega⟩, ⟨hil⟩, HE4, HR4, HN4, HB4⟩
        · have hN1 : (0 < N) = True := eq_true (by omega)
          go_wp2_with fail
          generalize wr.setCell ⟨b, i * 4 + 2, none⟩ (.int .i64 (N : Int)) = w3 at *
          clear hcn hfn HR HS HB
          have hc2 := (row_cell HR3.out (i * 4 + 2) (.int .i64 (N : Int)) (by rw [flat_get _ i 2 _ hmd (by decide), ← HNN.out]; rfl)).1
          have hc3 := (row_cell HR3.out (i * 4 + 3) (.int .u64 (r.v : Int)) (by rw [flat_get _ i 3 _ hmd (by decide)]; rfl)).1
          go_region_with (first | (go_at_call 24; refine (enc_Direct.calls e v1 W.heap.size g1 r.v (N : Int) _ hVl ⟨HS3.out.drew⟩ HOK ⟨by have := HLI.out; omega⟩ ⟨HB3.out.size⟩).mono ?_; rintro r2 w4 ⟨rfl, v3, hE4, hm4⟩; have HB4 : Aside0 (Below W.heap.size W w4) := ⟨hm4.to_below (Below.drew HB3.out) HB3.out.size hG1.out HS3.out.ge⟩; have HE4 := Aside0.mk hE4; have HM4 := Aside0.mk hm4; clear hE4 hm4))
          all_goals
            have hst : stepE (askOf r) e = directE r.v (lenN (N : Int)) e := by
              show (if lenN r.n = 0 then _ else directE r.v (lenN r.n) e) = _
              rw [if_neg (by rw [HNN.out]; exact hN0), HNN.out, lenN_nat N (by rw [← HNN.out]; exact lenN_le _)]
            rw [← hst, ← HNX.out] at HE4
            have HR4 : Aside0 (w4.ownsRow W.heap.size 44 4 (.slice (some ⟨b, 0, none⟩) len bC) len (flat (mid (i + 1) l))) := ⟨HM4.out.row (own_frame HR3.out (fun _ _ => rfl)) HN.out⟩
            have HN4 := Aside0.mk (HM4.out.rowNot (own_frame (w' := w3.drew) HR3.out (fun _ _ => rfl)) HN.out)
            go_wp2_with fail
            go_roundg k1
            case measure => have := hk.out; omega
            case rel => exact ⟨i + 1, v3, by first | rfl | exact wrap_one i (by omega), ⟨by have := hk.out; omega⟩, ⟨hil⟩, HE4, HR4, HN4, HB4⟩
      · have hil1 := eq_false (show ¬ (i : Int) < (len : Int) by omega)
        obtain rfl : len = i := by omega
        clear hil hi2 hi hk
        have htl : l.take len = l := List.take_of_length_le (by omega)
        have hmm : mid len l = l.map clamp := by rw [← hll]; exact mid_all l
        rw [htl] at HS
        rw [hmm] at HR
        have hLF : (runR l).L ≤ 30721 := by have := runR_L l len (by omega); rw [htl] at this; omega
        have hok := runR_ok l
        have hsub := runR_sub l
        obtain ⟨F, hF⟩ : ∃ F, runR l = F := ⟨_, rfl⟩
        rw [hF] at HS hLF hok hsub
        have hz0 := first_zero hok
        have hzs : (bytesE F).size = F.L + 4 := bytesE_size F
        have hbd : strOfNums (beI (F.L + 4) F.V) = bytesE F := rfl
        have hsays := bytesE_says hok
        have hend := bytesE_end hok
        obtain ⟨S, hS⟩ : ∃ S, bytesE F = S := ⟨_, rfl⟩
        rw [hS] at hz0 hzs hbd hsays hend
        have hL1 := hok.1
        have HL1 : Aside0 (1 ≤ F.L ∧ F.L ≤ 1000000000) := ⟨by omega⟩
        have HF := Aside0.mk hF
        have HSE := Aside0.mk hS
        have HBD := Aside0.mk hbd
        have HSAY := Aside0.mk hsays
        have HEND := Aside0.mk hend
        have HSUB := Aside0.mk hsub
        have HOKF := Aside0.mk hok
        obtain ⟨z, hz⟩ : ∃ z, S.size = z := ⟨_, rfl⟩
        have hz5 : 5 ≤ z ∧ z ≤ 40000 := by omega
        have hzI : decide ((S.size : Int) < 5) = false := decide_eq_false (by omega)
        have hx0 : ∀ h : 0 < S.size, ((S[0]'h).toNat : Int) = 0 := fun h => by
          have h1 := bt_at S (0 : Int) h
          have h2 := bt_bn S 0
          rw [hz0] at h2
          exact h1.trans h2
        have hsz0 := eq_true (show 0 < S.size by omega)
        have HZS := Aside0.mk hzs
        have hzI2 : decide ((z : Int) < 5) = false := decide_eq_false (by omega)
        have hsz1 := eq_true (show 0 < z by omega)
        clear hF hS hbd hsays hend hsub hok hLF htl hmm hzs
        go_wp2_with fail
        refine (enc_Bytes.calls F v1 W.heap.size g1 _ HS HL1).mono ?_
        rintro r3 w3 ⟨rfl, hb⟩
        rw [HBD.out]
        have HB3 := Aside0.mk (below_step HB.out hb)
        have HR3 : Aside0 (w3.ownsRow W.heap.size 44 4 (.slice bA len bC) len (flat (l.map clamp))) := ⟨own_frame HR.out (fun k hk => hb.block k (HR.out.lt k hk).2)⟩
        clear hb HB HR HS HN
        have hcv := Lib.run_convert_string_bytes (P := Try.prog) w3 9 33 5 S Try.underlying9 Try.underlying33 Try.underlying5
        have hbw := bytes_below w3 5 S
        have hclb := fun j h => bytes_cell w3 5 S j h
        have hfrb := fun j h => bytes_free w3 5 S j h
        obtain ⟨w4, hw4⟩ : ∃ w4, Lib.bytesWorld w3 5 S = w4 := ⟨_, rfl⟩
        obtain ⟨C4, hC4⟩ : ∃ C4, grownCap w3 S.size 0 5 = C4 := ⟨_, rfl⟩
        rw [hw4] at hcv hbw hclb hfrb
        rw [hC4, hz] at hcv
        obtain ⟨gB, hgB⟩ : ∃ gB, w3.heap.size = gB := ⟨_, rfl⟩
        have hgB4 : gB < w4.heap.size := by rw [← hgB, ← hw4, Lib.bytesWorld_size]; omega
        have hgBW : W.heap.size ≤ gB := by rw [← hgB]; exact HB3.out.size
        have hHB4 := Aside0.mk (below_step HB3.out hbw)
        have HR4 : Aside0 (w4.ownsRow W.heap.size 44 4 (.slice bA len bC) len (flat (l.map clamp))) := ⟨own_frame HR3.out (fun k hk => hbw.block k (HR3.out.lt k hk).2)⟩
        have HRN : Aside0 (∀ k, (Value.slice bA len bC).ownBlock = some k → k < gB) := ⟨fun k hk => by rw [← hgB]; exact (HR3.out.lt k hk).2⟩
        rw [hgB] at hcv hclb hfrb
        obtain ⟨j, hj⟩ : ∃ j, at_ % z = j := ⟨_, rfl⟩
        have hjz : j < z := by rw [← hj]; exact Nat.mod_lt _ (by omega)
        have hrem : Int.tmod (at_ : Int) (z : Int) = (j : Int) := by rw [← hj]; rfl
        have hzi : (S.size : Int) = (z : Int) := by omega
        have hj0 := eq_true (show (0 : Int) ≤ (j : Int) by omega)
        have hj1 := eq_true (show (j : Int) < (z : Int) by omega)
        obtain ⟨c, hc⟩ : ∃ c, bn S j = c := ⟨_, rfl⟩
        have hcc : w4.cell? ⟨gB, j, none⟩ = some (.int .u8 (c : Int)) := by rw [← hc]; exact hclb j (by omega)
        have hfc : w4.frozen? ⟨gB, j, none⟩ = false := hfrb j (by omega)
        have hc256 : c < 256 := by rw [← hc]; exact bn_lt S j
        obtain ⟨x, hx⟩ : ∃ x, c ^^^ by_ = x := ⟨_, rfl⟩
        have hx256 : x < 256 := by rw [← hx]; exact Nat.xor_lt_two_pow (n := 8) (by omega) (by omega)
        have hxor : Go.bits .xor .u8 (c : Int) (by_ : Int) = (x : Int) := by rw [u8_xor_nat c by_ hc256 (by omega), hx]
        have hts := turn_same S j x (by omega) hx256
        rw [hc, ← hx, xor_same] at hts
        obtain ⟨T, hT⟩ : ∃ T, strOfNums ((strInts S).set j (x : Int)) = T := ⟨_, rfl⟩
        rw [hx, hT] at hts
        have hTz : T.size = z := by rw [← hT, strOfNums_size, List.length_set, strInts_length]; exact hz
        have hcv2 : (convert 33 9 (.slice (some ⟨gB, 0, none⟩) z C4)).run Try.prog (w4.setCell ⟨gB, j, none⟩ (.int .u8 (x : Int))).drew = .ok (.string T) (w4.setCell ⟨gB, j, none⟩ (.int .u8 (x : Int))).drew := by
          rw [← hT]
          refine run_convert_bytes_arg (P := Try.prog) _ 33 5 Try.underlying33 Try.underlying5 gB 0 z C4 ((strInts S).set j (x : Int)) (by rw [List.length_set, strInts_length]; exact hz) (fun i hi => ?_) 9 Try.underlying9
          rw [Nat.zero_add]
          show (w4.setCell ⟨gB, j, none⟩ (.int .u8 (x : Int))).cell? _ = _
          by_cases hij : i = j
          · subst hij
            rw [World.cell?_setCell_same _ _ _ hcc, List.getD_eq_getElem?_getD, List.getElem?_set_self (by rw [strInts_length]; omega)]
            rfl
          · rw [World.cell?_setCell_other _ _ _ _ (by intro h; injection h with _ h _; omega), hclb i (by omega), List.getD_eq_getElem?_getD, List.getElem?_set_ne (by omega), ← List.getD_eq_getElem?_getD, strInts_get S i (by omega)]
        have HTS := Aside0.mk hts
        clear hclb hfrb hbw hw4 hC4 hgB hc hx hts hT
        go_wp2_with fail
        have HB5 := Aside0.mk (Mine.to_below (Mine.set (S := (· = gB)) (i := j) (Mine.refl _ w4) (Or.inl rfl) (.int .u8 (x : Int))) hHB4.out hHB4.out.size (fun k hk => by rw [hk]; exact hgBW))
        have HR5 : Aside0 ((w4.setCell ⟨gB, j, none⟩ (.int .u8 (x : Int))).ownsRow W.heap.size 44 4 (.slice bA len bC) len (flat (l.map clamp))) := ⟨own_mine HR4.out (Mine.set (S := (· = gB)) (i := j) (Mine.refl _ w4) (Or.inl rfl) _) (fun k hk he => by have := HRN.out k hk; omega)⟩
        generalize w4.setCell ⟨gB, j, none⟩ (.int .u8 (x : Int)) = w5 at *
        clear hcc hfc hxor hHB4 HR4 hcv hrem hj0 hj1 HB3 HR3
        have hlim : (9223372036854775807 < S.size + 1) = False := eq_false (by omega)
        have hlim2 : (9223372036854775807 < z + 1) = False := eq_false (by omega)
        go_region
        obtain ⟨te, hte⟩ : ∃ te : Nat → ByteArray, te = fun k => if k = 0 then S else if k = 1 then S ++ ⟨#[0]⟩ else if k = 2 then S.extract 0 (z - 1) else T := ⟨_, rfl⟩
        have hts : ∀ k, k < 4 → (te k).size ≤ 50000 := fun k hk => by
          rw [hte]
          rcases (by omega : k = 0 ∨ k = 1 ∨ k = 2 ∨ k = 3) with h | h | h | h <;> subst h
          · show S.size ≤ _; omega
          · show (S ++ (⟨#[0]⟩ : ByteArray)).size ≤ _; rw [ByteArray.size_append]; show S.size + 1 ≤ _; omega
          · show (S.extract 0 (z - 1)).size ≤ _; rw [ByteArray.size_extract]; omega
          · show T.size ≤ _; omega
        have hteq : ∀ k, k < 4 → (te k = S ↔ k = 0 ∨ k = 3 ∧ by_ = 0) := fun k hk => by
          rw [hte]
          rcases (by omega : k = 0 ∨ k = 1 ∨ k = 2 ∨ k = 3) with h | h | h | h <;> subst h
          · exact ⟨fun _ => Or.inl rfl, fun _ => rfl⟩
          · exact ⟨fun h => absurd h (long_ne S), fun h => by omega⟩
          · refine ⟨fun h => absurd h ?_, fun h => by omega⟩
            show S.extract 0 (z - 1) ≠ S
            rw [← hz]
            exact short_ne S (by omega)
          · exact ⟨fun h => Or.inr ⟨rfl, HTS.out.1 h⟩, fun h => HTS.out.2 (by omega)⟩
        have hcE : ∀ k, k < 4 → (w5.alloc (.cells #[.string S, .string (S ++ ⟨#[0]⟩), .string (S.extract 0 (z - 1)), .string T] 9)).drew.cell? ⟨w5.heap.size, k, none⟩ = some (.string (te k)) := fun k hk => by
          show (w5.alloc _).cell? _ = _
          rw [blk_cell (blk_new w5 _) k, hte]
          rcases (by omega : k = 0 ∨ k = 1 ∨ k = 2 ∨ k = 3) with h | h | h | h <;> subst h <;> rfl
        have hb6 : Below w5.heap.size w5 (w5.alloc (.cells #[.string S, .string (S ++ ⟨#[0]⟩), .string (S.extract 0 (z - 1)), .string T] 9)).drew := below_drew (below_alloc (Below.refl _ _) _)
        have hgE : w5.heap.size < (w5.alloc (.cells #[.string S, .string (S ++ ⟨#[0]⟩), .string (S.extract 0 (z - 1)), .string T] 9)).drew.heap.size := by
          show _ < (w5.alloc _).heap.size
          rw [Below_alloc_size]
          omega
        have HB6 := Aside0.mk (below_step HB5.out hb6)
        have HR6 : Aside0 ((w5.alloc (.cells #[.string S, .string (S ++ ⟨#[0]⟩), .string (S.extract 0 (z - 1)), .string T] 9)).drew.ownsRow W.heap.size 44 4 (.slice bA len bC) len (flat (l.map clamp))) := ⟨own_frame HR5.out (fun k hk => hb6.block k (HR5.out.lt k hk).2)⟩
        generalize (w5.alloc (.cells #[.string S, .string (S ++ ⟨#[0]⟩), .string (S.extract 0 (z - 1)), .string T] 9)).drew = w6 at *
        generalize w5.heap.size = gE at *
        have HCE := Aside0.mk hcE
        have HTEQ := Aside0.mk hteq
        have HTSZ := Aside0.mk hts
        clear hcE hteq hts hb6 HB5 HR5 hcv2 hlim hlim2 hzI hzI2 hsz0 hsz1 hx0 hzi hte HTS HRN
        go_wp2_with fail
        go_loopg [12] 5 (fun kq v12 w' => ∃ (k : Nat), v12 = .int .i64 (k : Int) ∧ Aside0 (kq = 4 - k + 1) ∧ Aside0 (k ≤ 4) ∧ Aside0 (Below w6.heap.size w6 w'))
        case atStart => exact ⟨0, rfl, ⟨rfl⟩, ⟨by decide⟩, ⟨Below.refl _ _⟩⟩
        case round =>
          obtain ⟨k, rfl, hk, hk4, HB⟩ := hrel
          cases gk with
          | zero => exact absurd hk.out (by omega)
          | succ k2 =>
            have hk42 := hk4.out
            by_cases hkl : k < 4
            · have hkl1 := eq_true (show (k : Int) < 4 by omega)
              have hkl0 := eq_true (show (0 : Int) ≤ (k : Int) by omega)
              have hkl2 := eq_true hkl
              have hc : wr.cell? ⟨gE, k, none⟩ = some (.string (te k)) := by rw [HB.out.cell (by exact hgE)]; exact HCE.out k hkl
              have hsz := HTSZ.out k hkl
              have heq := HTEQ.out k hkl
              obtain ⟨t, ht⟩ : ∃ t, te k = t := ⟨_, rfl⟩
              rw [ht] at hc hsz heq
              clear ht
              go_wp2_with fail
              refine (chance_From.calls t wr).mono ?_
              rintro r7 w7 ⟨rfl, hD, hb⟩
              have HD7 : Aside0 (LiveAt w7 wr.heap.size t Enc.new) := ⟨0, 0, hD, DecIn.start _⟩
              have HB7 := Aside0.mk (below_then HB.out HB.out.size hb)
              have hgd : Aside0 (w6.heap.size ≤ wr.heap.size) := ⟨HB.out.size⟩
              clear hD hb HB hc
              obtain ⟨gd, hgdd⟩ : ∃ gd, wr.heap.size = gd := ⟨_, rfl⟩
              rw [hgdd] at HD7 hgd ⊢
              clear hgdd
              have HEQ := Aside0.mk heq
              clear heq
              go_wp2_with fail
              go_loopg [14, 15] (len + 1) (fun kq v14 v15 w' => ∃ (good : Bool) (i : Nat), v14 = .bool good ∧ v15 = .int .i64 (i : Int) ∧ Aside0 (kq = len - i + 1) ∧ Aside0 (i ≤ len) ∧ Aside0 ((good = true ∧ LiveAt w' gd t (runR (l.take i))) ∨ (good = false ∧ t ≠ S)) ∧ Aside0 (Below w6.heap.size w6 w'))
              case atStart => exact ⟨true, 0, rfl, rfl, ⟨rfl⟩, ⟨Nat.zero_le _⟩, ⟨Or.inl ⟨rfl, HD7.out⟩⟩, HB7⟩
              case round =>
                clear HD7 HB7
                obtain ⟨good, i, rfl, rfl, hki, hi, hgood, HB⟩ := hrel
                cases gk with
                | zero => exact absurd hki.out (by omega)
                | succ k3 =>
                  have hi2 := hi.out
                  cases hgd2 : good
                  · subst hgd2
                    have hne : t ≠ S := by
                      rcases hgood.out with ⟨h, _⟩ | ⟨_, h⟩
                      · cases h
                      · exact h
                    have HNE := Aside0.mk (fun h => hne (HEQ.out.2 h))
                    clear hgood hne
                    have hk0 : ((k : Int) == 0) = false := beq_eq_false_iff_ne.2 (fun h => HNE.out (Or.inl (by omega)))
                    by_cases hk3 : k = 3
                    · have hk3b : ((k : Int) == 3) = true := beq_iff_eq.2 (by omega)
                      have hbyb : ((by_ : Int) == 0) = false := beq_eq_false_iff_ne.2 (fun h => HNE.out (Or.inr ⟨hk3, by omega⟩))
                      have HK3 := Aside0.mk hk3
                      clear hk3
                      by_cases hil : i < len
                      · have hil1 := eq_true (show (i : Int) < (len : Int) by omega)
                        go_wp2_with fail
                        go_roundg k2
                        case measure => have := hk.out; omega
                        case rel => exact ⟨k + 1, by first | rfl | exact wrap_one k (by omega), ⟨by have := hk.out; omega⟩, ⟨hkl⟩, HB⟩
                      · have hil1 := eq_false (show ¬ (i : Int) < (len : Int) by omega)
                        go_wp2_with fail
                        go_roundg k2
                        case measure => have := hk.out; omega
                        case rel => exact ⟨k + 1, by first | rfl | exact wrap_one k (by omega), ⟨by have := hk.out; omega⟩, ⟨hkl⟩, HB⟩
                    · have hk3b : ((k : Int) == 3) = false := beq_eq_false_iff_ne.2 (by omega)
                      by_cases hil : i < len
                      · have hil1 := eq_true (show (i : Int) < (len : Int) by omega)
                        go_wp2_with fail
                        go_roundg k2
                        case measure => have := hk.out; omega
                        case rel => exact ⟨k + 1, by first | rfl | exact wrap_one k (by omega), ⟨by have := hk.out; omega⟩, ⟨hkl⟩, HB⟩
                      · have hil1 := eq_false (show ¬ (i : Int) < (len : Int) by omega)
                        go_wp2_with fail
                        go_roundg k2
                        case measure => have := hk.out; omega
                        case rel => exact ⟨k + 1, by first | rfl | exact wrap_one k (by omega), ⟨by have := hk.out; omega⟩, ⟨hkl⟩, HB⟩
                  · subst hgd2
                    have hlive : LiveAt wr gd t (runR (l.take i)) := by
                      rcases hgood.out with ⟨_, h⟩ | ⟨h, _⟩
                      · exact h
                      · cases h
                    have HD := Aside0.mk hlive
                    clear hgood hlive
                    by_cases hil : i < len
                    · have hil1 := eq_true (show (i : Int) < (len : Int) by omega)
                      have hi0 := eq_true (show (0 : Int) ≤ (i : Int) by omega)
                      have hgo : l[i]? = some l[i] := List.getElem?_eq_getElem (by omega)
                      generalize l[i] = r at hgo
                      have hgc : (l.map clamp)[i]? = some (clamp r) := by rw [List.getElem?_map, hgo]; rfl
                      obtain ⟨b, C, hbC, hbB, hbl⟩ := World.ownsRow.form HR6.out (by omega)
                      injection hbC with e1 _ e3
                      subst e1 e3
                      have q0 := (row_cell HR6.out (i * 4) (.int .i64 r.p) (by rw [show i * 4 = i * 4 + 0 from rfl, flat_get _ i 0 _ hgc (by decide)]; rfl)).1
                      have q1 := (row_cell HR6.out (i * 4 + 1) (.int .i64 r.bit) (by rw [flat_get _ i 1 _ hgc (by decide)]; rfl)).1
                      have q2 := (row_cell HR6.out (i * 4 + 2) (.int .i64 ((lenN r.n : Nat) : Int)) (by rw [flat_get _ i 2 _ hgc (by decide)]; rfl)).1
                      have q3 := (row_cell HR6.out (i * 4 + 3) (.int .u64 (r.v : Int)) (by rw [flat_get _ i 3 _ hgc (by decide)]; rfl)).1
                      have c0 : wr.cell? ⟨b, i * 4, none⟩ = some (.int .i64 r.p) := by rw [HB.out.cell hbl]; exact q0
                      have c1 : wr.cell? ⟨b, i * 4 + 1, none⟩ = some (.int .i64 r.bit) := by rw [HB.out.cell hbl]; exact q1
                      have c2 : wr.cell? ⟨b, i * 4 + 2, none⟩ = some (.int .i64 ((lenN r.n : Nat) : Int)) := by rw [HB.out.cell hbl]; exact q2
                      have c3 : wr.cell? ⟨b, i * 4 + 3, none⟩ = some (.int .u64 (r.v : Int)) := by rw [HB.out.cell hbl]; exact q3
                      have Q1 := Aside0.mk q1
                      have Q2 := Aside0.mk q2
                      have Q3 := Aside0.mk q3
                      clear q0 q1 q2 q3
                      have hVl : r.v < 18446744073709551616 := HLV.out r (List.mem_of_getElem? hgo)
                      have HNX := Aside0.mk (runR_next l i r hgo)
                      have HLI := Aside0.mk (runR_L l i (by omega))
                      have HOK := Aside0.mk (runR_ok (l.take i))
                      have hsx0 : t = S → Says t (runR (l.take (i + 1))) := fun h => by rw [h]; exact HSAY.out.ahead (HSUB.out (i + 1))
                      obtain ⟨e, he⟩ : ∃ e, runR (l.take i) = e := ⟨_, rfl⟩
                      rw [he] at HNX HLI HOK HD
                      rw [HNX.out] at hsx0
                      clear he hgo hgc
                      obtain ⟨N, hN⟩ : ∃ N, lenN r.n = N := ⟨_, rfl⟩
                      have hN64 : N ≤ 64 := by rw [← hN]; exact lenN_le _
                      rw [hN] at c2 Q2
                      by_cases hN0 : N = 0
                      · have hN1 : (0 < N) = False := eq_false (by omega)
                        have hst : stepE (askOf r) e = bitE r.p (r.bit != 0) e := by
                          show (if lenN r.n = 0 then _ else _) = _
                          rw [if_pos (by rw [hN]; exact hN0)]
                          rfl
                        have hsx := hsx0
                        rw [hst] at hsx
                        have HN0 := Aside0.mk hN0
                        have HNN := Aside0.mk hN
                        clear hN0 hN hsx0
                        by_cases her : errE t e = 0
                        · have he0 := her
                          clear her
                          cases hbb : decide (dE t e < shareN e.R r.p)
                          · have hbb2 := hbb
                            go_wp2_with fail
                            refine (dec_Bit.ok t e gd r.p wr HD HOK ⟨by have := HLI.out; omega⟩ ⟨by omega⟩ ⟨he0⟩ false hbb).mono ?_
                            rintro r8 w8 ⟨rfl, hD8, hm8⟩
                            have HD8 := Aside0.mk hD8
                            have HB8 := Aside0.mk (Mine.to_below hm8 HB.out HB.out.size (fun k hk => by rw [hk]; exact hgd.out))
                            have d1 : w8.cell? ⟨b, i * 4 + 1, none⟩ = some (.int .i64 r.bit) := by rw [HB8.out.cell hbl]; exact Q1.out
                            clear hD8 hm8 hbb
                            by_cases hbz : r.bit = 0
                            · have hbit : (r.bit != 0) = false := bne_eq_false_iff_eq.2 hbz
                              rw [hbit] at hst
                              have HBZ := Aside0.mk hbz
                              clear hbz
                              go_wp2_with fail
                              refine (wringerlaw15_bit.calls r.bit 0 _ (by unfold wringerlaw15_bit.f; rw [if_pos HBZ.out])).mono ?_
                              rintro r10 w10 ⟨rfl, hd10⟩
                              have HB10 := Aside0.mk (below_then HB8.out HB8.out.size hd10.below)
                              have HD10 := Aside0.mk (HD8.out.below hd10.below)
                              clear hd10
                              go_wp2_with fail
                              refine (wringerlaw1_Err.calls 0 0 _ rfl).mono ?_
                              rintro r9 w9 ⟨rfl, hd9⟩
                              have HB9 := Aside0.mk (below_then HB10.out HB10.out.size hd9.below)
                              have HD9 := Aside0.mk (HD10.out.below hd9.below)
                              clear hd9
                              go_wp2_with fail
                              go_roundg k3
                              case measure => have := hki.out; omega
                              case rel => exact ⟨true, i + 1, rfl, by first | rfl | exact wrap_one i (by omega), ⟨by have := hki.out; omega⟩, ⟨hil⟩, ⟨Or.inl ⟨rfl, by rw [HNX.out]; exact (hst ▸ HD9.out)⟩⟩, HB9⟩
                            · have hbit : (r.bit != 0) = true := bne_iff_ne.2 hbz
                              have hne : t ≠ S := fun h => by
                                have h1 := (says_bit (p := r.p) (b := r.bit != 0) HOK.out (hsx h)).2
                                rw [hbb2, hbit] at h1
                                cases h1
                              go_wp2_with fail
                              refine (wringerlaw15_bit.calls r.bit 1 _ (by unfold wringerlaw15_bit.f; rw [if_neg hbz])).mono ?_
                              rintro r10 w10 ⟨rfl, hd10⟩
                              have HB10 := Aside0.mk (below_then HB8.out HB8.out.size hd10.below)
                              clear hd10
                              go_wp2_with fail
                              go_roundg k3
                              case measure => have := hki.out; omega
                              case rel => exact ⟨false, i + 1, rfl, by first | rfl | exact wrap_one i (by omega), ⟨by have := hki.out; omega⟩, ⟨hil⟩, ⟨Or.inr ⟨rfl, hne⟩⟩, HB10⟩
                          · have hbb2 := hbb
                            go_wp2_with fail
                            refine (dec_Bit.ok t e gd r.p wr HD HOK ⟨by have := HLI.out; omega⟩ ⟨by omega⟩ ⟨he0⟩ true hbb).mono ?_
                            rintro r8 w8 ⟨rfl, hD8, hm8⟩
                            have HD8 := Aside0.mk hD8
                            have HB8 := Aside0.mk (Mine.to_below hm8 HB.out HB.out.size (fun k hk => by rw [hk]; exact hgd.out))
                            have d1 : w8.cell? ⟨b, i * 4 + 1, none⟩ = some (.int .i64 r.bit) := by rw [HB8.out.cell hbl]; exact Q1.out
                            clear hD8 hm8 hbb
                            by_cases hbz : r.bit = 0
                            · have hbit : (r.bit != 0) = false := bne_eq_false_iff_eq.2 hbz
                              have hne : t ≠ S := fun h => by
                                have h1 := (says_bit (p := r.p) (b := r.bit != 0) HOK.out (hsx h)).2
                                rw [hbb2, hbit] at h1
                                cases h1
                              have HBZ := Aside0.mk hbz
                              clear hbz
                              go_wp2_with fail
                              refine (wringerlaw15_bit.calls r.bit 0 _ (by unfold wringerlaw15_bit.f; rw [if_pos HBZ.out])).mono ?_
                              rintro r10 w10 ⟨rfl, hd10⟩
                              have HB10 := Aside0.mk (below_then HB8.out HB8.out.size hd10.below)
                              clear hd10
                              go_wp2_with fail
                              go_roundg k3
                              case measure => have := hki.out; omega
                              case rel => exact ⟨false, i + 1, rfl, by first | rfl | exact wrap_one i (by omega), ⟨by have := hki.out; omega⟩, ⟨hil⟩, ⟨Or.inr ⟨rfl, hne⟩⟩, HB10⟩
                            · have hbit : (r.bit != 0) = true := bne_iff_ne.2 hbz
                              rw [hbit] at hst
                              go_wp2_with fail
                              refine (wringerlaw15_bit.calls r.bit 1 _ (by unfold wringerlaw15_bit.f; rw [if_neg hbz])).mono ?_
                              rintro r10 w10 ⟨rfl, hd10⟩
                              have HB10 := Aside0.mk (below_then HB8.out HB8.out.size hd10.below)
                              have HD10 := Aside0.mk (HD8.out.below hd10.below)
                              clear hd10
                              go_wp2_with fail
                              refine (wringerlaw1_Err.calls 0 0 _ rfl).mono ?_
                              rintro r9 w9 ⟨rfl, hd9⟩
                              have HB9 := Aside0.mk (below_then HB10.out HB10.out.size hd9.below)
                              have HD9 := Aside0.mk (HD10.out.below hd9.below)
                              clear hd9
                              go_wp2_with fail
                              go_roundg k3
                              case measure => have := hki.out; omega
                              case rel => exact ⟨true, i + 1, rfl, by first | rfl | exact wrap_one i (by omega), ⟨by have := hki.out; omega⟩, ⟨hil⟩, ⟨Or.inl ⟨rfl, by rw [HNX.out]; exact (hst ▸ HD9.out)⟩⟩, HB9⟩
                        · have hne : t ≠ S := fun h => her ((says_bit (p := r.p) (b := r.bit != 0) HOK.out (hsx h)).1)
                          obtain ⟨n, hn⟩ : ∃ n, errE t e = n := ⟨_, rfl⟩
                          have h23 : n = 2 ∨ n = 3 := by rw [← hn]; exact (errE_small t e).resolve_left her
                          have hnb : ((n : Int) == 0) = false := beq_eq_false_iff_ne.2 (by omega)
                          have HNN2 := Aside0.mk hn
                          have HER := Aside0.mk her
                          have H23 := Aside0.mk h23
                          clear hn her h23
                          go_wp2_with fail
                          refine (dec_Bit.err t e gd r.p wr HD HOK ⟨by have := HLI.out; omega⟩ ⟨by omega⟩ n HNN2 H23.out).mono ?_
                          rintro r8 w8 ⟨rfl, _, hm8⟩
                          have HB8 := Aside0.mk (Mine.to_below hm8 HB.out HB.out.size (fun k hk => by rw [hk]; exact hgd.out))
                          have d1 : w8.cell? ⟨b, i * 4 + 1, none⟩ = some (.int .i64 r.bit) := by rw [HB8.out.cell hbl]; exact Q1.out
                          clear hm8
                          by_cases hbz : r.bit = 0
                          · have HBZ := Aside0.mk hbz
                            clear hbz
                            go_wp2_with fail
                            refine (wringerlaw15_bit.calls r.bit 0 _ (by unfold wringerlaw15_bit.f; rw [if_pos HBZ.out])).mono ?_
                            rintro r10 w10 ⟨rfl, hd10⟩
                            have HB10 := Aside0.mk (below_then HB8.out HB8.out.size hd10.below)
                            clear hd10
                            go_wp2_with fail
                            refine (wringerlaw1_Err.calls (n : Int) (n : Int) _ rfl).mono ?_
                            rintro r9 w9 ⟨rfl, hd9⟩
                            have HB9 := Aside0.mk (below_then HB10.out HB10.out.size hd9.below)
                            clear hd9
                            go_wp2_with fail
                            go_roundg k3
                            case measure => have := hki.out; omega
                            case rel => exact ⟨false, i + 1, rfl, by first | rfl | exact wrap_one i (by omega), ⟨by have := hki.out; omega⟩, ⟨hil⟩, ⟨Or.inr ⟨rfl, hne⟩⟩, HB9⟩
                          · go_wp2_with fail
                            refine (wringerlaw15_bit.calls r.bit 1 _ (by unfold wringerlaw15_bit.f; rw [if_neg hbz])).mono ?_
                            rintro r10 w10 ⟨rfl, hd10⟩
                            have HB10 := Aside0.mk (below_then HB8.out HB8.out.size hd10.below)
                            clear hd10
                            go_wp2_with fail
                            go_roundg k3
                            case measure => have := hki.out; omega
                            case rel => exact ⟨false, i + 1, rfl, by first | rfl | exact wrap_one i (by omega), ⟨by have := hki.out; omega⟩, ⟨hil⟩, ⟨Or.inr ⟨rfl, hne⟩⟩, HB10⟩
                      · have hN1 : (0 < N) = True := eq_true (by omega)
                        have hst : stepE (askOf r) e = directE r.v N e := by
                          show (if lenN r.n = 0 then _ else directE r.v (lenN r.n) e) = _
                          rw [if_neg (by rw [hN]; exact hN0), hN]
                        have hsx := hsx0
                        have HNN := Aside0.mk hN
                        clear hN hsx0 hN0 c0 c1
                        obtain ⟨M, hM⟩ : ∃ M, r.v % 2 ^ N = M := ⟨_, rfl⟩
                        have HMV := Aside0.mk hM
                        by_cases hNl : N < 64
                        · have hN64b := eq_true (show (N : Int) < 64 by omega)
                          have hNlb := eq_true hNl
                          have hmask := mask_any r.v N hVl (by omega)
                          rw [hM] at hmask
                          clear hM
                          obtain ⟨V, er, f, hd⟩ : ∃ V er f, dirS t N e 0 = (V, er, f) := ⟨_, _, _, rfl⟩
                          have hd2 : Aside0 (dirS t (lenN (N : Int)) e 0 = (V, er, f)) := ⟨by rw [lenN_nat N hN64]; exact hd⟩
                          have HDD := Aside0.mk hd
                          clear hd
                          by_cases hVM : V = M
                          · have hVb : ((V : Int) == (M : Int)) = true := beq_iff_eq.2 (by omega)
                            have HVM := Aside0.mk hVM
                            clear hVM
                            by_cases her : er = 0
                            · have hf : f = directE r.v N e := told_direct HDD.out her (by rw [HVM.out]; exact HMV.out.symm)
                              subst her
                              go_wp2_with fail
                              refine (dec_Direct.live t e gd (N : Int) wr V 0 f hd2 HD HOK ⟨by have := HLI.out; omega⟩ ⟨by omega⟩).mono ?_
                              rintro r8 w8 ⟨rfl, hl8, _, hm8⟩
                              have HB8 := Aside0.mk (Mine.to_below hm8 HB.out HB.out.size (fun k hk => by rw [hk]; exact hgd.out))
                              have d2 : w8.cell? ⟨b, i * 4 + 2, none⟩ = some (.int .i64 (N : Int)) := by rw [HB8.out.cell hbl]; exact Q2.out
                              have d3 : w8.cell? ⟨b, i * 4 + 3, none⟩ = some (.int .u64 (r.v : Int)) := by rw [HB8.out.cell hbl]; exact Q3.out
                              have HD8 := Aside0.mk (hl8 rfl).1
                              rw [hf, ← hst] at HD8
                              clear hl8 hm8 hf
                              go_wp2_with fail
                              refine (wringerlaw1_Err.calls 0 0 _ rfl).mono ?_
                              rintro r9 w9 ⟨rfl, hd9⟩
                              have HB9 := Aside0.mk (below_then HB8.out HB8.out.size hd9.below)
                              have HD9 := Aside0.mk (HD8.out.below hd9.below)
                              clear hd9
                              go_wp2_with fail
                              go_roundg k3
                              case measure => have := hki.out; omega
                              case rel => exact ⟨true, i + 1, rfl, by first | rfl | exact wrap_one i (by omega), ⟨by have := hki.out; omega⟩, ⟨hil⟩, ⟨Or.inl ⟨rfl, by rw [HNX.out]; exact HD9.out⟩⟩, HB9⟩
                            · have heb : ((er : Int) == 0) = false := beq_eq_false_iff_ne.2 (by omega)
                              have hne : t ≠ S := fun h => her (says_direct HDD.out HOK.out (by rw [← hst]; exact hsx h)).1
                              clear her
                              go_wp2_with fail
                              refine (dec_Direct.live t e gd (N : Int) wr V er f hd2 HD HOK ⟨by have := HLI.out; omega⟩ ⟨by omega⟩).mono ?_
                              rintro r8 w8 ⟨rfl, hl8, _, hm8⟩
                              have HB8 := Aside0.mk (Mine.to_below hm8 HB.out HB.out.size (fun k hk => by rw [hk]; exact hgd.out))
                              have d2 : w8.cell? ⟨b, i * 4 + 2, none⟩ = some (.int .i64 (N : Int)) := by rw [HB8.out.cell hbl]; exact Q2.out
                              have d3 : w8.cell? ⟨b, i * 4 + 3, none⟩ = some (.int .u64 (r.v : Int)) := by rw [HB8.out.cell hbl]; exact Q3.out
                              clear hl8 hm8
                              go_wp2_with fail
                              refine (wringerlaw1_Err.calls (er : Int) (er : Int) _ rfl).mono ?_
                              rintro r9 w9 ⟨rfl, hd9⟩
                              have HB9 := Aside0.mk (below_then HB8.out HB8.out.size hd9.below)
                              clear hd9
                              go_wp2_with fail
                              go_roundg k3
                              case measure => have := hki.out; omega
                              case rel => exact ⟨false, i + 1, rfl, by first | rfl | exact wrap_one i (by omega), ⟨by have := hki.out; omega⟩, ⟨hil⟩, ⟨Or.inr ⟨rfl, hne⟩⟩, HB9⟩
                          · have hVb : ((V : Int) == (M : Int)) = false := beq_eq_false_iff_ne.2 (by omega)
                            have hne : t ≠ S := fun h => hVM ((says_direct HDD.out HOK.out (by rw [← hst]; exact hsx h)).2.trans HMV.out)
                            clear hVM
                            go_wp2_with fail
                            refine (dec_Direct.live t e gd (N : Int) wr V er f hd2 HD HOK ⟨by have := HLI.out; omega⟩ ⟨by omega⟩).mono ?_
                            rintro r8 w8 ⟨rfl, hl8, _, hm8⟩
                            have HB8 := Aside0.mk (Mine.to_below hm8 HB.out HB.out.size (fun k hk => by rw [hk]; exact hgd.out))
                            have d2 : w8.cell? ⟨b, i * 4 + 2, none⟩ = some (.int .i64 (N : Int)) := by rw [HB8.out.cell hbl]; exact Q2.out
                            have d3 : w8.cell? ⟨b, i * 4 + 3, none⟩ = some (.int .u64 (r.v : Int)) := by rw [HB8.out.cell hbl]; exact Q3.out
                            clear hl8 hm8
                            go_wp2_with fail
                            go_roundg k3
                            case measure => have := hki.out; omega
                            case rel => exact ⟨false, i + 1, rfl, by first | rfl | exact wrap_one i (by omega), ⟨by have := hki.out; omega⟩, ⟨hil⟩, ⟨Or.inr ⟨rfl, hne⟩⟩, HB8⟩
                        · have hN64b := eq_false (show ¬ (N : Int) < 64 by omega)
                          have hNlb := eq_false hNl
                          obtain rfl : M = r.v := by rw [← hM, show N = 64 by omega]; exact Nat.mod_eq_of_lt hVl
                          clear hM
                          obtain ⟨V, er, f, hd⟩ : ∃ V er f, dirS t N e 0 = (V, er, f) := ⟨_, _, _, rfl⟩
                          have hd2 : Aside0 (dirS t (lenN (N : Int)) e 0 = (V, er, f)) := ⟨by rw [lenN_nat N hN64]; exact hd⟩
                          have HDD := Aside0.mk hd
                          clear hd
                          by_cases hVM : V = r.v
                          · have hVb : ((V : Int) == (r.v : Int)) = true := beq_iff_eq.2 (by omega)
                            have HVM := Aside0.mk hVM
                            clear hVM
                            by_cases her : er = 0
                            · have hf : f = directE r.v N e := told_direct HDD.out her (by rw [HVM.out]; exact HMV.out.symm)
                              subst her
                              go_wp2_with fail
                              refine (dec_Direct.live t e gd (N : Int) wr V 0 f hd2 HD HOK ⟨by have := HLI.out; omega⟩ ⟨by omega⟩).mono ?_
                              rintro r8 w8 ⟨rfl, hl8, _, hm8⟩
                              have HB8 := Aside0.mk (Mine.to_below hm8 HB.out HB.out.size (fun k hk => by rw [hk]; exact hgd.out))
                              have d2 : w8.cell? ⟨b, i * 4 + 2, none⟩ = some (.int .i64 (N : Int)) := by rw [HB8.out.cell hbl]; exact Q2.out
                              have d3 : w8.cell? ⟨b, i * 4 + 3, none⟩ = some (.int .u64 (r.v : Int)) := by rw [HB8.out.cell hbl]; exact Q3.out
                              have HD8 := Aside0.mk (hl8 rfl).1
                              rw [hf, ← hst] at HD8
                              clear hl8 hm8 hf
                              go_wp2_with fail
                              refine (wringerlaw1_Err.calls 0 0 _ rfl).mono ?_
                              rintro r9 w9 ⟨rfl, hd9⟩
                              have HB9 := Aside0.mk (below_then HB8.out HB8.out.size hd9.below)
                              have HD9 := Aside0.mk (HD8.out.below hd9.below)
                              clear hd9
                              go_wp2_with fail
                              go_roundg k3
                              case measure => have := hki.out; omega
                              case rel => exact ⟨true, i + 1, rfl, by first | rfl | exact wrap_one i (by omega), ⟨by have := hki.out; omega⟩, ⟨hil⟩, ⟨Or.inl ⟨rfl, by rw [HNX.out]; exact HD9.out⟩⟩, HB9⟩
                            · have heb : ((er : Int) == 0) = false := beq_eq_false_iff_ne.2 (by omega)
                              have hne : t ≠ S := fun h => her (says_direct HDD.out HOK.out (by rw [← hst]; exact hsx h)).1
                              clear her
                              go_wp2_with fail
                              refine (dec_Direct.live t e gd (N : Int) wr V er f hd2 HD HOK ⟨by have := HLI.out; omega⟩ ⟨by omega⟩).mono ?_
                              rintro r8 w8 ⟨rfl, hl8, _, hm8⟩
                              have HB8 := Aside0.mk (Mine.to_below hm8 HB.out HB.out.size (fun k hk => by rw [hk]; exact hgd.out))
                              have d2 : w8.cell? ⟨b, i * 4 + 2, none⟩ = some (.int .i64 (N : Int)) := by rw [HB8.out.cell hbl]; exact Q2.out
                              have d3 : w8.cell? ⟨b, i * 4 + 3, none⟩ = some (.int .u64 (r.v : Int)) := by rw [HB8.out.cell hbl]; exact Q3.out
                              clear hl8 hm8
                              go_wp2_with fail
                              refine (wringerlaw1_Err.calls (er : Int) (er : Int) _ rfl).mono ?_
                              rintro r9 w9 ⟨rfl, hd9⟩
                              have HB9 := Aside0.mk (below_then HB8.out HB8.out.size hd9.below)
                              clear hd9
                              go_wp2_with fail
                              go_roundg k3
                              case measure => have := hki.out; omega
                              case rel => exact ⟨false, i + 1, rfl, by first | rfl | exact wrap_one i (by omega), ⟨by have := hki.out; omega⟩, ⟨hil⟩, ⟨Or.inr ⟨rfl, hne⟩⟩, HB9⟩
                          · have hVb : ((V : Int) == (r.v : Int)) = false := beq_eq_false_iff_ne.2 (by omega)
                            have hne : t ≠ S := fun h => hVM ((says_direct HDD.out HOK.out (by rw [← hst]; exact hsx h)).2.trans HMV.out)
                            clear hVM
                            go_wp2_with fail
                            refine (dec_Direct.live t e gd (N : Int) wr V er f hd2 HD HOK ⟨by have := HLI.out; omega⟩ ⟨by omega⟩).mono ?_
                            rintro r8 w8 ⟨rfl, hl8, _, hm8⟩
                            have HB8 := Aside0.mk (Mine.to_below hm8 HB.out HB.out.size (fun k hk => by rw [hk]; exact hgd.out))
                            have d2 : w8.cell? ⟨b, i * 4 + 2, none⟩ = some (.int .i64 (N : Int)) := by rw [HB8.out.cell hbl]; exact Q2.out
                            have d3 : w8.cell? ⟨b, i * 4 + 3, none⟩ = some (.int .u64 (r.v : Int)) := by rw [HB8.out.cell hbl]; exact Q3.out
                            clear hl8 hm8
                            go_wp2_with fail
                            go_roundg k3
                            case measure => have := hki.out; omega
                            case rel => exact ⟨false, i + 1, rfl, by first | rfl | exact wrap_one i (by omega), ⟨by have := hki.out; omega⟩, ⟨hil⟩, ⟨Or.inr ⟨rfl, hne⟩⟩, HB8⟩
                    · have hil1 := eq_false (show ¬ (i : Int) < (len : Int) by omega)
                      obtain rfl : len = i := by omega
                      have htl : l.take len = l := List.take_of_length_le (by omega)
                      have HDF : Aside0 (LiveAt wr gd t F) := ⟨by have := HD.out; rw [htl, HF.out] at this; exact this⟩
                      clear htl HD hil
                      obtain ⟨n, hn⟩ : ∃ n, endE t F = n := ⟨_, rfl⟩
                      by_cases hn0 : n = 0
                      · subst hn0
                        have hts : t = S := by rw [← HSE.out]; exact end_only HOKF.out HDF.out.lo hn
                        have HN0 := Aside0.mk hn
                        clear hn
                        go_wp2_with fail
                        refine (dec_End.live t F gd wr HDF HOKF ⟨HL1.out.2⟩ ⟨by omega⟩ 0 HN0).mono ?_
                        rintro r8 w8 ⟨rfl, _, _, hm8⟩
                        have HB8 := Aside0.mk (Mine.to_below hm8 HB.out HB.out.size (fun k hk => by rw [hk]; exact hgd.out))
                        clear hm8
                        go_wp2_with fail
                        refine (wringerlaw1_Err.calls 0 0 _ rfl).mono ?_
                        rintro r9 w9 ⟨rfl, hd9⟩
                        have HB9 := Aside0.mk (below_then HB8.out HB8.out.size hd9.below)
                        clear hd9
                        rcases HEQ.out.1 hts with hk0 | ⟨hk3, hb0⟩
                        · have hk0b : ((k : Int) == 0) = true := beq_iff_eq.2 (by omega)
                          have HK0 := Aside0.mk hk0
                          clear hk0
                          go_wp2_with fail
                          go_roundg k2
                          case measure => have := hk.out; omega
                          case rel => exact ⟨k + 1, by first | rfl | exact wrap_one k (by omega), ⟨by have := hk.out; omega⟩, ⟨hkl⟩, HB9⟩
                        · have hk0b : ((k : Int) == 0) = false := beq_eq_false_iff_ne.2 (by omega)
                          have hk3b : ((k : Int) == 3) = true := beq_iff_eq.2 (by omega)
                          have hbyb : ((by_ : Int) == 0) = true := beq_iff_eq.2 (by omega)
                          have HK3 := Aside0.mk (And.intro hk3 hb0)
                          clear hk3 hb0
                          go_wp2_with fail
                          go_roundg k2
                          case measure => have := hk.out; omega
                          case rel => exact ⟨k + 1, by first | rfl | exact wrap_one k (by omega), ⟨by have := hk.out; omega⟩, ⟨hkl⟩, HB9⟩
                      · have hne : t ≠ S := fun h => hn0 (by rw [← hn, h]; exact HEND.out)
                        have HNE := Aside0.mk (fun h => hne (HEQ.out.2 h))
                        have hnb : ((n : Int) == 0) = false := beq_eq_false_iff_ne.2 (by omega)
                        have HN0 := Aside0.mk hn
                        clear hn hne hn0
                        go_wp2_with fail
                        refine (dec_End.live t F gd wr HDF HOKF ⟨HL1.out.2⟩ ⟨by omega⟩ n HN0).mono ?_
                        rintro r8 w8 ⟨rfl, _, _, hm8⟩
                        have HB8 := Aside0.mk (Mine.to_below hm8 HB.out HB.out.size (fun k hk => by rw [hk]; exact hgd.out))
                        clear hm8
                        go_wp2_with fail
                        refine (wringerlaw1_Err.calls (n : Int) (n : Int) _ rfl).mono ?_
                        rintro r9 w9 ⟨rfl, hd9⟩
                        have HB9 := Aside0.mk (below_then HB8.out HB8.out.size hd9.below)
                        clear hd9
                        have hk0 : ((k : Int) == 0) = false := beq_eq_false_iff_ne.2 (fun h => HNE.out (Or.inl (by omega)))
                        by_cases hk3 : k = 3
                        · have hk3b : ((k : Int) == 3) = true := beq_iff_eq.2 (by omega)
                          have hbyb : ((by_ : Int) == 0) = false := beq_eq_false_iff_ne.2 (fun h => HNE.out (Or.inr ⟨hk3, by omega⟩))
                          have HK3 := Aside0.mk hk3
                          clear hk3
                          go_wp2_with fail
                          go_roundg k2
                          case measure => have := hk.out; omega
                          case rel => exact ⟨k + 1, by first | rfl | exact wrap_one k (by omega), ⟨by have := hk.out; omega⟩, ⟨hkl⟩, HB9⟩
                        · have hk3b : ((k : Int) == 3) = false := beq_eq_false_iff_ne.2 (by omega)
                          go_wp2_with fail
                          go_roundg k2
                          case measure => have := hk.out; omega
                          case rel => exact ⟨k + 1, by first | rfl | exact wrap_one k (by omega), ⟨by have := hk.out; omega⟩, ⟨hkl⟩, HB9⟩
            · have hkl1 := eq_false (show ¬ (k : Int) < 4 by omega)
              go_wp2_with fail
              refine (awake15.calls _).mono ?_
              rintro r9 w9 ⟨rfl, hb9⟩
              go_wp2
              go_ret
              exact ⟨rfl, below_step (below_then HB6.out HB6.out.size HB.out) hb9⟩
set_option maxHeartbeats 4000000 in
set_option maxRecDepth 100000 in
theorem chanceBack_out (A : Option Addr) (len cap : Nat) (a1 a2 : Int) (W : World) (hln : 120 < len) :
    Calls Try.prog 8 #[.slice A len cap, .int .u8 a1, .int .u8 a2] W fun e w' => e = .returned (.bool true) ∧ Below W.heap.size W w' := by
  have hl1 : decide ((len : Int) > 120) = true := decide_eq_true (by omega)
  go_enter Try.func8, Try.ntmps8
  go_wp2_with fail
  refine (chance_New.calls _).mono ?_
  rintro r w1 ⟨g1, v1, rfl, _, _, hb⟩
  go_wp2_with fail
  refine (awake15.calls _).mono ?_
  rintro r w9 ⟨rfl, hb9⟩
  go_wp2
  go_ret
  exact ⟨rfl, below_step hb hb9⟩
theorem wringerlaw15_ChanceBack.walk (a0 : Option Addr) (len0 cap0 : Nat) (a1 a2 : Int) (W : World) (w0 : IsAsks W a0 len0) (w1 : (Lit.int .u8 a1).wf = true) (w2 : (Lit.int .u8 a2).wf = true) :
    Calls Try.prog 8 #[.slice a0 len0 cap0, .int .u8 a1, .int .u8 a2] W fun e W' => e = .returned (.bool true) ∧ Below W.heap.size W W' := by
  by_cases h : len0 ≤ 120
  · have h1 := u8_bounds _ w1
    have h2 := u8_bounds _ w2
    obtain ⟨x, rfl⟩ : ∃ n : Nat, a1 = (n : Int) := ⟨a1.toNat, by omega⟩
    obtain ⟨y, rfl⟩ : ∃ n : Nat, a2 = (n : Int) := ⟨a2.toNat, by omega⟩
    refine chanceBack_main a0 len0 cap0 x y (by omega) (by omega) W ⟨w0⟩ (fun ha => ?_) h
    rcases Nat.eq_zero_or_pos len0 with h0 | h0
    · exact h0
    · obtain ⟨z, _, _, _, _, hz, _⟩ := w0 0 h0
      rw [ha] at hz
      cases hz
  · exact chanceBack_out a0 len0 cap0 a1 a2 W (by omega)
end Go.Proofs.Ytgldblakdhalkaa
