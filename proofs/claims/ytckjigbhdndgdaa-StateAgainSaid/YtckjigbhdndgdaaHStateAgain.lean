/- StateAgain walked: the call returns true, and of the memory that was there nothing turns. -/
import Derived.Test.YtckjigbhdndgdaaGTwo
namespace Go.Proofs.Ytckjigbhdndgdaa
set_option linter.unusedVariables false
open Go.RowKit Go.Proofs.YtckjigbhdndgdaaW.PrintWords Go.Proofs.YtckjigbhdndgdaaW.PrintLast Go.Proofs.YtckjigbhdndgdaaW.PrintMore Go.Proofs.Ytckjigbhdndgdaa.PBits Go.Proofs.Ytckjigbhdndgdaa.PReader Go.Proofs.Ytckjigbhdndgdaa.PRef
theorem empty_app (s : ByteArray) : ByteArray.empty ++ s = s := by
  apply lst_inj
  rw [lst_append]
  rfl
theorem extract_zero (s : ByteArray) : s.extract 0 0 = ByteArray.empty := by
  apply lst_inj
  rw [lst_extract]
  rfl
theorem extract_snoc (s : ByteArray) (i : Nat) (h : i < s.size) : s.extract 0 i ++ s.extract i (i + 1) = s.extract 0 (i + 1) := by
  apply lst_inj
  rw [lst_append, lst_extract, lst_extract, lst_extract, List.drop_zero, Nat.sub_zero, Nat.sub_zero, show i + 1 - i = 1 by omega, List.take_add]
theorem empty_few (s : ByteArray) (h : s.size ≤ 300) : ByteArray.empty.size + s.size ≤ 1000000000 := by
  rw [show ByteArray.empty.size = 0 from rfl]
  omega
set_option maxHeartbeats 1000000 in
set_option maxRecDepth 100000 in
theorem stateAgain_main (seed : Nat) (hs : Aside0 (seed < 18446744073709551616)) (s : ByteArray) (ask : Int) (W : World) :
    Calls Try.prog 10 #[.int .u64 (seed : Int), .string s, .int .u8 ask] W fun e w' => e = .returned (.bool true) ∧ Below W.heap.size W w' := by
  by_cases hsz : s.size ≤ 300
  · have hl1 : decide ((s.size : Int) > 300) = false := decide_eq_false (by omega)
    have hl2 : decide (300 < s.size) = false := decide_eq_false (by omega)
    go_enter Try.func10, Try.ntmps10
    go_wp2_with fail
    refine (state_New.of seed _).mono ?_
    rintro e w1 ⟨rfl, hSa, hb1, hlt1⟩
    have HSa : Aside0 (StAt w1 W.heap.size W.heap.size seed ByteArray.empty ((ByteArray.empty.size : Nat) : Int) (.slice none 0 0)) := ⟨hSa W.heap.size⟩
    have HB1 := Aside0.mk hb1
    clear hSa hb1
    go_wp2_with fail
    refine (state_New.of seed _).mono ?_
    rintro e w2 ⟨rfl, hSb, hb2, hlt2⟩
    have HSb := Aside0.mk (hSb W.heap.size)
    have HSa2 := Aside0.mk (HSa.out.below hb2)
    have HB2 := Aside0.mk (below_step HB1.out hb2)
    have hab := Aside0.mk (apart_new hlt1)
    have hgb : Aside0 (W.heap.size ≤ w1.heap.size) := ⟨Nat.le_of_lt hlt1⟩
    clear hSb hb2 HSa HB1 hlt1 hlt2
    obtain ⟨g2, hg2⟩ : ∃ g2, w1.heap.size = g2 := ⟨_, rfl⟩
    rw [hg2] at HSb hab hgb ⊢
    go_wp2_with fail
    refine (state_Write.of seed ByteArray.empty s _ W.heap.size W.heap.size w2 HSa2.out HB2.out.size (Nat.le_refl _) (empty_few s hsz)).mono ?_
    rintro e w3 ⟨rfl, va, hSa3, hm3⟩
    rw [empty_app s] at hSa3
    have hab3 : Aside0 (Apart g2 (.slice none 0 0) W.heap.size va) := ⟨(hab.out.symm).moved HSb.out.lt hm3⟩
    have HSa3 := Aside0.mk hSa3
    have HSb3 := Aside0.mk (HSb.out.other hab.out.symm hm3)
    have HB3 := Aside0.mk (hm3.to_below HB2.out HB2.out.size (Nat.le_refl _) HSa2.out.ge)
    clear hSa3 hm3 HSb HB2 HSa2 hab
    go_wp2_with fail
    go_loopg [9] (s.size + 1) (fun kq v9 w' => ∃ (i : Nat) (vb : Value), v9 = .int .i64 (i : Int) ∧ Aside0 (kq = s.size - i + 1) ∧ Aside0 (i ≤ s.size) ∧ Aside0 (StAt w' W.heap.size W.heap.size seed s (s.size : Int) va) ∧ Aside0 (StAt w' W.heap.size g2 seed (s.extract 0 i) (i : Int) vb) ∧ Aside0 (Apart g2 vb W.heap.size va) ∧ Aside0 (Below W.heap.size W w'))
    case atStart => exact ⟨0, .slice none 0 0, rfl, ⟨by omega⟩, ⟨Nat.zero_le _⟩, HSa3, ⟨by rw [extract_zero s]; exact HSb3.out⟩, hab3, HB3⟩
    case round =>
      clear HSa3 HSb3 hab3 HB3
      obtain ⟨i, vb, rfl, hk, hi, HSa, HSb, hab, HB⟩ := hrel
      cases gk with
      | zero => exact absurd hk.out (by omega)
      | succ k1 =>
        have hi2 := hi.out
        by_cases hil : i < s.size
        · have hil1 := eq_true (show (i : Int) < (s.size : Int) by omega)
          have hb0 := eq_true (show (0 : Int) ≤ (i : Int) by omega)
          have hb1 := eq_true (show (i : Int) + 1 ≤ (s.size : Int) by omega)
          have hb2 := eq_true (show (i : Int) ≤ (i : Int) + 1 by omega)
          have hb3 := eq_true (show (0 : Int) ≤ (i : Int) + 1 by omega)
          by_cases c0 : ask.tmod 2 = 0
          · have c0b : (ask.tmod 2 == 0) = true := beq_iff_eq.2 c0
            go_wp2_with fail
            have hsl0 : Aside0 ((s.extract 0 i).size = i) := ⟨by rw [ByteArray.size_extract]; omega⟩
            refine (state_Sum.calls seed hs.out (s.extract 0 i) (by rw [hsl0.out]; omega) vb _ _ _ (by rw [hsl0.out]; exact HSb.out)).mono ?_
            rintro e w4 ⟨rfl, hb4⟩
            have HB4 := Aside0.mk (below_step HB.out hb4)
            have HSa4 := Aside0.mk (HSa.out.below hb4)
            have HSb4 := Aside0.mk (HSb.out.below hb4)
            clear HB HSa HSb hb4
            have HB := HB4
            have HSa := HSa4
            have HSb := HSb4
            clear HB4 HSa4 HSb4
            go_wp2_with fail
            have hsl : Aside0 ((s.extract 0 i).size = i) := ⟨by rw [ByteArray.size_extract]; omega⟩
            refine (state_Write.of seed (s.extract 0 i) (s.extract i (i + 1)) vb W.heap.size g2 _ (by rw [hsl.out]; exact HSb.out) HB.out.size hgb.out (by rw [hsl.out, ByteArray.size_extract]; omega)).mono ?_
            rintro e w5 ⟨rfl, v5, hSb5, hm5⟩
            rw [extract_snoc s i hil] at hSb5
            have HB5 := Aside0.mk (hm5.to_below HB.out HB.out.size hgb.out HSb.out.ge)
            have HSa5 := Aside0.mk (HSa.out.other hab.out.symm hm5)
            have hab5 := Aside0.mk ((hab.out.symm.moved HSa.out.lt hm5).symm)
            have HSb5 := Aside0.mk hSb5
            clear HB HSa hab HSb hSb5 hm5
            go_wp2_with fail
            refine (state_Write.of seed (s.extract 0 (i + 1)) ByteArray.empty v5 W.heap.size g2 _ HSb5.out HB5.out.size hgb.out (by rw [show ByteArray.empty.size = 0 from rfl, ByteArray.size_extract]; omega)).mono ?_
            rintro e w6 ⟨rfl, v6, hSb6, hm6⟩
            rw [app_empty, show (s.extract 0 (i + 1)).size = i + 1 by rw [ByteArray.size_extract]; omega] at hSb6
            have HB6 := Aside0.mk (hm6.to_below HB5.out HB5.out.size hgb.out HSb5.out.ge)
            have HSa6 := Aside0.mk (HSa5.out.other hab5.out.symm hm6)
            have hab6 := Aside0.mk ((hab5.out.symm.moved HSa5.out.lt hm6).symm)
            go_wp2_with fail
            go_roundg k1
            case measure => omega
            case rel => exact ⟨i + 1, v6, rfl, ⟨by have := hk.out; omega⟩, ⟨by omega⟩, HSa6, ⟨hSb6⟩, hab6, HB6⟩
          · have c0b : (ask.tmod 2 == 0) = false := beq_eq_false_iff_ne.2 c0
            by_cases c1 : ((i : Int) % 7 == (wrap64 ask).tmod 7) = true
            · go_wp2_with fail
              have hsl0 : Aside0 ((s.extract 0 i).size = i) := ⟨by rw [ByteArray.size_extract]; omega⟩
              refine (state_Sum.calls seed hs.out (s.extract 0 i) (by rw [hsl0.out]; omega) vb _ _ _ (by rw [hsl0.out]; exact HSb.out)).mono ?_
              rintro e w4 ⟨rfl, hb4⟩
              have HB4 := Aside0.mk (below_step HB.out hb4)
              have HSa4 := Aside0.mk (HSa.out.below hb4)
              have HSb4 := Aside0.mk (HSb.out.below hb4)
              clear HB HSa HSb hb4
              have HB := HB4
              have HSa := HSa4
              have HSb := HSb4
              clear HB4 HSa4 HSb4
              go_wp2_with fail
              have hsl : Aside0 ((s.extract 0 i).size = i) := ⟨by rw [ByteArray.size_extract]; omega⟩
              refine (state_Write.of seed (s.extract 0 i) (s.extract i (i + 1)) vb W.heap.size g2 _ (by rw [hsl.out]; exact HSb.out) HB.out.size hgb.out (by rw [hsl.out, ByteArray.size_extract]; omega)).mono ?_
              rintro e w5 ⟨rfl, v5, hSb5, hm5⟩
              rw [extract_snoc s i hil] at hSb5
              have HB5 := Aside0.mk (hm5.to_below HB.out HB.out.size hgb.out HSb.out.ge)
              have HSa5 := Aside0.mk (HSa.out.other hab.out.symm hm5)
              have hab5 := Aside0.mk ((hab.out.symm.moved HSa.out.lt hm5).symm)
              have HSb5 := Aside0.mk hSb5
              clear HB HSa hab HSb hSb5 hm5
              go_wp2_with fail
              refine (state_Write.of seed (s.extract 0 (i + 1)) ByteArray.empty v5 W.heap.size g2 _ HSb5.out HB5.out.size hgb.out (by rw [show ByteArray.empty.size = 0 from rfl, ByteArray.size_extract]; omega)).mono ?_
              rintro e w6 ⟨rfl, v6, hSb6, hm6⟩
              rw [app_empty, show (s.extract 0 (i + 1)).size = i + 1 by rw [ByteArray.size_extract]; omega] at hSb6
              have HB6 := Aside0.mk (hm6.to_below HB5.out HB5.out.size hgb.out HSb5.out.ge)
              have HSa6 := Aside0.mk (HSa5.out.other hab5.out.symm hm6)
              have hab6 := Aside0.mk ((hab5.out.symm.moved HSa5.out.lt hm6).symm)
              go_wp2_with fail
              go_roundg k1
              case measure => omega
              case rel => exact ⟨i + 1, v6, rfl, ⟨by have := hk.out; omega⟩, ⟨by omega⟩, HSa6, ⟨hSb6⟩, hab6, HB6⟩
            · have c1b : ((i : Int) % 7 == (wrap64 ask).tmod 7) = false := by simpa using c1
              go_wp2_with fail
              have hsl : Aside0 ((s.extract 0 i).size = i) := ⟨by rw [ByteArray.size_extract]; omega⟩
              refine (state_Write.of seed (s.extract 0 i) (s.extract i (i + 1)) vb W.heap.size g2 _ (by rw [hsl.out]; exact HSb.out) HB.out.size hgb.out (by rw [hsl.out, ByteArray.size_extract]; omega)).mono ?_
              rintro e w5 ⟨rfl, v5, hSb5, hm5⟩
              rw [extract_snoc s i hil] at hSb5
              have HB5 := Aside0.mk (hm5.to_below HB.out HB.out.size hgb.out HSb.out.ge)
              have HSa5 := Aside0.mk (HSa.out.other hab.out.symm hm5)
              have hab5 := Aside0.mk ((hab.out.symm.moved HSa.out.lt hm5).symm)
              have HSb5 := Aside0.mk hSb5
              clear HB HSa hab HSb hSb5 hm5
              go_wp2_with fail
              refine (state_Write.of seed (s.extract 0 (i + 1)) ByteArray.empty v5 W.heap.size g2 _ HSb5.out HB5.out.size hgb.out (by rw [show ByteArray.empty.size = 0 from rfl, ByteArray.size_extract]; omega)).mono ?_
              rintro e w6 ⟨rfl, v6, hSb6, hm6⟩
              rw [app_empty, show (s.extract 0 (i + 1)).size = i + 1 by rw [ByteArray.size_extract]; omega] at hSb6
              have HB6 := Aside0.mk (hm6.to_below HB5.out HB5.out.size hgb.out HSb5.out.ge)
              have HSa6 := Aside0.mk (HSa5.out.other hab5.out.symm hm6)
              have hab6 := Aside0.mk ((hab5.out.symm.moved HSa5.out.lt hm6).symm)
              go_wp2_with fail
              go_roundg k1
              case measure => omega
              case rel => exact ⟨i + 1, v6, rfl, ⟨by have := hk.out; omega⟩, ⟨by omega⟩, HSa6, ⟨hSb6⟩, hab6, HB6⟩
        · have hil1 := eq_false (show ¬ (i : Int) < (s.size : Int) by omega)
          have he : s.extract 0 i = s := by rw [show i = s.size by omega]; exact extract_all s
          rw [he, show i = s.size by omega] at HSb
          go_wp2_with fail
          refine (state_Sum.calls seed hs.out s (by omega) va _ _ _ HSa.out).mono ?_
          rintro e w4 ⟨rfl, hb4⟩
          have HB4 := Aside0.mk (below_step HB.out hb4)
          have HSa4 := Aside0.mk (HSa.out.below hb4)
          have HSb4 := Aside0.mk (HSb.out.below hb4)
          clear HB HSa HSb hb4
          go_wp2_with fail
          refine (state_Sum.calls seed hs.out s (by omega) vb _ _ _ HSb4.out).mono ?_
          rintro e w5 ⟨rfl, hb5⟩
          have HB5 := Aside0.mk (below_step HB4.out hb5)
          have HSa5 := Aside0.mk (HSa4.out.below hb5)
          have HSb5 := Aside0.mk (HSb4.out.below hb5)
          clear HB4 HSa4 HSb4 hb5
          go_wp2_with fail
          refine (state_Sum.calls seed hs.out s (by omega) va _ _ _ HSa5.out).mono ?_
          rintro e w6 ⟨rfl, hb6⟩
          have HB6 := Aside0.mk (below_step HB5.out hb6)
          have HSa6 := Aside0.mk (HSa5.out.below hb6)
          have HSb6 := Aside0.mk (HSb5.out.below hb6)
          clear HB5 HSa5 HSb5 hb6
          go_wp2_with fail
          refine (state_Sum.calls seed hs.out s (by omega) va _ _ _ HSa6.out).mono ?_
          rintro e w7 ⟨rfl, hb7⟩
          have HB7 := Aside0.mk (below_step HB6.out hb7)
          have HSb7 := Aside0.mk (HSb6.out.below hb7)
          clear HB6 HSa6 HSb6 hb7
          go_wp2_with fail
          refine (state_Len.calls seed s vb _ _ _ HSb7).mono ?_
          rintro e w8 ⟨rfl, hb8⟩
          have HB8 := Aside0.mk (below_step HB7.out hb8)
          clear HB7 HSb7 hb8
          go_wp2_with fail
          refine (wringerlaw6_awake.calls _).mono ?_
          rintro e w9 ⟨rfl, hb9⟩
          go_wp2
          go_ret
          exact ⟨rfl, below_step HB8.out hb9⟩
  · have hl1 : decide ((s.size : Int) > 300) = true := decide_eq_true (by omega)
    have hl2 : decide (300 < s.size) = true := decide_eq_true (by omega)
    go_enter Try.func10, Try.ntmps10
    go_wp2_with fail
    refine (wringerlaw6_awake.calls _).mono ?_
    rintro e w2 ⟨rfl, hb⟩
    go_wp2
    go_ret
    exact ⟨rfl, hb⟩
theorem u64_nat (a : Int) (h : (Lit.int .u64 a).wf = true) : ∃ n : Nat, n < 18446744073709551616 ∧ a = (n : Int) := by
  simp only [Lit.wf, Bool.and_eq_true, decide_eq_true_eq] at h
  have h0 : 0 ≤ a := h.1
  have h1 : a ≤ 18446744073709551615 := h.2
  exact ⟨a.toNat, by omega, by omega⟩
theorem wringerlaw6_StateAgain.walk (a0 : Int) (a1 : ByteArray) (a2 : Int) (W : World) (w0 : (Lit.int .u64 a0).wf = true) (w1 : a1.size ≤ 140737488351232) (w2 : (Lit.int .u8 a2).wf = true) :
    Calls Try.prog 10 #[.int .u64 a0, .string a1, .int .u8 a2] W fun e W' => e = .returned (.bool true) ∧ Below W.heap.size W W' := by
  obtain ⟨n, hn, rfl⟩ := u64_nat a0 w0
  exact stateAgain_main n ⟨hn⟩ a1 a2 W
end Go.Proofs.Ytckjigbhdndgdaa
