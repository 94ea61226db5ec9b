/- StateCuts walked: the call returns true, and of the memory that was there nothing turns. -/
import Derived.Test.YtckjigbhdndgdaaGTwo
namespace Go.Proofs.Ytckjigbhdndgdaa
set_option linter.unusedVariables false
open Go.RowKit Go.Proofs.YtckjigbhdndgdaaW.PrintWords Go.Proofs.YtckjigbhdndgdaaW.PrintLast Go.Proofs.YtckjigbhdndgdaaW.PrintMore Go.Proofs.Ytckjigbhdndgdaa.PBits Go.Proofs.Ytckjigbhdndgdaa.PReader Go.Proofs.Ytckjigbhdndgdaa.PRef
theorem empty_app (s : ByteArray) : ByteArray.empty ++ s = s := by
  apply lst_inj
  rw [lst_append]
  rfl
theorem extract_zero (s : ByteArray) : s.extract 0 0 = ByteArray.empty := by
  apply lst_inj
  rw [lst_extract]
  rfl
theorem extract_snoc (s : ByteArray) (i : Nat) (h : i < s.size) : s.extract 0 i ++ s.extract i (i + 1) = s.extract 0 (i + 1) := by
  apply lst_inj
  rw [lst_append, lst_extract, lst_extract, lst_extract, List.drop_zero, Nat.sub_zero, Nat.sub_zero, show i + 1 - i = 1 by omega, List.take_add]
theorem tmod_nat (c n q : Nat) (h : c % (n + 1) = q) : Int.tmod (c : Int) ((n : Int) + 1) = (q : Int) := by
  rw [Int.tmod_eq_emod_of_nonneg (by omega), ← h]
  norm_cast
theorem extract_more (s : ByteArray) (p q : Nat) (h : p ≤ s.size) (hq : p + q ≤ s.size) : s.extract 0 p ++ (s.extract p s.size).extract 0 q = s.extract 0 (p + q) := by
  apply lst_inj
  rw [lst_append, lst_extract, lst_extract, lst_extract, lst_extract, List.drop_zero, List.drop_zero, Nat.sub_zero, Nat.sub_zero, Nat.sub_zero, List.take_take, Nat.min_eq_left (by omega), List.take_add]
theorem u8_of {x : Int} (h : (Lit.int .u8 x).wf = true) : ∃ c : Nat, x = (c : Int) ∧ c < 256 := by
  simp only [Lit.wf, Bool.and_eq_true, decide_eq_true_eq] at h
  have h0 : 0 ≤ x := h.1
  have h1 : x ≤ 255 := h.2
  exact ⟨x.toNat, by omega, by omega⟩
theorem empty_few (s : ByteArray) (h : s.size ≤ 1000) : ByteArray.empty.size + s.size ≤ 1000000000 := by
  rw [show ByteArray.empty.size = 0 from rfl]
  omega
/-- A slice of numbers in memory. -/
def IsNums (k : IntKind) (w : World) (a : Option Addr) (len cap : Nat) (zs : List Int) : Prop :=
  (a = none ∧ len = 0 ∧ cap = 0 ∧ zs = []) ∨
  ∃ x, a = some x ∧ len ≤ cap ∧ cap ≤ maxLen ∧ zs.length = cap ∧ (∀ i, i < zs.length → w.cell? (x.add i) = some (.int k (zs.getD i 0))) ∧ ∀ n ∈ zs, (Lit.int k n).wf = true
/-- Three states, apart. -/
structure T3 (w : World) (B ga gb gc sa sc : Nat) (Ta Tb Tc : ByteArray) (va vb vc : Value) : Prop where
  a : StAt w B ga sa Ta (Ta.size : Int) va
  b : StAt w B gb sa Tb (Tb.size : Int) vb
  c : StAt w B gc sc Tc (Tc.size : Int) vc
  ab : Apart ga va gb vb
  ac : Apart ga va gc vc
  bc : Apart gb vb gc vc
section
variable {w w' : World} {B ga gb gc sa sc : Nat} {Ta Tb Tc T : ByteArray} {va vb vc v : Value}
theorem T3.below (h : T3 w B ga gb gc sa sc Ta Tb Tc va vb vc) (hb : Below w.heap.size w w') : T3 w' B ga gb gc sa sc Ta Tb Tc va vb vc := ⟨h.a.below hb, h.b.below hb, h.c.below hb, h.ab, h.ac, h.bc⟩
theorem T3.moveA (h : T3 w B ga gb gc sa sc Ta Tb Tc va vb vc) (hs : StAt w' B ga sa T (T.size : Int) v) (hm : Moved ga w va w' v) : T3 w' B ga gb gc sa sc T Tb Tc v vb vc :=
  ⟨hs, h.b.other h.ab.symm hm, h.c.other h.ac.symm hm, (h.ab.symm.moved h.b.lt hm).symm, (h.ac.symm.moved h.c.lt hm).symm, h.bc⟩
theorem T3.moveB (h : T3 w B ga gb gc sa sc Ta Tb Tc va vb vc) (hs : StAt w' B gb sa T (T.size : Int) v) (hm : Moved gb w vb w' v) : T3 w' B ga gb gc sa sc Ta T Tc va v vc :=
  ⟨h.a.other h.ab hm, hs, h.c.other h.bc.symm hm, h.ab.moved h.a.lt hm, h.ac, (h.bc.symm.moved h.c.lt hm).symm⟩
theorem T3.moveC (h : T3 w B ga gb gc sa sc Ta Tb Tc va vb vc) (hs : StAt w' B gc sc T (T.size : Int) v) (hm : Moved gc w vc w' v) : T3 w' B ga gb gc sa sc Ta Tb T va vb v :=
  ⟨h.a.other h.ac hm, h.b.other h.bc hm, hs, h.ab, h.ac.moved h.a.lt hm, h.bc.moved h.b.lt hm⟩
end
theorem state_Write.none (s : ByteArray) (w : World) : Calls Try.prog 20 #[.pointer none, .string s] w fun e w' => e = .returned (.tuple #[]) ∧ Below w.heap.size w w' := by
  go_enter Try.func20, Try.ntmps20
  go_wp2
  refine bodyPost_ret (results_none rfl _ _ _) rfl ?_
  exact ⟨rfl, Below.refl _ _⟩
theorem state_Sum.none (w : World) : Calls Try.prog 21 #[.pointer none] w fun e w' => e = .returned (.int .u64 0) ∧ Below w.heap.size w w' := by
  go_enter Try.func21, Try.ntmps21
  go_wp2
  go_ret
  exact ⟨rfl, Below.refl _ _⟩
theorem state_Len.none (w : World) : Calls Try.prog 22 #[.pointer none] w fun e w' => e = .returned (.int .i64 0) ∧ Below w.heap.size w w' := by
  go_enter Try.func22, Try.ntmps22
  go_wp2
  go_ret
  exact ⟨rfl, Below.refl _ _⟩
set_option maxHeartbeats 2000000 in
set_option maxRecDepth 100000 in
theorem stateCuts_main (seed sc : Nat) (hs : Aside0 (seed < 18446744073709551616)) (hsc : Aside0 (sc < 18446744073709551616)) (hws : IntKind.u64.wrap ((seed : Int) + 1) = (sc : Int)) (s : ByteArray) (A : Option Addr) (len cap : Nat) (zs : List Int) (W : World) (hr : Aside0 (IsNums .u8 W A len cap zs))
    (hsz : s.size ≤ 1000) (hln : len ≤ 40) :
    Calls Try.prog 9 #[.int .u64 (seed : Int), .string s, .slice A len cap] W fun e w' => e = .returned (.bool true) ∧ Below W.heap.size W w' := by
  have hl1 : decide ((s.size : Int) > 1000) = false := decide_eq_false (by omega)
  have hl2 : decide (1000 < s.size) = false := decide_eq_false (by omega)
  have hl3 : decide ((len : Int) > 40) = false := decide_eq_false (by omega)
  go_enter Try.func9, Try.ntmps9
  go_wp2_with fail
  refine (state_New.of seed _).mono ?_
  rintro e w1 ⟨rfl, hSa, hb1, hlt1⟩
  have HSa : Aside0 (StAt w1 W.heap.size W.heap.size seed ByteArray.empty ((ByteArray.empty.size : Nat) : Int) (.slice none 0 0)) := ⟨hSa W.heap.size⟩
  have HB1 := Aside0.mk hb1
  clear hSa hb1
  go_wp2_with fail
  refine (state_New.of seed _).mono ?_
  rintro e w2 ⟨rfl, hSb, hb2, hlt2⟩
  have HSb : Aside0 (StAt w2 W.heap.size w1.heap.size seed ByteArray.empty ((ByteArray.empty.size : Nat) : Int) (.slice none 0 0)) := ⟨hSb W.heap.size⟩
  have HSa2 := Aside0.mk (HSa.out.below hb2)
  have HB2 := Aside0.mk (below_step HB1.out hb2)
  clear hSb hb2 HSa HB1
  go_wp2_with fail
  refine (state_New.of sc _).mono ?_
  rintro e w3 ⟨rfl, hSc, hb3, hlt3⟩
  have HT : Aside0 (T3 w3 W.heap.size W.heap.size w1.heap.size w2.heap.size seed sc ByteArray.empty ByteArray.empty ByteArray.empty (.slice none 0 0) (.slice none 0 0) (.slice none 0 0)) :=
    ⟨⟨HSa2.out.below hb3, HSb.out.below hb3, hSc W.heap.size, apart_new hlt1, apart_new (Nat.lt_trans hlt1 hlt2), apart_new hlt2⟩⟩
  have HB3 := Aside0.mk (below_step HB2.out hb3)
  have hgb : Aside0 (W.heap.size ≤ w1.heap.size) := ⟨Nat.le_of_lt hlt1⟩
  have hgc : Aside0 (W.heap.size ≤ w2.heap.size) := ⟨Nat.le_of_lt (Nat.lt_trans hlt1 hlt2)⟩
  clear hSc hb3 HSb HSa2 HB2 hlt1 hlt2 hlt3
  obtain ⟨g2, hg2⟩ : ∃ g, w1.heap.size = g := ⟨_, rfl⟩
  obtain ⟨g3, hg3⟩ : ∃ g, w2.heap.size = g := ⟨_, rfl⟩
  rw [hg2] at HT hgb ⊢
  rw [hg3] at HT hgc ⊢
  clear hg2 hg3 hws
  go_wp2_with fail
  refine (state_Write.of seed ByteArray.empty s _ W.heap.size W.heap.size w3 HT.out.a HB3.out.size (Nat.le_refl _) (empty_few s (by omega))).mono ?_
  rintro e w4 ⟨rfl, va, hS4, hm4⟩
  rw [empty_app s] at hS4
  have HT4 := Aside0.mk (HT.out.moveA hS4 hm4)
  have HB4 := Aside0.mk (hm4.to_below HB3.out HB3.out.size (Nat.le_refl _) HT.out.a.ge)
  clear hS4 hm4 HB3 HT
  go_wp2_with fail
  go_loopg [10, 11] (len + 1) (fun kq v10 v11 w' => ∃ (i p : Nat) (Tc : ByteArray) (vb vc : Value), v10 = .string (s.extract p s.size) ∧ v11 = .int .i64 (i : Int) ∧ Aside0 (kq = len - i + 1) ∧ Aside0 (i ≤ len) ∧ Aside0 (p ≤ s.size) ∧ Aside0 (Tc.size = i) ∧ Aside0 (T3 w' W.heap.size W.heap.size g2 g3 seed sc s (s.extract 0 p) Tc va vb vc) ∧ Aside0 (Below W.heap.size W w'))
  case atStart => exact ⟨0, 0, ByteArray.empty, _, _, by rw [extract_all s], rfl, ⟨by omega⟩, ⟨Nat.zero_le _⟩, ⟨Nat.zero_le _⟩, ⟨rfl⟩, ⟨by rw [extract_zero s]; exact HT4.out⟩, HB4⟩
  case round =>
    clear HT4 HB4
    obtain ⟨i, p, Tc, vb, vc, rfl, rfl, hk, hi, hp, hTc, HT, HB⟩ := hrel
    cases gk with
    | zero => exact absurd hk.out (by omega)
    | succ k1 =>
      have hp2 := hp.out
      have hi2 := hi.out
      have hre : (s.extract p s.size).size = s.size - p := extract_size s p hp2
      by_cases hil : i < len
      · have hil1 := eq_true (show (i : Int) < (len : Int) by omega)
        have hi0 := eq_true (show (0 : Int) ≤ (i : Int) by omega)
        rcases hr.out with ⟨_, h0, _⟩ | ⟨x, rfl, hlc, hcm, hzl, hcell, hwf⟩
        · omega
        have hc0 := hcell i (by omega)
        have hc : wr.cell? (x.add i) = some (.int .u8 (zs.getD i 0)) := by rw [HB.out.cell (World.block_lt_of_cell? _ _ hc0)]; exact hc0
        clear hc0
        obtain ⟨c, hcc, hc256⟩ : ∃ c : Nat, zs.getD i 0 = (c : Int) ∧ c < 256 := u8_of (hwf _ (by rw [List.getD_eq_getElem?_getD, List.getElem?_eq_getElem (by omega)]; exact List.getElem_mem _))
        rw [hcc] at hc
        obtain ⟨R, hR⟩ : ∃ R, s.extract p s.size = R := ⟨_, rfl⟩
        obtain ⟨q, hq⟩ : ∃ q, c % (R.size + 1) = q := ⟨_, rfl⟩
        have hqR : q ≤ R.size := by rw [← hq]; have := Nat.mod_lt c (show 0 < R.size + 1 by omega); omega
        have hz0 : (((R.size : Int) + 1) == 0) = false := beq_eq_false_iff_ne.2 (by omega)
        have hz1 : ((R.size : Int) + 1 = 0) = False := eq_false (by omega)
        have hqa := eq_true (show (0 : Int) ≤ (q : Int) by omega)
        have hqb := eq_true (show (q : Int) ≤ (R.size : Int) by omega)
        have htm : Int.tmod (c : Int) ((R.size : Int) + 1) = (q : Int) := tmod_nat c R.size q hq
        have hem : (c : Int) % ((R.size : Int) + 1) = (q : Int) := by rw [← htm, Int.tmod_eq_emod_of_nonneg (by omega)]
        have hRs : (R.size : Int) ≤ 1000 := by rw [← hR, hre]; omega
        have hc255 : (c : Int) ≤ 255 := by omega
        have hc00 : (0 : Int) ≤ (c : Int) := by omega
        rw [hR]
        go_wp2_with fail
        have hRl : R.size = s.size - p := by rw [← hR, hre]
        clear hem htm hz0 hz1 hqa hqb hRs hc255 hc00 hc
        refine (state_Write.of seed (s.extract 0 p) (R.extract 0 q) vb W.heap.size g2 _ HT.out.b HB.out.size hgb.out (by rw [ByteArray.size_extract, ByteArray.size_extract]; omega)).mono ?_
        rintro e w5 ⟨rfl, v5, hS5, hm5⟩
        rw [← hR, extract_more s p q (by omega) (by omega)] at hS5
        have HB5 := Aside0.mk (hm5.to_below HB.out HB.out.size hgb.out HT.out.b.ge)
        have HT5 := Aside0.mk (HT.out.moveB hS5 hm5)
        clear HB HT hS5 hm5
        go_wp2_with fail
        refine (state_Write.of sc Tc ⟨#[120]⟩ vc W.heap.size g3 _ HT5.out.c HB5.out.size hgc.out (by rw [hTc.out, show (ByteArray.mk #[120]).size = 1 from rfl]; omega)).mono ?_
        rintro e w6 ⟨rfl, v6, hS6, hm6⟩
        have HB6 := Aside0.mk (hm6.to_below HB5.out HB5.out.size hgc.out HT5.out.c.ge)
        have HT6 := Aside0.mk (HT5.out.moveC hS6 hm6)
        clear HB5 HT5 hS6 hm6
        have hqb := eq_true (show (q : Int) ≤ (R.size : Int) by omega)
        have hqa := eq_true (show (0 : Int) ≤ (q : Int) by omega)
        go_wp2_with fail
        have hRe : R.extract q R.size = s.extract (p + q) s.size := by rw [← hR]; exact extract2 s p q (by omega)
        go_roundg k1
        case measure => omega
        case rel => exact ⟨i + 1, p + q, Tc ++ ⟨#[120]⟩, v5, v6, by rw [← hRl, hRe], rfl, ⟨by have := hk.out; omega⟩, ⟨by omega⟩, ⟨by omega⟩, ⟨by rw [size_app, hTc.out]; rfl⟩, HT6, HB6⟩
      · have hil1 := eq_false (show ¬ (i : Int) < (len : Int) by omega)
        go_wp2_with fail
        have hic : i = len := by omega
        refine (state_Write.of seed (s.extract 0 p) (s.extract p s.size) vb W.heap.size g2 _ HT.out.b HB.out.size hgb.out (by rw [ByteArray.size_extract, ByteArray.size_extract]; omega)).mono ?_
        rintro e w5 ⟨rfl, v5, hS5, hm5⟩
        rw [split_at s p hp2] at hS5
        have HB5 := Aside0.mk (hm5.to_below HB.out HB.out.size hgb.out HT.out.b.ge)
        have HT5 := Aside0.mk (HT.out.moveB hS5 hm5)
        clear HB HT hS5 hm5
        go_wp2_with fail
        refine (state_Write.none _ _).mono ?_
        rintro e w6 ⟨rfl, hb⟩
        have HB6 := Aside0.mk (below_step HB5.out hb)
        have HT6 := Aside0.mk (HT5.out.below hb)
        clear HB5 HT5 hb
        go_wp2_with fail
        refine (state_Sum.calls seed hs.out s (by omega) va _ _ _ HT6.out.a).mono ?_
        rintro e w7 ⟨rfl, hb⟩
        have HB7 := Aside0.mk (below_step HB6.out hb)
        have HT7 := Aside0.mk (HT6.out.below hb)
        clear HB6 HT6 hb
        go_wp2_with fail
        refine (state_Sum.calls seed hs.out s (by omega) v5 _ _ _ HT7.out.b).mono ?_
        rintro e w8 ⟨rfl, hb⟩
        have HB8 := Aside0.mk (below_step HB7.out hb)
        have HT8 := Aside0.mk (HT7.out.below hb)
        clear HB7 HT7 hb
        go_wp2_with fail
        refine (state_Len.calls seed s va _ _ _ ⟨HT8.out.a⟩).mono ?_
        rintro e w9 ⟨rfl, hb⟩
        have HB9 := Aside0.mk (below_step HB8.out hb)
        have HT9 := Aside0.mk (HT8.out.below hb)
        clear HB8 HT8 hb
        go_wp2_with fail
        refine (state_Len.calls seed s v5 _ _ _ ⟨HT9.out.b⟩).mono ?_
        rintro e w10 ⟨rfl, hb⟩
        have HB10 := Aside0.mk (below_step HB9.out hb)
        have HT10 := Aside0.mk (HT9.out.below hb)
        clear HB9 HT9 hb
        go_wp2_with fail
        have hTl : Tc.size = len := by rw [hTc.out, hic]
        refine (state_Len.calls sc Tc vc _ _ _ ⟨HT10.out.c⟩).mono ?_
        rintro e w11 ⟨rfl, hb⟩
        have HB11 := Aside0.mk (below_step HB10.out hb)
        have HT11 := Aside0.mk (HT10.out.below hb)
        clear HB10 HT10 hb
        go_wp2_with fail
        refine (state_Sum.none _).mono ?_
        rintro e w12 ⟨rfl, hb⟩
        have HB12 := Aside0.mk (below_step HB11.out hb)
        have HT12 := Aside0.mk (HT11.out.below hb)
        clear HB11 HT11 hb
        go_wp2_with fail
        refine (state_Len.none _).mono ?_
        rintro e w13 ⟨rfl, hb⟩
        have HB13 := Aside0.mk (below_step HB12.out hb)
        have HT13 := Aside0.mk (HT12.out.below hb)
        clear HB12 HT12 hb
        go_wp2_with fail
        refine (wringerlaw6_awake.calls _).mono ?_
        rintro e w9 ⟨rfl, hb9⟩
        go_wp2
        go_ret
        exact ⟨rfl, below_step HB13.out hb9⟩
theorem stateCuts_out1 (seed : Int) (s : ByteArray) (A : Option Addr) (len cap : Nat) (W : World) (hsz : 1000 < s.size) :
    Calls Try.prog 9 #[.int .u64 seed, .string s, .slice A len cap] W fun e w' => e = .returned (.bool true) ∧ Below W.heap.size W w' := by
  have hl1 : decide ((s.size : Int) > 1000) = true := decide_eq_true (by omega)
  have hl2 : decide (1000 < s.size) = true := decide_eq_true (by omega)
  go_enter Try.func9, Try.ntmps9
  go_wp2_with fail
  refine (wringerlaw6_awake.calls _).mono ?_
  rintro e w9 ⟨rfl, hb9⟩
  go_wp2
  go_ret
  exact ⟨rfl, hb9⟩
theorem stateCuts_out2 (seed : Int) (s : ByteArray) (A : Option Addr) (len cap : Nat) (W : World) (hsz : s.size ≤ 1000) (hl : 40 < len) :
    Calls Try.prog 9 #[.int .u64 seed, .string s, .slice A len cap] W fun e w' => e = .returned (.bool true) ∧ Below W.heap.size W w' := by
  have hl1 : decide ((s.size : Int) > 1000) = false := decide_eq_false (by omega)
  have hl2 : decide (1000 < s.size) = false := decide_eq_false (by omega)
  have hl3 : decide ((len : Int) > 40) = true := decide_eq_true (by omega)
  go_enter Try.func9, Try.ntmps9
  go_wp2_with fail
  refine (wringerlaw6_awake.calls _).mono ?_
  rintro e w9 ⟨rfl, hb9⟩
  go_wp2
  go_ret
  exact ⟨rfl, hb9⟩
theorem u64_nat (a : Int) (h : (Lit.int .u64 a).wf = true) : ∃ n : Nat, n < 18446744073709551616 ∧ a = (n : Int) := by
  simp only [Lit.wf, Bool.and_eq_true, decide_eq_true_eq] at h
  have h0 : 0 ≤ a := h.1
  have h1 : a ≤ 18446744073709551615 := h.2
  exact ⟨a.toNat, by omega, by omega⟩
theorem next_seed (n : Nat) : ∃ m : Nat, m < 18446744073709551616 ∧ IntKind.u64.wrap ((n : Int) + 1) = (m : Int) := by
  refine ⟨(n + 1) % 18446744073709551616, Nat.mod_lt _ (by decide), ?_⟩
  rw [IntKind.wrap_u64]
  omega
theorem wringerlaw6_StateCuts.walk (a0 : Int) (a1 : ByteArray) (a2 : Option Addr) (len2 cap2 : Nat) (z2 : List Int) (W : World) (w0 : (Lit.int .u64 a0).wf = true) (w1 : a1.size ≤ 140737488351232) (w2 : IsNums .u8 W a2 len2 cap2 z2) (y2 : len2 * 1 ≤ 140737488351232) :
    Calls Try.prog 9 #[.int .u64 a0, .string a1, .slice a2 len2 cap2] W fun e W' => e = .returned (.bool true) ∧ Below W.heap.size W W' := by
  by_cases h1 : a1.size ≤ 1000
  · by_cases h2 : len2 ≤ 40
    · obtain ⟨n, hn, rfl⟩ := u64_nat a0 w0
      obtain ⟨m, hm, hw⟩ := next_seed n
      exact stateCuts_main n m ⟨hn⟩ ⟨hm⟩ hw a1 a2 len2 cap2 z2 W ⟨w2⟩ h1 h2
    · exact stateCuts_out2 a0 a1 a2 len2 cap2 W h1 (by omega)
  · exact stateCuts_out1 a0 a1 a2 len2 cap2 W (by omega)
end Go.Proofs.Ytckjigbhdndgdaa
