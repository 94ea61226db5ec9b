/- TreeMade walked: the call returns true, and of the memory that was there nothing turns. -/
import Derived.Test.YtgldblakdhalkaaTback
namespace Go.Proofs.Ytgldblakdhalkaa
set_option linter.unusedVariables false
open Go.RowKit Go.Proofs.YtgldblakdhalkaaW.PrintWords Go.Proofs.YtgldblakdhalkaaW.PrintLast Go.Proofs.YtgldblakdhalkaaW.PrintMore Go.Proofs.Ytgldblakdhalkaa.PBase
theorem err_same16 (a : Int) (w : World) : Calls Try.prog 17 #[.int .i64 a] w fun e w' => e = .returned (.int .i64 a) ∧ w' = w := by
  go_enter Try.func17, Try.ntmps17
  go_wp2
  go_ret
  exact ⟨rfl, rfl⟩
theorem fldT (s : ByteArray) (e : Int) (W : World) : (Instr.field 71 (.agg #[.string s, .int .i64 e]) 0).run Try.prog W = .ok (.string s) W := by kernel_rfl
theorem made_length (s : ByteArray) (sh : Int) : ∀ (n : Nat) (l : List Int) (t : TS), (getC s sh n l t).2.1.length ≤ l.length + n
  | 0, l, t => Nat.le_refl _
  | n + 1, l, t => by
    by_cases h0 : (getB s sh 7 1 t).1 = 0
    · by_cases hm : (getB s sh 7 1 t).2.1 < 193
      · rw [getC_ok s sh n l t (getB s sh 7 1 t).2.1 (getB s sh 7 1 t).2.2 (by rw [← h0]) hm]
        have := made_length s sh n (l ++ [((getB s sh 7 1 t).2.1 : Int) - 128]) (getB s sh 7 1 t).2.2
        rw [List.length_append] at this
        have h1 : [((getB s sh 7 1 t).2.1 : Int) - 128].length = 1 := rfl
        omega
      · rw [getC_form s sh n l t (getB s sh 7 1 t).2.1 (getB s sh 7 1 t).2.2 (by rw [← h0]) (by omega)]
        exact Nat.zero_le _
    · rw [getC_err s sh n l t (getB s sh 7 1 t).1 (getB s sh 7 1 t).2.1 (getB s sh 7 1 t).2.2 rfl h0]
      exact Nat.zero_le _
theorem madeS_length (s : ByteArray) (n : Nat) (sh : Int) : (getS s n sh).1.length ≤ n := by
  have h := made_length s sh n [] TS.new
  have h0 : ([] : List Int).length = 0 := rfl
  unfold getS
  split
  · split
    · show (getC s sh n [] TS.new).2.1.length ≤ n
      omega
    · exact Nat.zero_le _
  · exact Nat.zero_le _
theorem get_both (s : ByteArray) (n : Nat) (sh : Int) (hs : mayS sh = true) (hn : n ≤ 60) (hz : s.size ≤ 50000) : ∃ (L : List Int) (er : Int), tree_Get.f s (n : Int) sh = some (L, er) ∧ wringerref15_GetTree.f s (n : Int) sh = some (L, er) ∧ L.length ≤ 60 := by
  have hb : ¬ ((n : Int) < 0 ∨ 4096 < (n : Int) ∨ mayS sh = false) := by rw [hs]; simp; omega
  have h2 : s.size ≤ 1000000000 ∧ (n : Int) ≤ 1000 := ⟨by omega, by omega⟩
  refine ⟨(getS s n sh).1, ((getS s n sh).2 : Int), ?_, ?_, by have := madeS_length s n sh; omega⟩
  · unfold tree_Get.f
    rw [if_neg hb, if_pos h2, Int.toNat_natCast]
  · unfold wringerref15_GetTree.f
    rw [if_neg hb, if_pos h2, Int.toNat_natCast]
theorem same_quiet (k : Nat) (A0 : Option Addr) (c0 : Nat) (l : List Int) (A1 : Option Addr) (c1 : Nat) (w : World) (h0 : (Kd.int .i64).C w A0 l.length l) (hc0 : l.length ≤ c0) (h1 : (Kd.int .i64).C w A1 l.length l) (hc1 : l.length ≤ c1) (h : wringerref7_SameInts.f k l l = some true) :
    Calls Try.prog 20 #[.slice A0 l.length c0, .slice A1 l.length c1] w fun e w' => e = .returned (.bool true) ∧ ∃ m, w' = w.drewN m :=
  (wringerref7_SameInts.calls k A0 c0 l A1 c1 l true w h0 hc0 h1 hc1 h).mono (fun _ _ hh => ⟨hh.1, by obtain ⟨m, hm⟩ := hh.2; exact ⟨m, hm⟩⟩)
theorem wrap_one16 (i : Nat) (h : i ≤ 1000) : Value.int .i64 (wrap64 ((i : Int) + 1)) = .int .i64 ((i + 1 : Nat) : Int) := by
  have : wrap64 ((i : Int) + 1) = ((i + 1 : Nat) : Int) := by unfold wrap64; omega
  rw [this]
set_option maxHeartbeats 8000000 in
set_option maxRecDepth 100000 in
theorem treeMade_main (A0 : Option Addr) (c0 : Nat) (l0 : List Int) (a1 at_ by_ cut : Nat) (h1l : a1 ≤ 255) (hat : at_ ≤ 255) (hby : by_ ≤ 255) (hcut : cut ≤ 255) (W : World) (hr0 : Aside0 (Kd.C (Kd.int .u8) W A0 l0.length l0)) (hc0 : l0.length ≤ c0) (hx : Aside0 (∀ x ∈ l0, (Lit.int .u8 x).wf = true)) :
    Calls Try.prog 12 #[.slice A0 l0.length c0, .int .u8 (a1 : Int), .int .u8 (at_ : Int), .int .u8 (by_ : Int), .int .u8 (cut : Int)] W fun e w' => e = .returned (.bool true) ∧ Below W.heap.size W w' := by
  have hu74 := Try.underlying74
  obtain ⟨r, hcl, hr60, hrc⟩ := classes_some l0 hx.out 400 (by decide)
  have HCL := Aside0.mk hcl
  obtain ⟨q, hq⟩ : ∃ q, a1 % 4 = q := ⟨_, rfl⟩
  have hq4 : q < 4 := by omega
  have hrem1 : Int.tmod (a1 : Int) 4 = (q : Int) := by rw [← hq]; rfl
  have hrem2 : (a1 : Int) % 4 = (q : Int) := by omega
  have hms : mayS (4 + (q : Int)) = true := by unfold mayS; rw [decide_eq_true (by omega), decide_eq_true (by omega)]; rfl
  have hokF := (putL_ok (4 + (q : Int)) r TS.new_ok).2
  have hLF := putL_L (4 + (q : Int)) r TS.new
  have hL0 : TS.new.e.L = 1 := rfl
  have hput : tree_Put.f r (4 + (q : Int)) = some (bytesE (putL (4 + (q : Int)) r TS.new).e, 0) := by
    unfold tree_Put.f
    rw [if_pos (by omega), putS_ok _ r hms hrc]
    rfl
  have hputr : wringerref15_PutTree.f r (4 + (q : Int)) = some (bytesE (putL (4 + (q : Int)) r TS.new).e, 0) := by
    unfold wringerref15_PutTree.f
    rw [if_pos (by omega), putS_ok _ r hms hrc]
    rfl
  have hzs := bytesE_size (putL (4 + (q : Int)) r TS.new).e
  obtain ⟨S, hS⟩ : ∃ S, bytesE (putL (4 + (q : Int)) r TS.new).e = S := ⟨_, rfl⟩
  rw [hS] at hput hputr hzs
  obtain ⟨z, hz⟩ : ∃ z, S.size = z := ⟨_, rfl⟩
  have hz5 : 5 ≤ z ∧ z ≤ 40000 := by have := hokF.1; omega
  have HPUT := Aside0.mk hput
  have HPUTR := Aside0.mk hputr
  have HMS := Aside0.mk hms
  clear hput hputr hms hS hokF hLF hL0 hzs hrc hcl hq
  have hzI : decide ((S.size : Int) < 5) = false := decide_eq_false (by omega)
  have hzI2 : decide ((z : Int) < 5) = false := decide_eq_false (by omega)
  have hrefl : (S.toList == S.toList) = true := by rw [beq_self_eq_true]
  have hfl := fldT S 0
  go_enter Try.func12, Try.ntmps12
  go_wp2_with fail
  refine (wringerlaw16_Classes.calls 400 A0 c0 l0 r W hr0.out hc0 HCL.out).mono ?_
  rintro e1 w1 ⟨v, rfl, hR, hb⟩
  obtain ⟨A1, c1, rfl⟩ := Kd.R_slice hR
  have HB1 := Aside0.mk hb
  have HR1 := Aside0.mk (Kd.R_reads' hR)
  have hc1a : Aside0 (r.length ≤ c1) := ⟨HR1.out.2.1⟩
  clear hR hb
  go_wp2_with fail
  refine (tree_Put.calls A1 c1 r (4 + (q : Int)) S 0 w1 HR1.out.2.2 HR1.out.2.1 HPUT.out).mono ?_
  rintro e2 w2 ⟨rfl, hb⟩
  have HB2 := Aside0.mk (below_step HB1.out hb)
  have HC2 := Aside0.mk (Kd.C_below HR1.out.2.2 hb)
  clear hb
  go_wp2_with fail
  refine (wringerref15_PutTree.calls A1 c1 r (4 + (q : Int)) S 0 w2 HC2.out HR1.out.2.1 HPUTR.out).mono ?_
  rintro e3 w3 ⟨rfl, hb⟩
  have HB3 := Aside0.mk (below_step HB2.out hb)
  have HC3 := Aside0.mk (Kd.C_below HC2.out hb)
  clear hb
  go_wp2_with fail
  refine (err_same16 _ w3).mono ?_
  rintro e4 wx ⟨rfl, hw⟩
  have hw := hw.symm
  subst hw
  have hcv := Lib.run_convert_string_bytes (P := Try.prog) w3 9 33 5 S Try.underlying9 Try.underlying33 Try.underlying5
  have hbw := bytes_below w3 5 S
  have hclb := fun j h => bytes_cell w3 5 S j h
  have hfrb := fun j h => bytes_free w3 5 S j h
  obtain ⟨w4, hw4⟩ : ∃ w4, Lib.bytesWorld w3 5 S = w4 := ⟨_, rfl⟩
  obtain ⟨C4, hC4⟩ : ∃ C4, grownCap w3 S.size 0 5 = C4 := ⟨_, rfl⟩
  rw [hw4] at hcv hbw hclb hfrb
  rw [hC4, hz] at hcv
  obtain ⟨gB, hgB⟩ : ∃ gB, w3.heap.size = gB := ⟨_, rfl⟩
  have hgB4 : gB < w4.heap.size := by rw [← hgB, ← hw4, Lib.bytesWorld_size]; omega
  have hgBW : W.heap.size ≤ gB := by rw [← hgB]; exact HB3.out.size
  have hHB4 := Aside0.mk (below_step HB3.out hbw)
  have HC4 := Aside0.mk (Kd.C_below HC3.out hbw)
  have below_w3 : ∀ (j x : Nat), Below w3.heap.size w3 (w4.setCell ⟨gB, j, none⟩ (.int .u8 (x : Int))) := fun j x => by
    rw [hgB]
    exact Mine.to_below (Mine.set (S := (· = gB)) (i := j) (Mine.refl _ w4) (Or.inl rfl) (.int .u8 (x : Int))) (by rw [← hgB]; exact hbw) (by omega) (fun k hk => by rw [hk]; exact Nat.le_refl _)
  rw [hgB] at hcv hclb hfrb
  obtain ⟨j, hj⟩ : ∃ j, at_ % z = j := ⟨_, rfl⟩
  have hjz : j < z := by rw [← hj]; exact Nat.mod_lt _ (by omega)
  have hrem : Int.tmod (at_ : Int) (z : Int) = (j : Int) := by rw [← hj]; rfl
  obtain ⟨m2, hm2⟩ : ∃ j, cut % z = j := ⟨_, rfl⟩
  have hm2z : m2 < z := by rw [← hm2]; exact Nat.mod_lt _ (by omega)
  have hremc : Int.tmod (cut : Int) (z : Int) = (m2 : Int) := by rw [← hm2]; rfl
  have hzi : (S.size : Int) = (z : Int) := by omega
  have hj0 := eq_true (show (0 : Int) ≤ (j : Int) by omega)
  have hj1 := eq_true (show (j : Int) < (z : Int) by omega)
  have hk0 := eq_true (show (0 : Int) ≤ (m2 : Int) by omega)
  have hk1 := eq_true (show (m2 : Int) ≤ (z : Int) by omega)
  have hk2 := eq_true (show m2 ≤ z by omega)
  obtain ⟨c, hc⟩ : ∃ c, bn S j = c := ⟨_, rfl⟩
  have hcc : w4.cell? ⟨gB, j, none⟩ = some (.int .u8 (c : Int)) := by rw [← hc]; exact hclb j (by omega)
  have hfc : w4.frozen? ⟨gB, j, none⟩ = false := hfrb j (by omega)
  have hc256 : c < 256 := by rw [← hc]; exact bn_lt S j
  obtain ⟨x, hx⟩ : ∃ x, c ^^^ by_ = x := ⟨_, rfl⟩
  have hx256 : x < 256 := by rw [← hx]; exact Nat.xor_lt_two_pow (n := 8) (by omega) (by omega)
  have hxor : Go.bits .xor .u8 (c : Int) (by_ : Int) = (x : Int) := by rw [u8_xor_nat c by_ hc256 (by omega), hx]
  obtain ⟨T, hT⟩ : ∃ T, strOfNums ((strInts S).set j (x : Int)) = T := ⟨_, rfl⟩
  have hTz : T.size = z := by rw [← hT, strOfNums_size, List.length_set, strInts_length]; exact hz
  have hcv2 : (convert 33 9 (.slice (some ⟨gB, 0, none⟩) z C4)).run Try.prog (w4.setCell ⟨gB, j, none⟩ (.int .u8 (x : Int))).drew = .ok (.string T) (w4.setCell ⟨gB, j, none⟩ (.int .u8 (x : Int))).drew := by
    rw [← hT]
    refine run_convert_bytes_arg (P := Try.prog) _ 33 5 Try.underlying33 Try.underlying5 gB 0 z C4 ((strInts S).set j (x : Int)) (by rw [List.length_set, strInts_length]; exact hz) (fun i hi => ?_) 9 Try.underlying9
    rw [Nat.zero_add]
    show (w4.setCell ⟨gB, j, none⟩ (.int .u8 (x : Int))).cell? _ = _
    by_cases hij : i = j
    · subst hij
      rw [World.cell?_setCell_same _ _ _ hcc, List.getD_eq_getElem?_getD, List.getElem?_set_self (by rw [strInts_length]; omega)]
      rfl
    · rw [World.cell?_setCell_other _ _ _ _ (by intro h; injection h with _ h _; omega), hclb i (by omega), List.getD_eq_getElem?_getD, List.getElem?_set_ne (by omega), ← List.getD_eq_getElem?_getD, strInts_get S i (by omega)]
  clear hclb hfrb hbw hw4 hC4 hgB hc hx hT hm2
  go_wp2_with fail
  have HB5 := Aside0.mk (Mine.to_below (Mine.set (S := (· = gB)) (i := j) (Mine.refl _ w4) (Or.inl rfl) (.int .u8 (x : Int))) hHB4.out hHB4.out.size (fun k hk => by rw [hk]; exact hgBW))
  have HC5 : Aside0 ((Kd.int .i64).C (w4.setCell ⟨gB, j, none⟩ (.int .u8 (x : Int))) A1 r.length r) := ⟨Kd.C_below HC3.out (below_w3 j x)⟩
  generalize w4.setCell ⟨gB, j, none⟩ (.int .u8 (x : Int)) = w5 at *
  clear hcc hfc hxor hHB4 hcv hrem hj0 hj1 HB3 HC4
  have hlim : (9223372036854775807 < S.size + 1) = False := eq_false (by omega)
  have hlim2 : (9223372036854775807 < z + 1) = False := eq_false (by omega)
  go_region
  obtain ⟨te, hte⟩ : ∃ te : Nat → ByteArray, te = fun k => if k = 0 then S else if k = 1 then T else if k = 2 then S.extract 0 m2 else S ++ ⟨#[0]⟩ := ⟨_, rfl⟩
  have hts : ∀ k, k < 4 → (te k).size ≤ 50000 := fun k hk => by
    rw [hte]
    rcases (by omega : k = 0 ∨ k = 1 ∨ k = 2 ∨ k = 3) with h | h | h | h <;> subst h
    · show S.size ≤ _; omega
    · show T.size ≤ _; omega
    · show (S.extract 0 m2).size ≤ _; rw [ByteArray.size_extract]; omega
    · show (S ++ (⟨#[0]⟩ : ByteArray)).size ≤ _; rw [ByteArray.size_append]; show S.size + 1 ≤ _; omega
  have hcE : ∀ k, k < 4 → (w5.alloc (.cells #[.string S, .string T, .string (S.extract 0 m2), .string (S ++ ⟨#[0]⟩)] 9)).drew.cell? ⟨w5.heap.size, k, none⟩ = some (.string (te k)) := fun k hk => by
    show (w5.alloc _).cell? _ = _
    rw [blk_cell (blk_new w5 _) k, hte]
    rcases (by omega : k = 0 ∨ k = 1 ∨ k = 2 ∨ k = 3) with h | h | h | h <;> subst h <;> rfl
  have hb6 : Below w5.heap.size w5 (w5.alloc (.cells #[.string S, .string T, .string (S.extract 0 m2), .string (S ++ ⟨#[0]⟩)] 9)).drew := below_drew (below_alloc (Below.refl _ _) _)
  have hgE : w5.heap.size < (w5.alloc (.cells #[.string S, .string T, .string (S.extract 0 m2), .string (S ++ ⟨#[0]⟩)] 9)).drew.heap.size := by
    show _ < (w5.alloc _).heap.size
    rw [Below_alloc_size]
    omega
  have HB6 := Aside0.mk (below_step HB5.out hb6)
  have HC6 := Aside0.mk (Kd.C_below HC5.out hb6)
  generalize (w5.alloc (.cells #[.string S, .string T, .string (S.extract 0 m2), .string (S ++ ⟨#[0]⟩)] 9)).drew = w6 at *
  generalize w5.heap.size = gE at *
  have HCE := Aside0.mk hcE
  have HTSZ := Aside0.mk hts
  have HGE := Aside0.mk hgE
  clear hcE hts hb6 hgE HB5 HC5 hcv2 hlim hlim2 hzI hzI2 hzi hte hk0 hk1 hk2 hremc hrefl hrem1 hrem2 below_w3 hfl HC3 HC2 HR1 HB1 HB2
  have hc1l : Aside0 (r.length ≤ c1) := hc1a
  have HRL : Aside0 (r.length ≤ 60) := ⟨hr60⟩
  obtain ⟨len, hlen⟩ : ∃ len, r.length = len := ⟨_, rfl⟩
  rw [hlen] at HRL HC6 hc1l ⊢
  clear hlen hr60 HPUT HPUTR HCL hc1a
  go_wp2_with fail
  go_loopg [17] 5 (fun kq v17 w' => ∃ (k : Nat), v17 = .int .i64 (k : Int) ∧ Aside0 (kq = 4 - k + 1) ∧ Aside0 (k ≤ 4) ∧ Aside0 (Below w6.heap.size w6 w'))
  case atStart => exact ⟨0, rfl, ⟨rfl⟩, ⟨by decide⟩, ⟨Below.refl _ _⟩⟩
  case round =>
    obtain ⟨k, rfl, hk, hk4, HB⟩ := hrel
    cases gk with
    | zero => exact absurd hk.out (by omega)
    | succ k2 =>
      have hk42 := hk4.out
      by_cases hkl : k < 4
      · have hkl1 := eq_true (show (k : Int) < 4 by omega)
        have hkl0 := eq_true (show (0 : Int) ≤ (k : Int) by omega)
        have hkl2 := eq_true hkl
        have hc := HCE.out k hkl
        have hsz := HTSZ.out k hkl
        obtain ⟨t, ht⟩ : ∃ t, te k = t := ⟨_, rfl⟩
        rw [ht] at hc hsz
        have HC0 := Aside0.mk hc
        have hc : wr.cell? ⟨gE, k, none⟩ = some (.string t) := by rw [HB.out.cell (by exact HGE.out)]; exact HC0.out
        obtain ⟨L, er, hg1, hg2, hL60⟩ := get_both t len (4 + (q : Int)) HMS.out HRL.out hsz
        have HG1 := Aside0.mk hg1
        have HG2 := Aside0.mk hg2
        have HL := Aside0.mk hL60
        clear ht hg1 hg2 hL60
        go_wp2_with fail
        refine (tree_Get.calls t (len : Int) (4 + (q : Int)) L er wr HG1.out).mono ?_
        rintro e7 w7 ⟨v0, rfl, hR, hb⟩
        obtain ⟨Am, cm, rfl⟩ := Kd.R_slice hR
        have HR7 := Aside0.mk (Kd.R_reads' hR)
        have HB7 := Aside0.mk (below_then HB.out HB.out.size hb)
        have hc : w7.cell? ⟨gE, k, none⟩ = some (.string t) := by rw [HB7.out.cell (by exact HGE.out)]; exact HC0.out
        clear hR hb
        go_wp2_with fail
        refine (wringerref15_GetTree.calls t (len : Int) (4 + (q : Int)) L er w7 HG2.out).mono ?_
        rintro e8 w8 ⟨v1, rfl, hR, hb⟩
        obtain ⟨Ay, cy, rfl⟩ := Kd.R_slice hR
        have HR8 := Aside0.mk (Kd.R_reads' hR)
        have HS8 := Aside0.mk (Kd.C_below HR7.out.2.2 hb)
        have HB8 := Aside0.mk (below_then HB7.out HB7.out.size hb)
        clear hR hb hc
        go_wp2_with fail
        obtain ⟨w9, hw9⟩ : ∃ w9, w8.alloc (.cells #[.slice Ay L.length cy, .int .i64 er] 74) = w9 := ⟨_, rfl⟩
        obtain ⟨gb, hgb⟩ : ∃ gb, w8.heap.size = gb := ⟨_, rfl⟩
        have DB : w9.heap[gb]? = some (.cells #[.slice Ay L.length cy, .int .i64 er] 74 (0, 0)) := by rw [← hw9, ← hgb]; exact blk_new _ _
        have hb9 : Below w8.heap.size w8 w9 := by rw [← hw9]; exact below_alloc (Below.refl _ _) _
        have HM9 : Aside0 (∀ n, (Kd.int .i64).C (w9.drewN n) Am L.length L) := ⟨fun n => Kd.C_drewN (Kd.C_below HS8.out hb9) n⟩
        have HY9 : Aside0 (∀ n, (Kd.int .i64).C (w9.drewN n) Ay L.length L) := ⟨fun n => Kd.C_drewN (Kd.C_below HR8.out.2.2 hb9) n⟩
        have HB9 := Aside0.mk (below_then HB8.out HB8.out.size hb9)
        rw [hw9, hgb]
        have hd0 := blk_cell DB 0
        have hd1 := blk_cell DB 1
        simp at hd0 hd1
        clear hw9 hgb hb9 DB
        go_quiet ((first | (go_at_call 20; exact Calls.quiet_of (same_quiet 100 Am cm L Ay cy (w9.drewN _) (HM9.out _) HR7.out.2.1 (HY9.out _) HR8.out.2.1 (same_self L (by have := HL.out; omega) 100 (by have := HL.out; omega)))) | (go_at_call 17; exact Calls.quiet_of_same (err_same16 _ _))))
        go_wp2_with fail
        go_roundg k2
        case measure => have := hk.out; omega
        case rel => exact ⟨k + 1, by first | rfl | exact wrap_one16 k (by omega), ⟨by have := hk.out; omega⟩, ⟨hkl⟩, ⟨below_drewN HB9.out _⟩⟩
      · have hkl1 := eq_false (show ¬ (k : Int) < 4 by omega)
        go_wp2_with fail
        refine (wringerlaw16_awake.calls 30 true _ (awake16 30 (Nat.le_refl _))).mono ?_
        rintro r9 w9 ⟨rfl, hb9⟩
        go_wp2
        go_ret
        exact ⟨rfl, below_step (below_then HB6.out HB6.out.size HB.out) hb9⟩
theorem wringerlaw16_TreeMade.walk (a0 : Option Addr) (len0 cap0 : Nat) (z0 : List Int) (a1 a2 a3 a4 : Int) (w : World) (w0 : (a0 = none ∧ len0 = 0 ∧ cap0 = 0 ∧ z0 = []) ∨ ∃ x, a0 = some x ∧ len0 ≤ cap0 ∧ cap0 ≤ maxLen ∧ z0.length = cap0 ∧ (∀ i, i < z0.length → w.cell? (x.add i) = some (.int .u8 (z0.getD i 0))) ∧ ∀ n ∈ z0, (Lit.int .u8 n).wf = true) (y0 : len0 * 1 ≤ 140737488351232) (w1 : (Lit.int .u8 a1).wf = true) (w2 : (Lit.int .u8 a2).wf = true) (w3 : (Lit.int .u8 a3).wf = true) (w4 : (Lit.int .u8 a4).wf = true) :
    Calls Try.prog 12 #[.slice a0 len0 cap0, .int .u8 a1, .int .u8 a2, .int .u8 a3, .int .u8 a4] w fun e w' => e = .returned (.bool true) ∧ Below w.heap.size w w' := by
  obtain ⟨l0, rfl, hr0, hm0, hw0, hc0⟩ := ReadsInt.ofRowC w0
  have h1 := u8_bounds _ w1
  have h2 := u8_bounds _ w2
  have h3 := u8_bounds _ w3
  have h4 := u8_bounds _ w4
  obtain ⟨x1, rfl⟩ : ∃ n : Nat, a1 = (n : Int) := ⟨a1.toNat, by omega⟩
  obtain ⟨x2, rfl⟩ : ∃ n : Nat, a2 = (n : Int) := ⟨a2.toNat, by omega⟩
  obtain ⟨x3, rfl⟩ : ∃ n : Nat, a3 = (n : Int) := ⟨a3.toNat, by omega⟩
  obtain ⟨x4, rfl⟩ : ∃ n : Nat, a4 = (n : Int) := ⟨a4.toNat, by omega⟩
  exact treeMade_main a0 cap0 l0 x1 x2 x3 x4 (by omega) (by omega) (by omega) (by omega) w ⟨Kd.C_of_reads (d := (0 : Int)) (h1 := fun _ => rfl) hr0⟩ hc0 ⟨hw0⟩
end Go.Proofs.Ytgldblakdhalkaa
