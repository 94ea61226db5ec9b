/- VintBack walked: where the pure functions come to what the law asks, the call returns true. -/
import Derived.Test.YtlcngcbiacmagaaPBasex1
import Derived.Lib.ConvBytes
import Derived.Laws.BytesArg
import Derived.Test.YtlcngcbiacmagaaVget
import Derived.Test.YtlcngcbiacmagaaPnum
namespace Go.Proofs.Ytlcngcbiacmagaa
open Go.RowKit Go.Proofs.YtlcngcbiacmagaaW.PrintWords Go.Proofs.YtlcngcbiacmagaaW.PrintLast Go.Proofs.YtlcngcbiacmagaaW.PrintMore
open Go.Proofs.Ytlcngcbiacmagaa.PBase
set_option linter.unusedVariables false
/-- A string's bytes, with the highest bit set in the one at l. -/
def lastOr (P : ByteArray) (l : Nat) : List Int := (List.range P.size).map fun i => if i = l then Go.bits .or .u8 (bt P (l : Int)) 128 else bt P (i : Int)
theorem lastOr_get (P : ByteArray) (l i : Nat) (h : i < P.size) : (lastOr P l).getD i 0 = if i = l then Go.bits .or .u8 (bt P (l : Int)) 128 else bt P (i : Int) := by
  unfold lastOr
  rw [List.getD_eq_getElem?_getD, List.getElem?_map, List.getElem?_range h]
  rfl
set_option maxHeartbeats 4000000 in
set_option maxRecDepth 100000 in
theorem vintBack_main (k : Nat) (n cut i j m q : Int) (l : Nat) (a b P D : ByteArray) (w : World)
    (ha : Aside0 (a.size ≤ 50)) (hb : Aside0 (b.size ≤ 50)) (hP : Aside0 (1 ≤ P.size ∧ P.size ≤ 10)) (hD : Aside0 (D.size = 8))
    (f1 : Aside0 (vint_Put.f k n = some P)) (f2 : Aside0 (vint_Word.f n = some D))
    (f3 : Aside0 (vint_Get.f k (a ++ P ++ b) (a.size : Int) = some (n, i, 0)))
    (f4 : Aside0 (vint_GetWord.f k (a ++ D ++ b) (a.size : Int) = some (n, j, 0)))
    (hi : (i != wrap64 ((a.size : Int) + (P.size : Int))) = false) (hj : (j != wrap64 ((a.size : Int) + 8)) = false)
    (hl : l + 1 = P.size) (hlw : wrap64 ((P.size : Int) - 1) = (l : Int))
    (hm : Int.tmod (wrap64 cut) (P.size : Int) = m) (hq : Int.tmod (wrap64 cut) 8 = q) (hm2 : Aside0 (0 ≤ m ∧ m ≤ (P.size : Int))) (hq2 : Aside0 (0 ≤ q ∧ q ≤ (D.size : Int)))
    (f5 : Aside0 (vint_Get.f k (P.extract 0 m.toNat) 0 = some (0, 0, 2))) (f7 : Aside0 (vint_GetWord.f k (D.extract 0 q.toNat) 0 = some (0, 0, 2)))
    (f8 : Aside0 (vint_Get.f k (strOfNums (lastOr P l) ++ ⟨#[0]⟩) 0 = some (0, 0, 3))) (f9 : Aside0 (vint_Get.f k P (wrap64 ((P.size : Int) + 1)) = some (0, 0, 1)))
    (f6 : Aside0 (wringerlaw2_awake.f k = some true)) :
    Calls Try.prog 7 #[.int .u64 n, .string a, .string b, .int .u8 cut] w fun e w' => e = .returned (.bool true) ∧ Below w.heap.size w w' := by
  have b0 : decide ((a.size : Int) > 50) = false := decide_eq_false (by have := ha.out; omega)
  have b1 : decide ((b.size : Int) > 50) = false := decide_eq_false (by have := hb.out; omega)
  have b0' : decide (50 < a.size) = false := decide_eq_false (by have := ha.out; omega)
  have b1' : decide (50 < b.size) = false := decide_eq_false (by have := hb.out; omega)
  have s1 : (9223372036854775807 < a.size + P.size) = False := eq_false (by have := ha.out; have := hP.out; omega)
  have s2 : (9223372036854775807 < a.size + P.size + b.size) = False := eq_false (by have := ha.out; have := hP.out; have := hb.out; omega)
  have s3 : (9223372036854775807 < a.size + D.size) = False := eq_false (by have := ha.out; have := hD.out; omega)
  have s4 : (9223372036854775807 < a.size + D.size + b.size) = False := eq_false (by have := ha.out; have := hD.out; have := hb.out; omega)
  go_enter Try.func7, Try.ntmps7
  go_wp2_with fail
  refine (vint_Put.calls k _ _ _ f1.out).mono ?_
  rintro e w1 ⟨rfl, hb1⟩
  have B1 := Aside0.mk hb1
  clear hb1
  go_wp2_with fail
  refine (vint_Word.calls _ _ _ f2.out).mono ?_
  rintro e w2 ⟨rfl, hb1⟩
  have B2 := Aside0.mk (below_step B1.out hb1)
  clear hb1 B1
  go_wp2_with fail
  refine (vint_Get.calls k _ _ _ _ _ _ f3.out).mono ?_
  rintro e w3 ⟨rfl, hb1⟩
  have B3 := Aside0.mk (below_step B2.out hb1)
  clear hb1 B2
  go_wp2_with fail
  refine (vint_GetWord.calls k _ _ _ _ _ _ f4.out).mono ?_
  rintro e w4 ⟨rfl, hb1⟩
  have B4 := Aside0.mk (below_step B3.out hb1)
  clear hb1 B3
  have p1 : decide ((P.size : Int) < 1) = false := decide_eq_false (by have := hP.out; omega)
  have p2 : decide ((P.size : Int) > 10) = false := decide_eq_false (by have := hP.out; omega)
  have p3 : ((D.size : Int) != 8) = false := by have := hD.out; rw [this]; rfl
  clear s1 s2 s3 s4 b0 b1 b0' b1'
  go_wp2_with fail
  refine (wringerlaw1_Err.calls 0 0 _ rfl).mono ?_
  rintro e w5 ⟨rfl, hd⟩
  have B5 := Aside0.mk (below_step B4.out hd.below)
  clear hd B4
  go_wp2_with fail
  refine (wringerlaw1_Err.calls 0 0 _ rfl).mono ?_
  rintro e w6 ⟨rfl, hd⟩
  have B6 := Aside0.mk (below_step B5.out hd.below)
  clear hd B5
  have m0 := eq_true hm2.out.1
  have m1 := eq_true hm2.out.2
  have q0 := eq_true hq2.out.1
  have q1 := eq_true hq2.out.2
  have z2 : (P = ByteArray.empty) = False := eq_false (fun h => by have := hP.out.1; rw [h] at this; exact absurd this (by decide))
  have z0 : ((P.size : Int) = 0) = False := eq_false (by have := hP.out; omega)
  have z1 : ((P.size : Int) == 0) = false := beq_eq_false_iff_ne.2 (by have := hP.out; omega)
  go_wp2_with fail
  refine (vint_Get.calls k _ _ _ _ _ _ f5.out).mono ?_
  rintro e w7 ⟨rfl, hb1⟩
  have B7 := Aside0.mk (below_step B6.out hb1)
  clear hb1 B6
  go_wp2_with fail
  refine (vint_GetWord.calls k _ _ _ _ _ _ f7.out).mono ?_
  rintro e w8 ⟨rfl, hb1⟩
  have B8 := Aside0.mk (below_step B7.out hb1)
  clear hb1 B7
  go_wp2_with fail
  have hcv := Lib.run_convert_string_bytes (P := Try.prog) w8 9 24 5 P Try.underlying9 Try.underlying24 Try.underlying5
  have hcells : Aside0 (∀ i : Nat, i < P.size → (Lib.bytesWorld w8 5 P).cell? ⟨w8.heap.size, i, none⟩ = some (.int .u8 (bt P (i : Int)))) := ⟨fun i h1 => by
    rw [Lib.bytesWorld_cell w8 5 P i h1, ← bt_at P (i : Int) h1]
    congr 2
    rw [List.getD_eq_getElem?_getD, List.getElem?_eq_getElem (by rw [Array.length_toList]; exact h1)]
    rfl⟩
  have hfr : Aside0 (∀ i : Nat, i < P.size → (Lib.bytesWorld w8 5 P).frozen? ⟨w8.heap.size, i, none⟩ = false) := ⟨fun i h1 => by
    unfold World.frozen?
    rw [Lib.bytesWorld_at_new]
    have hsz : P.size ≤ (Lib.bytesCells w8 5 P).size := by
      unfold Lib.bytesCells
      rw [Array.size_append, Array.size_map]
      exact Nat.le_add_right _ _
    simp only [Bool.and_eq_false_iff, decide_eq_false_iff_not]
    exact Or.inl (by omega)⟩
  have B9 := Aside0.mk (bytes_below B8.out B8.out.size 5 P)
  have hgg : Aside0 (w.heap.size ≤ w8.heap.size) := ⟨B8.out.size⟩
  rw [hcv]
  clear hcv B8
  generalize Lib.bytesWorld w8 5 P = W at *
  generalize grownCap w8 P.size 0 5 = cap at *
  generalize w8.heap.size = g at *
  have hc := hcells.out l (by omega)
  have hf := hfr.out l (by omega)
  have l0 := eq_true (show (0 : Int) ≤ (l : Int) by omega)
  have l1 := eq_true (show (l : Int) < (P.size : Int) by omega)
  have l2 := eq_true (show l < P.size by omega)
  go_wp2_with fail
  have hcv := run_convert_bytes_arg (P := Try.prog) (W.setCell ⟨g, l, none⟩ (.int .u8 (Go.bits .or .u8 (bt P (l : Int)) 128))) 24 5 Try.underlying24 Try.underlying5 g 0 P.size cap (lastOr P l) (by simp [lastOr]) (fun i hi => by
    rw [Nat.zero_add, lastOr_get P l i hi]
    by_cases h : i = l
    · subst h
      rw [if_pos rfl]
      exact World.cell?_setCell_same _ _ _ hc
    · rw [if_neg h]
      exact (World.cell?_setCell_other _ _ _ _ (by intro e; injection e with _ e2 _; exact h e2.symm)).trans (hcells.out i hi)) 9 Try.underlying9
  have B10 := Aside0.mk (below_set (j := l) (v := .int .u8 (Go.bits .or .u8 (bt P (l : Int)) 128)) B9.out hgg.out)
  rw [hcv]
  clear hcv B9 hc hf hcells hfr
  generalize W.setCell ⟨g, l, none⟩ (.int .u8 (Go.bits .or .u8 (bt P (l : Int)) 128)) = W2 at *
  have s5 : (9223372036854775807 < (strOfNums (lastOr P l)).size + 1) = False := eq_false (by have := hP.out; rw [strOfNums_size]; unfold lastOr; rw [List.length_map, List.length_range]; omega)
  generalize hS : strOfNums (lastOr P l) = S at *
  go_wp2_with fail
  refine (vint_Get.calls k _ _ _ _ _ _ f8.out).mono ?_
  rintro e w11 ⟨rfl, hb1⟩
  have B11 := Aside0.mk (below_step B10.out hb1)
  clear hb1 B10
  go_wp2_with fail
  refine (vint_Get.calls k _ _ _ _ _ _ f9.out).mono ?_
  rintro e w12 ⟨rfl, hb1⟩
  have B12 := Aside0.mk (below_step B11.out hb1)
  clear hb1 B11
  go_wp2_with fail
  refine (wringerlaw1_Err.calls 2 2 _ rfl).mono ?_
  rintro e w13 ⟨rfl, hd⟩
  have B13 := Aside0.mk (below_step B12.out hd.below)
  clear hd B12
  go_wp2_with fail
  refine (wringerlaw1_Err.calls 2 2 _ rfl).mono ?_
  rintro e w14 ⟨rfl, hd⟩
  have B14 := Aside0.mk (below_step B13.out hd.below)
  clear hd B13
  go_wp2_with fail
  refine (wringerlaw1_Err.calls 3 3 _ rfl).mono ?_
  rintro e w15 ⟨rfl, hd⟩
  have B15 := Aside0.mk (below_step B14.out hd.below)
  clear hd B14
  go_wp2_with fail
  refine (wringerlaw1_Err.calls 1 1 _ rfl).mono ?_
  rintro e w16 ⟨rfl, hd⟩
  have B16 := Aside0.mk (below_step B15.out hd.below)
  clear hd B15
  go_wp2_with fail
  refine (wringerlaw2_awake.calls k true _ f6.out).mono ?_
  rintro e w17 ⟨rfl, hb1⟩
  have B17 := Aside0.mk (below_step B16.out hb1)
  clear hb1 B16
  go_wp2
  go_ret
  exact ⟨rfl, B17.out⟩

set_option maxHeartbeats 4000000 in
set_option maxRecDepth 100000 in
theorem vintBack_out1 (k : Nat) (n cut : Int) (a b : ByteArray) (w : World) (ha : 50 < a.size)
    (f6 : Aside0 (wringerlaw2_awake.f k = some true)) :
    Calls Try.prog 7 #[.int .u64 n, .string a, .string b, .int .u8 cut] w fun e w' => e = .returned (.bool true) ∧ Below w.heap.size w w' := by
  have b0 : decide ((a.size : Int) > 50) = true := decide_eq_true (by omega)
  have b0' : decide (50 < a.size) = true := decide_eq_true ha
  go_enter Try.func7, Try.ntmps7
  go_wp2_with fail
  refine (wringerlaw2_awake.calls k true _ f6.out).mono ?_
  rintro e w1 ⟨rfl, hb1⟩
  have B1 := Aside0.mk hb1
  clear hb1
  go_wp2
  go_ret
  exact ⟨rfl, B1.out⟩
set_option maxHeartbeats 4000000 in
set_option maxRecDepth 100000 in
theorem vintBack_out2 (k : Nat) (n cut : Int) (a b : ByteArray) (w : World) (ha : a.size ≤ 50) (hb : 50 < b.size)
    (f6 : Aside0 (wringerlaw2_awake.f k = some true)) :
    Calls Try.prog 7 #[.int .u64 n, .string a, .string b, .int .u8 cut] w fun e w' => e = .returned (.bool true) ∧ Below w.heap.size w w' := by
  have b0 : decide ((a.size : Int) > 50) = false := decide_eq_false (by omega)
  have b0' : decide (50 < a.size) = false := decide_eq_false (by omega)
  have b1 : decide ((b.size : Int) > 50) = true := decide_eq_true (by omega)
  have b1' : decide (50 < b.size) = true := decide_eq_true hb
  go_enter Try.func7, Try.ntmps7
  go_wp2_with fail
  refine (wringerlaw2_awake.calls k true _ f6.out).mono ?_
  rintro e w1 ⟨rfl, hb1⟩
  have B1 := Aside0.mk hb1
  clear hb1
  go_wp2
  go_ret
  exact ⟨rfl, B1.out⟩
theorem drop_app (a x y : List Nat) : (a ++ (x ++ y)).drop a.length = x ++ y := List.drop_left
theorem back_get (a b : ByteArray) (n k : Nat) (hn : n < 18446744073709551616) (ha : a.size ≤ 50) (hb : b.size ≤ 50) (hk : 10 < k) : vint_Get.f k (a ++ putS n ++ b) (a.size : Int) = some ((n : Int), ((a.size + (putS n).size : Nat) : Int), 0) := by
  have hp := put_size n
  have hl := put_len 10 n
  have hs : (a ++ putS n ++ b).size = a.size + (putS n).size + b.size := by rw [ByteArray.size_append, ByteArray.size_append]
  rw [get_val _ a.size k (by omega) hk (by omega), lst_append, lst_append, lst_put, List.append_assoc, ← lst_length a, drop_app, getV_put n hn]
  simp only [getAns, if_true]
  rw [hp]
theorem back_word (a b : ByteArray) (n k : Nat) (hn : n < 18446744073709551616) (ha : a.size ≤ 50) (hb : b.size ≤ 50) (hk : 10 < k) : vint_GetWord.f k (a ++ strOfNums (wordBytes (n : Int)) ++ b) (a.size : Int) = some ((n : Int), ((a.size + 8 : Nat) : Int), 0) := by
  have hw := word_size n
  have hs : (a ++ strOfNums (wordBytes (n : Int)) ++ b).size = a.size + 8 + b.size := by rw [ByteArray.size_append, ByteArray.size_append, hw]
  rw [getWord_in k _ a.size (by omega) (by omega) (by omega)]
  have hpart : part (a ++ strOfNums (wordBytes (n : Int)) ++ b) a.size 8 = n := part_word _ a.size n hn (fun m hm => by
    unfold bn
    rw [lst_append, lst_append, List.append_assoc, List.getD_eq_getElem?_getD, List.getElem?_append_right (by rw [lst_length]; omega), lst_length, Nat.add_sub_cancel_left, List.getElem?_append_left (by rw [lst_length]; omega)]
    rfl)
  rw [hpart]
theorem back_cut (n m k : Nat) (hn : n < 18446744073709551616) (hm : m < (putS n).size) (hk : 10 < k) : vint_Get.f k ((putS n).extract 0 m) 0 = some (0, 0, 2) := by
  have hp := put_size n
  have hl := put_len 10 n
  have hs : ((putS n).extract 0 m).size = m := by rw [ByteArray.size_extract]; omega
  have h := get_val ((putS n).extract 0 m) 0 k (by omega) hk (by omega)
  have hx : (lst ((putS n).extract 0 m)).drop 0 = (putL 10 n).take m := by rw [List.drop_zero, lst_extract, lst_put, List.drop_zero, Nat.sub_zero]
  have hg : getV ((putL 10 n).take m) 0 10 = (0, 0, 2) := getV_more _ (by rw [List.length_take]; omega) (fun i hi => by
    rw [List.length_take] at hi
    rw [List.getD_eq_getElem?_getD, List.getElem?_take_of_lt (by omega), ← List.getD_eq_getElem?_getD]
    exact (put_shape10 n hn i (by omega)).1 (by omega)) 10 0 rfl (by omega)
  rw [hx, hg] at h
  exact h
theorem back_short (n q k : Nat) (hq : q < 8) : vint_GetWord.f k ((strOfNums (wordBytes (n : Int))).extract 0 q) 0 = some (0, 0, 2) := by
  have hw := word_size n
  have hs : ((strOfNums (wordBytes (n : Int))).extract 0 q).size = q := by rw [ByteArray.size_extract]; omega
  exact getWord_short k _ 0 (by omega) (by omega)
theorem back_long (n l k : Nat) (hn : n < 18446744073709551616) (hl : l + 1 = (putS n).size) (hk : 10 < k) : vint_Get.f k (strOfNums (lastOr (putS n) l) ++ ⟨#[0]⟩) 0 = some (0, 0, 3) := by
  have hp := put_size n
  have hlen := put_len 10 n
  have e1 : lst (strOfNums (lastOr (putS n) l) ++ ⟨#[0]⟩) = nat8 (lastOr (putS n) l) ++ [0] := by rw [lst_append, lst_nums]; rfl
  have hn8 : (nat8 (lastOr (putS n) l)).length = (putS n).size := by unfold nat8 lastOr; simp
  have hs : (strOfNums (lastOr (putS n) l) ++ ⟨#[0]⟩).size = (putS n).size + 1 := by rw [← lst_length, e1, List.length_append, hn8]; rfl
  have h := get_val (strOfNums (lastOr (putS n) l) ++ ⟨#[0]⟩) 0 k (by omega) hk (by omega)
  have hg : getV (nat8 (lastOr (putS n) l) ++ [0]) 0 10 = (0, 0, 3) := getV_long _ (by omega) (by omega) (fun i hi => by
    rw [hn8] at hi
    have hb := bn_lt (putS n) i
    have e2 : (nat8 (lastOr (putS n) l)).getD i 0 = ((lastOr (putS n) l).getD i 0).toNat % 256 := by
      unfold nat8
      rw [List.getD_eq_getElem?_getD, List.getD_eq_getElem?_getD, List.getElem?_map]
      have : i < (lastOr (putS n) l).length := by unfold lastOr; simpa using hi
      rw [List.getElem?_eq_getElem this]
      rfl
    rw [e2, lastOr_get _ _ _ hi]
    by_cases h : i = l
    · subst h
      rw [if_pos rfl, bt_bn, or128 _ hb]
      omega
    · rw [if_neg h, bt_bn]
      have hsh := (put_shape10 n hn i (by omega)).1 (by omega)
      have hbe : bn (putS n) i = (putL 10 n).getD i 0 := by unfold bn; rw [lst_put]
      omega) 10 0 rfl (by omega)
  rw [List.drop_zero, e1, hg] at h
  exact h
theorem back_sum (a p : Nat) (ha : a ≤ 50) (hp : p ≤ 10) : (((a + p : Nat) : Int) != wrap64 ((a : Int) + (p : Int))) = false := by
  rw [bne_eq_false_iff_eq]
  unfold wrap64
  omega
theorem back_sum8 (a : Nat) (ha : a ≤ 50) : (((a + 8 : Nat) : Int) != wrap64 ((a : Int) + 8)) = false := by
  rw [bne_eq_false_iff_eq]
  unfold wrap64
  omega
theorem back_less (p : Nat) (h1 : 1 ≤ p) (hp : p ≤ 10) : wrap64 ((p : Int) - 1) = ((p - 1 : Nat) : Int) := by
  unfold wrap64
  omega
theorem back_mod (c p : Nat) (hc : c < 256) : Int.tmod (wrap64 (c : Int)) (p : Int) = ((c % p : Nat) : Int) := by
  have ec : wrap64 (c : Int) = (c : Int) := by unfold wrap64; omega
  rw [ec, Int.tmod_eq_emod_of_nonneg (by omega), Int.natCast_emod]
theorem back_out (P : ByteArray) (hp : P.size ≤ 10) : vint_Get.f 60 P (wrap64 ((P.size : Int) + 1)) = some (0, 0, 1) := get_out _ _ 60 (by unfold wrap64; omega)
theorem back_word0 (n : Int) : vint_Word.f n = some (strOfNums (wordBytes n)) := by unfold vint_Word.f; rfl
set_option maxHeartbeats 2000000 in
theorem back_awake : wringerlaw2_awake.f 60 = some true := by decide +kernel
theorem wringerlaw2_VintBack.walk (a0 : Int) (a b : ByteArray) (a3 : Int) (W : World) (w0 : (Lit.int .u64 a0).wf = true) (h1 : a.size ≤ 140737488351232) (h2 : b.size ≤ 140737488351232) (w3 : (Lit.int .u8 a3).wf = true) :
    Calls Try.prog 7 #[.int .u64 a0, .string a, .string b, .int .u8 a3] W fun e W' => e = .returned (.bool true) ∧ Below W.heap.size W W' := by
  by_cases ha : a.size ≤ 50
  · by_cases hb : b.size ≤ 50
    · obtain ⟨n, hn, rfl⟩ : ∃ n : Nat, n < 18446744073709551616 ∧ a0 = (n : Int) := by
        simp only [Lit.wf, Bool.and_eq_true, decide_eq_true_eq] at w0
        have h0 : 0 ≤ a0 := w0.1
        have h1 : a0 ≤ 18446744073709551615 := w0.2
        exact ⟨a0.toNat, by omega, by omega⟩
      obtain ⟨c, hc, rfl⟩ : ∃ n : Nat, n < 256 ∧ a3 = (n : Int) := by
        simp only [Lit.wf, Bool.and_eq_true, decide_eq_true_eq] at w3
        have h0 : 0 ≤ a3 := w3.1
        have h1 : a3 ≤ 255 := w3.2
        exact ⟨a3.toNat, by omega, by omega⟩
      have hp := put_size n
      have hl := put_len 10 n
      have hpos : 0 < (putL 10 n).length := put_pos 9 n
      have hw := word_size n
      have hlt : c % (putS n).size < (putS n).size := Nat.mod_lt _ (by omega)
      have hq : c % 8 < 8 := Nat.mod_lt _ (by omega)
      have i4 : (putS n).size - 1 + 1 = (putS n).size := by omega
      have i5 : 0 ≤ ((c % (putS n).size : Nat) : Int) ∧ ((c % (putS n).size : Nat) : Int) ≤ ((putS n).size : Int) := ⟨Int.natCast_nonneg _, Int.ofNat_le.2 (Nat.le_of_lt hlt)⟩
      have i6 : 0 ≤ ((c % 8 : Nat) : Int) ∧ ((c % 8 : Nat) : Int) ≤ ((strOfNums (wordBytes (n : Int))).size : Int) := ⟨Int.natCast_nonneg _, Int.ofNat_le.2 (by rw [hw]; exact Nat.le_of_lt hq)⟩
      have i7 : 1 ≤ (putS n).size ∧ (putS n).size ≤ 10 := by omega
      have q2 : vint_Word.f (n : Int) = some (strOfNums (wordBytes (n : Int))) := back_word0 _
      have q1 := put_val64 n 60 hn (by omega)
      have q3 := back_get a b n 60 hn ha hb (by omega)
      have q4 := back_word a b n 60 hn ha hb (by omega)
      have q5 : vint_Get.f 60 ((putS n).extract 0 ((c % (putS n).size : Nat) : Int).toNat) 0 = some (0, 0, 2) := by rw [Int.toNat_natCast]; exact back_cut n _ 60 hn hlt (by omega)
      have q7 : vint_GetWord.f 60 ((strOfNums (wordBytes (n : Int))).extract 0 ((c % 8 : Nat) : Int).toNat) 0 = some (0, 0, 2) := by rw [Int.toNat_natCast]; exact back_short n _ 60 hq
      have q8 := back_long n ((putS n).size - 1) 60 hn (by omega) (by omega)
      have q9 : vint_Get.f 60 (putS n) (wrap64 (((putS n).size : Int) + 1)) = some (0, 0, 1) := back_out _ i7.2
      have i1 := back_sum a.size (putS n).size ha i7.2
      have i2 := back_sum8 a.size ha
      have i3 := back_less (putS n).size i7.1 i7.2
      have em := back_mod c (putS n).size hc
      have eq : Int.tmod (wrap64 (c : Int)) 8 = ((c % 8 : Nat) : Int) := back_mod c 8 hc
      generalize putS n = P at *
      generalize strOfNums (wordBytes (n : Int)) = D at *
      exact vintBack_main 60 (n : Int) (c : Int) _ _ _ _ _ a b P D W ⟨ha⟩ ⟨hb⟩ ⟨i7⟩ ⟨hw⟩ ⟨q1⟩ ⟨q2⟩ ⟨q3⟩ ⟨q4⟩ i1 i2 i4 i3 em eq ⟨i5⟩ ⟨i6⟩ ⟨q5⟩ ⟨q7⟩ ⟨q8⟩ ⟨q9⟩ ⟨back_awake⟩
    · exact vintBack_out2 60 a0 a3 a b W ha (by omega) ⟨back_awake⟩
  · exact vintBack_out1 60 a0 a3 a b W (by omega) ⟨back_awake⟩
end Go.Proofs.Ytlcngcbiacmagaa
