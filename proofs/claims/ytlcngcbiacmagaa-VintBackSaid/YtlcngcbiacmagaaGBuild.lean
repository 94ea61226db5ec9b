/- plain.Put of any numbers is their eight bytes each, in order; the memory that was there stays. A strings.Builder of the call's own is written and read. Conditions: the text has fewer than 2^47 bytes. -/
import Derived.Test.YtlcngcbiacmagaaGWord
import Derived.Test.YtlcngcbiacmagaaShelf
import Derived.Lib.UnsafeStr
namespace Go.Proofs.Ytlcngcbiacmagaa
open Go.RowKit Go.Proofs.YtlcngcbiacmagaaW.PrintWords Go.Proofs.YtlcngcbiacmagaaW.PrintLast Go.Proofs.YtlcngcbiacmagaaW.PrintMore
open Go.Shelf
/-- 'copyCheck' at a builder that has been written. -/
theorem check_used (b : Nat) (w : World) (h0 : w.cell? ⟨b, 0, none⟩ = some (.pointer (some ⟨b, 0, none⟩))) :
    Calls Try.prog 34 #[.pointer (some ⟨b, 0, none⟩)] w fun e w' => e = .returned (.tuple #[]) ∧ w' = w := by
  obtain ⟨j, hj, _⟩ := Option.map_eq_some_iff.1 Try.Builder_Extra_169.sizeBuilder
  go_enter Try.func34, Try.ntmps34
  go_wp2
  rw [Lib.run_neq_ptr_same w _ Try.underlying58 hj]
  go_wp2
  go_end0
  exact ⟨rfl, rfl⟩
/-- 'copyCheck' at a fresh builder. -/
theorem check_fresh (b : Nat) (w : World) (h0 : w.cell? ⟨b, 0, none⟩ = some (.pointer none)) (hsh : w.shape? b = some (60, 2)) (hfz : w.frozen? ⟨b, 0, none⟩ = false) :
    Calls Try.prog 34 #[.pointer (some ⟨b, 0, none⟩)] w fun e w' => e = .returned (.tuple #[]) ∧ w' = w.setCell ⟨b, 0, none⟩ (.pointer (some ⟨b, 0, none⟩)) := by
  obtain ⟨j, hj, hjs⟩ := Option.map_eq_some_iff.1 Try.Builder_Extra_169.sizeBuilder
  go_enter Try.func34, Try.ntmps34
  go_wp2
  rw [Lib.run_to_unsafe w ⟨b, 0, none⟩ Try.underlying58 Try.underlying68 hj (by rw [hjs]; decide) hsh (Nat.zero_lt_succ 1)]
  simp only [Result.andThen]
  rw [Oper.upon_value]
  go_wp2
  rw [run_callFunc_extern Try.func35 (by kernel_rfl) (by kernel_rfl) (by kernel_rfl) (e := Extern.AbiNoEscape.same) (by kernel_rfl)]
  rw [Lib.run_noEscape]
  simp only [Result.andThen]
  rw [Oper.upon_value]
  go_wp2
  rw [Lib.run_from_unsafe w ⟨b, 0, none⟩ Try.underlying68 Try.underlying58 hj hsh Try.Builder_Extra_169.liesBuilder]
  simp only [Result.andThen]
  rw [Oper.upon_value]
  go_wp2
  go_end0
  exact ⟨rfl, rfl⟩
theorem check_any (B b : Nat) (bs : List Value) (w : World) (h : Lib.IsBuilder 60 5 B b bs w) :
    Calls Try.prog 34 #[.pointer (some ⟨b, 0, none⟩)] w fun e w' => e = .returned (.tuple #[]) ∧ (Lib.BuilderAt 60 5 B b (.pointer (some ⟨b, 0, none⟩)) bs w' ∧ Below B w w') := by
  rcases h with h | h
  · refine (check_fresh b w h.cell0 h.shape h.frozen0).mono ?_
    rintro e w' ⟨rfl, rfl⟩
    exact ⟨rfl, h.used _, (Below.refl B w).setCell (p := ⟨b, 0, none⟩) h.1 _⟩
  · refine (check_used b w h.cell0).mono ?_
    rintro e w' ⟨rfl, rfl⟩
    exact ⟨rfl, h, Below.refl B _⟩
set_option maxHeartbeats 2000000 in
set_option maxRecDepth 100000 in
theorem write_any (B b : Nat) (bs : List Value) (s : ByteArray) (w : World) (h : Lib.IsBuilder 60 5 B b bs w) (hlen : bs.length + s.size ≤ 140737488355328) (hBw : B ≤ w.heap.size) :
    Calls Try.prog 31 #[.pointer (some ⟨b, 0, none⟩), .string s] w fun e w' => e = .returned (.tuple #[.int .i64 s.size, .nilIface]) ∧ (Lib.BuilderAt 60 5 B b (.pointer (some ⟨b, 0, none⟩)) (bs ++ Lib.strCells s) w' ∧ Below B w w') := by
  obtain ⟨i0, hi, hz0, hz1, hz2⟩ := info_parts Try.Builder_Extra_169.infoByte
  go_enter Try.func31, Try.ntmps31
  go_wp2_with (go_at_call 34; refine (check_any B b bs _ h).mono ?_)
  rintro e w1 ⟨rfl, h1, hb1⟩
  obtain ⟨hB, v, hbk, hown, hne⟩ := h1
  have c0 : w1.cell? ⟨b, 0, none⟩ = some (.pointer (some ⟨b, 0, none⟩)) := by rw [Lib.cell_of_heap hbk]; rfl
  have c1 : w1.cell? ⟨b, 1, none⟩ = some v := by rw [Lib.cell_of_heap hbk]; rfl
  go_wp2_with (at_builtin; refine Lib.wpList_append_own_string _ rfl _ _ 24 9 rfl B 5 i0 Try.underlying24 Try.underlying9 hi hz0 hz1 hz2 _ _ _ rfl hown s rfl ?c3 ?c4 ?c5 ?_)
  case c3 => unfold maxLen; omega
  case c4 => omega
  case c5 => have := hb1.size; omega
  intro v' w2 hown' hgrow _
  have hlt : b < w1.heap.size := by
    rcases Nat.lt_or_ge b w1.heap.size with h' | h'
    · exact h'
    · simp [Array.getElem?_eq_none h'] at hbk
  have hb2 : w2.heap[b]? = some (.cells #[.pointer (some ⟨b, 0, none⟩), v] 60 (0, 0)) := by
    rw [hgrow.block b hlt (fun e => hne e.symm)]
    exact hbk
  have d0 : w2.cell? ⟨b, 0, none⟩ = some (.pointer (some ⟨b, 0, none⟩)) := by rw [Lib.cell_of_heap hb2]; rfl
  have d1 : w2.cell? ⟨b, 1, none⟩ = some v := by rw [Lib.cell_of_heap hb2]; rfl
  have f1 : w2.frozen? ⟨b, 1, none⟩ = false := Lib.frozen_of_heap hb2 1
  obtain ⟨ao, n', cap, rfl⟩ : ∃ ao n' cap, v' = .slice ao n' cap := by
    rcases hown'.2 with ⟨hv, _⟩ | ⟨g, cap, cur, hv, _⟩
    · exact ⟨_, _, _, hv⟩
    · exact ⟨_, _, _, hv⟩
  go_wp2
  go_ret2
  refine ⟨rfl, ?_, ?_⟩
  · exact Lib.BuilderAt.put (T := 60) (e := 5) hB hb2 (bs' := bs ++ Lib.strCells s) (by simpa [Lib.strCells_length] using hown') (by decide)
  · exact (hb1.grown hgrow (by have := hb1.size; omega) (fun k hk => (hown.lt k hk).1)).setCell (p := ⟨b, 1, none⟩) hB _
theorem isBuilder_below {T e : TypeId} {B b : Nat} {bs : List Value} {w w1 : World} (h : Lib.IsBuilder T e B b bs w) (hb : Below w.heap.size w w1) : Lib.IsBuilder T e B b bs w1 := by
  rcases h with h | h
  · exact Or.inl ⟨h.1, by obtain ⟨_, v, h1, h2, h3⟩ := h; exact ⟨v, (hb.block b (Array.getElem?_eq_some_iff.1 h1).1).trans h1, pw_own_below h2 hb, h3⟩⟩
  · exact Or.inr ⟨h.1, by obtain ⟨_, v, h1, h2, h3⟩ := h; exact ⟨v, (hb.block b (Array.getElem?_eq_some_iff.1 h1).1).trans h1, pw_own_below h2 hb, h3⟩⟩
/-- The bytes of numbers, eight each. -/
def numBytes (l : List Int) : List Int := l.flatMap fun v => wordBytes (IntKind.u64.wrap v)
theorem numBytes_length (l : List Int) : (numBytes l).length = 8 * l.length := by
  induction l with
  | nil => rfl
  | cons v l ih =>
    have e : numBytes (v :: l) = wordBytes (IntKind.u64.wrap v) ++ numBytes l := rfl
    rw [e, List.length_append, ih]
    simp only [wordBytes, List.length_cons, List.length_nil]
    omega
theorem numBytes_snoc (l : List Int) (k : Nat) (h : k < l.length) : numBytes (l.take (k + 1)) = numBytes (l.take k) ++ wordBytes (IntKind.u64.wrap (l.getD k 0)) := by
  rw [List.take_succ_eq_append_getElem h]
  unfold numBytes
  rw [List.flatMap_append, List.flatMap_cons, List.flatMap_nil, List.append_nil, List.getD_eq_getElem?_getD, List.getElem?_eq_getElem h]
  rfl
def u8s (xs : List Int) : List UInt8 := xs.map fun n => UInt8.ofNat n.toNat
theorem u8s_append (xs ys : List Int) : u8s (xs ++ ys) = u8s xs ++ u8s ys := by simp [u8s]
theorem strCells_nums (xs : List Int) : Lib.strCells (strOfNums xs) = Lib.byteCells (u8s xs) := by rw [Lib.strCells_eq]; rfl
def plain_Put.f (l0 : List Int) : Option ByteArray := if l0.length * 8 ≤ 140737488355328 then some (strOfNums (numBytes l0)) else none
set_option maxHeartbeats 2000000 in
set_option maxRecDepth 100000 in
theorem plain_Put.calls (A0 : Option Addr) (c0 : Nat) (l0 : List Int) (r : ByteArray) (w : World) (hr0 : Kd.C (Kd.int .i64) w A0 l0.length l0) (hc0 : l0.length ≤ c0) (h : plain_Put.f l0 = some r) :
    Calls Try.prog 25 #[.slice A0 l0.length c0] w fun e w' => e = .returned (.string r) ∧ Below w.heap.size w w' := by
  unfold plain_Put.f at h
  split at h
  case isFalse => cases h
  rename_i hlen
  have H := Aside0.mk (Option.some.inj h)
  clear h
  have HR := Aside0.mk hr0
  have HC := Aside0.mk hc0
  clear hr0 hc0
  have hmf : ∀ (fn : Fn) (first cap : Array Value) (w : World), (Instr.makeFunc fn first cap).run Try.prog w = .ok (.func fn first cap) w := fun _ _ _ _ => rfl
  go_enter Try.func25, Try.ntmps25
  go_wp2
  go_loopg [10] l0.length (fun g v10 w' => ∃ k : Nat, k ≤ l0.length ∧ Aside0 (g = l0.length - k) ∧ v10 = .int .i64 k ∧ Aside0 (Lib.IsBuilder 60 5 w.heap.size w.heap.size (Lib.byteCells (u8s (numBytes (l0.take k)))) w') ∧ Aside0 (Below w.heap.size w w'))
  case atStart => exact ⟨0, Nat.zero_le _, ⟨rfl⟩, rfl, ⟨Lib.fresh_isBuilder 60 5 w⟩, ⟨(Below.refl _ _).alloc (Nat.le_refl _) _⟩⟩
  case round =>
    obtain ⟨k, hk, HG, rfl, HI, HB⟩ := hrel
    have hBw := HB.out.size
    by_cases hlt : k < l0.length
    · have hs : (u8s (numBytes (l0.take k))).length = 8 * k := by
        unfold u8s
        rw [List.length_map, numBytes_length, List.length_take, Nat.min_eq_left (by omega)]
      obtain ⟨ad, ead, hcell⟩ := Kd.at_int HR.out (k : Int) (by omega) (by omega)
      replace hcell := (HB.out.cell (World.block_lt_of_cell? w _ hcell)).trans hcell
      have HS := Aside0.mk hs
      have HN := Aside0.mk (numBytes_snoc l0 k hlt)
      clear hs
      cases ead
      rw [Int.toNat_natCast] at hcell
      have hlen2 : 8 * k + 8 ≤ 140737488355328 := by omega
      go_wp2_with (first | (go_at_call 16; refine (vint_Word.calls _ _ _ rfl).mono ?_; rintro e w1 ⟨rfl, hb1⟩; have HB1 := Aside0.mk (below_step HB.out hb1); have HI1 := Aside0.mk (isBuilder_below HI.out hb1); clear hb1 HB HI hcell) | (go_at_call 31; refine (write_any _ _ _ _ _ HI1.out ?hl ?hw).mono ?_; rotate_left; rotate_left; rintro e w2 ⟨rfl, hb2, hb3⟩; have HB2 := Aside0.mk (HB1.out.trans hb3); have HI2 := Aside0.mk (Or.inr hb2 : Lib.IsBuilder _ _ _ _ _ _); clear hb2 hb3 HB1 HI1))
      case hl => rw [Lib.byteCells_length, HS.out, strOfNums_size]; simp only [wordBytes, List.length_cons, List.length_nil]; omega
      case hw => exact HB1.out.size
      go_roundg (l0.length - (k + 1))
      case measure => have := HG.out; omega
      case rel =>
        refine ⟨k + 1, by omega, ⟨rfl⟩, by go_num, ⟨?_⟩, HB2⟩
        rw [HN.out, u8s_append, Lib.byteCells_append, ← strCells_nums (wordBytes _)]
        exact HI2.out
    · obtain rfl : k = l0.length := by omega
      go_wp2_with (go_at_call 32; refine (Try.Builder_String_any _ _ _ _ HI.out ?hv).mono ?_; rotate_left; rintro e w1 ⟨rfl, hb1⟩)
      case hv => exact HB.out.size
      go_ret
      refine ⟨?_, HB.out.trans (by assumption)⟩
      rw [← H.out]
      rfl
end Go.Proofs.Ytlcngcbiacmagaa
