/- The range coder, the program's and the reference's, as numbers. Conditions: as each contract states. -/
import Derived.Test.YtgldblakdhalkaaGMin
import Derived.Lib.AppendStr
import Derived.Laws.BytesArg
import Derived.Maps.AppendAt
import Derived.Below
import Derived.Deep.AppendLies
import Derived.Deep.RegionLaw
import Derived.Test.YtgldblakdhalkaaWMore
import Derived.Laws.BitsAllLaws
import Derived.Laws.Bits64
import Derived.Test.YtgldblakdhalkaaPBasex0
import Derived.Deep.DrawnRows
import Derived.WalkLawsBesides
import Derived.LoopN
import Derived.KernelRfl
import Derived.Test.YtgldblakdhalkaaPBasex1
import Derived.Deep.RegionHeld3
/- Rows of bytes that an object owns: what stays of them, how they grow, and the string that they make. No program in it. -/
namespace Go.Proofs.Ytgldblakdhalkaa
open Go.RowKit Go.Lib
theorem own_frame {w w' : World} {B e size n : Nat} {v : Value} {xs : List Value} (h : w.ownsRow B e size v n xs) (hk : ∀ k, v.ownBlock = some k → w'.heap[k]? = w.heap[k]?) : w'.ownsRow B e size v n xs := by
  refine ⟨h.1, ?_⟩
  rcases h.2 with hn | ⟨g, cap, cur, rfl, hb, hg, rest⟩
  · exact .inl hn
  · exact .inr ⟨g, cap, cur, rfl, hb, by rw [hk g rfl]; exact hg, rest⟩
theorem own_base {w : World} {B B' e size n : Nat} {v : Value} {xs : List Value} (h : w.ownsRow B e size v n xs) (hB : B' ≤ B) : w.ownsRow B' e size v n xs := by
  refine ⟨h.1, ?_⟩
  rcases h.2 with hn | ⟨g, cap, cur, rfl, hb, hg, rest⟩
  · exact .inl hn
  · exact .inr ⟨g, cap, cur, rfl, by omega, hg, rest⟩
/-- A string's bytes, as numbers. -/
def strInts (s : ByteArray) : List Int := s.data.toList.map fun b => (b.toNat : Int)
theorem strCells_ints (s : ByteArray) : strCells s = (strInts s).map (Value.int .u8) := by
  unfold strCells strInts
  rw [List.map_map]
  rfl
theorem strInts_length (s : ByteArray) : (strInts s).length = s.size := by
  unfold strInts
  rw [List.length_map, Array.length_toList]
  rfl
section
variable {P : Program} (w : World)
/-- The string of an owned row. -/
theorem conv_ints (src e dst : TypeId) (hs : P.underlying src = some (.slice e)) (he : P.underlying e = some (.int .u8)) (hd : P.underlying dst = some .string) (B : Nat) (v : Value) (l : List Int) (h : w.ownsRow B e 1 v l.length (l.map (Value.int .u8))) :
    (convert src dst v).run P w = .ok (.string (strOfNums l)) w := by
  rcases h.2 with ⟨rfl, h0⟩ | ⟨g, cap, cur, rfl, hb, hg, hn, hc, hs2, ht⟩
  · rw [List.eq_nil_of_length_eq_zero h0]
    exact run_convert_bytes_nil w src e hs he 0 0 dst hd
  · refine run_convert_bytes_arg w src e hs he g 0 l.length cap l rfl (fun i hi => ?_) dst hd
    rw [Nat.zero_add, cell_of_row w g i cur e (0, 0) hg]
    have h2 : (cur.toList.take (l.length * 1))[i]? = (l.map (Value.int .u8))[i]? := by rw [ht]
    rw [List.getElem?_take, if_pos (by omega), Array.getElem?_toList] at h2
    rw [h2, List.getElem?_map, List.getElem?_eq_getElem hi, List.getD_eq_getElem?_getD, List.getElem?_eq_getElem hi]
    rfl
theorem strOfNums_ints (s : ByteArray) : strOfNums (strInts s) = s := by
  obtain ⟨⟨l⟩⟩ := s
  unfold strOfNums strInts
  congr 2
  rw [List.map_map]
  conv => rhs; rw [← List.map_id l]
  refine List.map_congr_left fun b _ => ?_
  simp
theorem conv_own (src e dst : TypeId) (hs : P.underlying src = some (.slice e)) (he : P.underlying e = some (.int .u8)) (hd : P.underlying dst = some .string) (B : Nat) (v : Value) (s : ByteArray) (h : w.ownsRow B e 1 v s.size (strCells s)) :
    (convert src dst v).run P w = .ok (.string s) w := by
  have := conv_ints (P := P) w src e dst hs he hd B v (strInts s) (by rw [strInts_length, ← strCells_ints]; exact h)
  rw [strOfNums_ints] at this
  exact this
/-- Bytes of a string behind an owned row: what is owned then, and where it lies. -/
theorem app_str_at (base : Nat) (t u ty e : TypeId) (i : TypeInfo) (ht : P.underlying t = some (.slice e)) (hu : P.underlying u = some .string) (hi : P.info? e = some i) (hz : i.zero = some (.int .u8 0))
    (hsize : i.size = 1) (hby : i.bytes = 1) (v : Value) (n : Nat) (xs : List Value) (hown : w.ownsRow base e 1 v n xs) (s : ByteArray)
    (h63 : n + s.size ≤ maxLen) (hbytes : n + s.size ≤ 140737488355328) (hbase : base ≤ w.heap.size) :
    ∃ v' w', (Builtin.append_ #[t, u] ty #[v, .string s]).run P w = .ok v' w' ∧ w'.ownsRow base e 1 v' (n + s.size) (xs ++ strCells s) ∧ w.grownBy w' v.ownBlock ∧
      (v'.ownBlock = v.ownBlock ∨ v'.ownBlock = some w.heap.size) := by
  obtain ⟨v', w', hr, ho, hg, _⟩ := run_append_own_string (P := P) w base t u ty e i ht hu hi hz hsize hby v n xs hown s h63 hbytes hbase
  refine ⟨v', w', hr, ho, hg, ?_⟩
  have hxl : xs.length = n := by simpa using hown.1
  have hml : maxLen = 9223372036854775807 ∨ True := .inr trivial
  rcases hown.2 with ⟨rfl, rfl⟩ | ⟨g, cap, cur, rfl, hbg, hgg, hnc, hcm, hcs, htake⟩
  · by_cases hm : s.size = 0
    · rcases ho.2 with ⟨rfl, _⟩ | ⟨g, cap, cur, rfl, _, hgg, hn2, _, hcs, _⟩
      · exact .inl rfl
      · exfalso
        have hf := run_firstCells_string (P := P) w 1 s
        rw [hm] at hf
        simp [Builtin.append_, run_underlying ht, run_underlying hu, sizeOf, typeInfo, hi, hsize, Builtin.lenOf, hm, hf] at hr
    · have h2 := run_append_nil_string (P := P) w t u ty e i (.int .u8 0) ht hu hi hz s (by omega) (by omega) (by rw [hby]; omega)
      rw [hr] at h2
      injection h2 with h2 _
      exact .inr (by rw [h2]; rfl)
  · by_cases hroom : n + s.size ≤ cap
    · have hcs' : cur.size = cap := by simpa using hcs
      have h2 := run_append_room_string (P := P) w t u ty e i ht hu hi hsize g n cap cur hgg s hroom (by omega)
      rw [hr] at h2
      injection h2 with h2 _
      exact .inl (by rw [h2]; rfl)
    · have holds : ∀ j u, xs[j]? = some u → w.cell? ((⟨g, 0, none⟩ : Addr).add j) = some u := hown.cells (g := g) rfl
      have h2 := run_append_grow_string (P := P) w t u ty e i (.int .u8 0) ht hu hi hz ⟨g, 0, none⟩ n cap xs (by rw [hsize]; simpa using hxl) holds s (by omega) (by omega) (by rw [hby]; exact growslice_fits (by omega) (by omega))
      rw [hr] at h2
      injection h2 with h2 _
      exact .inr (by rw [h2]; rfl)
end
/-- The same at a step of a region that draws its order. -/
theorem step_str {P : Program} {w : World} {ops : Array Oper} {o : Oper} {a : Act} {K : Act → World → Prop} {Q : Exit → Act → World → Prop} {E : Prop} (hgd : o.guard = none) (x y : Operand) (t u : TypeId)
    (ho : o.op = .call { callee := .builtin .append, args := #[x, y], argTypes := #[t, u] }) (base : Nat) (e : TypeId) (i : TypeInfo) (ht : P.underlying t = some (.slice e)) (hu : P.underlying u = some .string) (hi : P.info? e = some i) (hz : i.zero = some (.int .u8 0))
    (hsize : i.size = 1) (hby : i.bytes = 1) (v : Value) (n : Nat) (xs : List Value) (hx : a.eval x = v) (hown : w.ownsRow base e 1 v n xs) (s : ByteArray) (hy : a.eval y = .string s)
    (h63 : n + s.size ≤ maxLen) (hbytes : n + s.size ≤ 140737488355328) (hbase : base ≤ w.heap.size)
    (h : ∀ v' w', w'.ownsRow base e 1 v' (n + s.size) (xs ++ strCells s) → w.grownBy w' v.ownBlock → (v'.ownBlock = v.ownBlock ∨ v'.ownBlock = some w.heap.size) → K (a.put o.dst v') w') :
    if Region.wanted o (yielded ops a.tmps) = true then Oper.wp P o a w K Q else E := by
  have hw : Region.wanted o (yielded ops a.tmps) = true := by simp [Region.wanted, hgd]
  rw [if_pos hw]
  obtain ⟨v', w', hr, h2, h3, h4⟩ := app_str_at (P := P) w base t u o.type e i ht hu hi hz hsize hby v n xs hown s h63 hbytes hbase
  unfold Oper.wp execOp
  simp only [ho, resolve, invoke, builtin, Sem.run_bind, Sem.run_pure, Result.andThen_ok, List.map_toArray, List.map_cons, List.map_nil, hx, hy, hr]
  exact h _ _ h2 h3 h4
/-- One byte more, laid into a block of its own ahead: at a step of a region that draws its order. -/
theorem step_one {P : Program} {w : World} {ops : Array Oper} {o : Oper} {a : Act} {K : Act → World → Prop} {Q : Exit → Act → World → Prop} {E : Prop} (hgd : o.guard = none) (x y : Operand) (t : TypeId)
    (ho : o.op = .call { callee := .builtin .append, args := #[x, y], argTypes := #[t, t] }) (base : Nat) (e : TypeId) (i : TypeInfo) (z : Value) (bytes : Nat) (ht : P.underlying t = some (.slice e)) (hi : P.info? e = some i) (hz : i.zero = some z)
    (hsize : i.size = 1) (hby : i.bytes = bytes) (hzs : z.cells.size = 1) (v : Value) (n : Nat) (xs : List Value) (hx : a.eval x = v) (hown : w.ownsRow base e 1 v n xs) (g : Nat) (c : Value) (hy : a.eval y = .slice (some ⟨g, 0, none⟩) 1 1)
    (hnew : w.heap[g]? = some (.cells #[c] e (0, 0))) (hc1 : c.oneCell' = true) (h63 : n + 1 ≤ maxLen) (hbytes : (n + 1) * bytes ≤ 140737488355328) (hbase : base ≤ w.heap.size)
    (h : ∀ b cap w', w'.ownsRow base e 1 (.slice (some ⟨b, 0, none⟩) (n + 1) cap) (n + 1) (xs ++ [c]) → w.grownBy w' v.ownBlock → (v.ownBlock = some b ∨ b = w.heap.size) → K (a.put o.dst (.slice (some ⟨b, 0, none⟩) (n + 1) cap)) w') :
    if Region.wanted o (yielded ops a.tmps) = true then Oper.wp P o a w K Q else E :=
  step_append_lies w hgd x y t ho base e i z 1 bytes ht hi hz hsize hby hzs (by decide) v n xs hx hown ⟨g, 0, none⟩ 1 1 [c] hy rfl (World.news_of_block hnew) (fun u hu => by rw [List.mem_singleton] at hu; rw [hu]; exact hc1) (by decide) h63 hbytes hbase _ rfl
    (fun b cap w' h1 h2 h3 _ => h b cap w' h1 h2 h3)
/-- What is cut to nothing is still owned. -/
theorem own_none {w : World} {B e n cap g : Nat} {xs : List Value} (h : w.ownsRow B e 1 (.slice (some ⟨g, 0, none⟩) n cap) n xs) : w.ownsRow B e 1 (.slice (some ⟨g, 0, none⟩) 0 cap) 0 [] := by
  refine ⟨rfl, ?_⟩
  rcases h.2 with ⟨h0, _⟩ | ⟨g', cap', cur, hv, hb, hg, hn, hc, hs2, ht⟩
  · cases h0
  · injection hv with e1 e2 e3
    injection e1 with e1
    injection e1 with e1 _ _
    subst e1 e3
    exact .inr ⟨g, cap, cur, rfl, hb, hg, Nat.zero_le _, hc, hs2, by simp⟩
/-- What a call keeps: the streams, and all blocks but those of S and what is new since. -/
structure Mine (S : Nat → Prop) (w W : World) : Prop where
  os : W.os = w.os
  tape : W.tape = w.tape
  output : W.output = w.output
  size : w.heap.size ≤ W.heap.size
  block : ∀ k, k < w.heap.size → ¬ S k → W.heap[k]? = w.heap[k]?
section
variable {S S2 : Nat → Prop} {w W W2 : World}
theorem Mine.refl (S : Nat → Prop) (w : World) : Mine S w w := ⟨rfl, rfl, rfl, Nat.le_refl _, fun _ _ _ => rfl⟩
theorem Mine.then_ (h : Mine S w W) (k : Mine S2 W W2) (hs : ∀ i, S2 i → S i ∨ w.heap.size ≤ i) : Mine S w W2 :=
  ⟨k.os.trans h.os, k.tape.trans h.tape, k.output.trans h.output, Nat.le_trans h.size k.size, fun i hi hn => (k.block i (Nat.lt_of_lt_of_le hi h.size) (fun h2 => (hs i h2).elim hn (fun h3 => by omega))).trans (h.block i hi hn)⟩
theorem Mine.mono (h : Mine S w W) (hs : ∀ i, S i → S2 i) : Mine S2 w W := ⟨h.os, h.tape, h.output, h.size, fun i hi hn => h.block i hi (fun k => hn (hs i k))⟩
theorem Mine.of_below (S : Nat → Prop) (h : Below w.heap.size w W) : Mine S w W := ⟨h.os, h.tape, h.output, h.size, fun i hi _ => h.block i hi⟩
theorem Mine.below (h : Mine S w W) (k : Below W.heap.size W W2) : Mine S w W2 := h.then_ (Mine.of_below (fun _ => False) k) (fun _ hk => hk.elim)
theorem Mine.set (h : Mine S w W) {g i : Nat} (hg : S g ∨ w.heap.size ≤ g) (u : Value) : Mine S w (W.setCell ⟨g, i, none⟩ u) :=
  h.then_ (S2 := fun k => k = g) ⟨rfl, rfl, rfl, by simp [World.setCell], fun k _ hn => Below.heap_setCell W ⟨g, i, none⟩ u k hn⟩ (fun k hk => by rw [hk]; exact hg)
theorem Mine.grown {row : Option Nat} (h : Mine S w W) (hg : W.grownBy W2 row) (hr : ∀ k, row = some k → S k ∨ w.heap.size ≤ k) : Mine S w W2 :=
  h.then_ (S2 := fun k => row = some k) ⟨hg.os, hg.tape, hg.output, hg.size, fun k hk hn => hg.block k hk (fun e => hn e.symm)⟩ hr
theorem Mine.alloc (h : Mine S w W) (o : Obj) : Mine S w (W.alloc o) := h.below ((Below.refl _ _).alloc (Nat.le_refl _) o)
theorem Mine.drew (h : Mine S w W) : Mine S w W.drew := ⟨h.os, h.tape, h.output, h.size, h.block⟩
theorem Mine.to_below {B : Nat} {w0 : World} (h : Mine S w W) (hb : Below B w0 w) (hB : B ≤ w.heap.size) (hs : ∀ k, S k → B ≤ k) : Below B w0 W :=
  ⟨h.os.trans hb.os, h.tape.trans hb.tape, h.output.trans hb.output, Nat.le_trans hb.size h.size, fun k hk => (h.block k (by omega) (fun h2 => by have := hs k h2; omega)).trans (hb.block k hk)⟩
theorem blk_mine {g : Nat} {o : Obj} (hb : w.heap[g]? = some o) (h : Mine S w W) (hg : ¬ S g) : W.heap[g]? = some o := (h.block g (Array.getElem?_eq_some_iff.1 hb).1 hg).trans hb
theorem own_mine {B e size n : Nat} {v : Value} {xs : List Value} (ho : w.ownsRow B e size v n xs) (h : Mine S w W) (hg : ∀ k, v.ownBlock = some k → ¬ S k) : W.ownsRow B e size v n xs :=
  own_frame ho (fun k hk => h.block k (ho.lt k hk).2 (hg k hk))
end
end Go.Proofs.Ytgldblakdhalkaa
/- Plain lemmas on bytes and numbers: a string as a list of numbers, a word's number, or and shift as sum and product. No program in sight. -/
namespace Go.Proofs.Ytgldblakdhalkaa
open Go.RowKit Go.Proofs.YtgldblakdhalkaaW.PrintWords Go.Proofs.YtgldblakdhalkaaW.PrintLast Go.Proofs.YtgldblakdhalkaaW.PrintMore
/-- A string's bytes as numbers. -/
def lst (s : ByteArray) : List Nat := s.data.toList.map UInt8.toNat
theorem lst_length (s : ByteArray) : (lst s).length = s.size := by
  unfold lst
  rw [List.length_map, Array.length_toList]
  rfl
theorem lst_lt (s : ByteArray) : ∀ x ∈ lst s, x < 256 := by
  intro x hx
  obtain ⟨b, _, rfl⟩ := List.mem_map.1 hx
  exact b.toNat_lt
theorem lst_inj {s t : ByteArray} (h : lst s = lst t) : s = t := by
  have h1 : s.data.toList = t.data.toList := List.map_inj_right (fun _ _ e => UInt8.toNat_inj.1 e) |>.1 h
  cases s; cases t
  simp only at h1
  congr 1
  exact Array.toList_inj.1 h1
theorem lst_append (s t : ByteArray) : lst (s ++ t) = lst s ++ lst t := by
  simp [lst]
theorem lst_extract (s : ByteArray) (i j : Nat) : lst (s.extract i j) = ((lst s).drop i).take (j - i) := by
  unfold lst
  rw [ByteArray.data_extract, Array.toList_extract, List.extract_eq_take_drop, List.map_take, List.map_drop]
def nat8 (xs : List Int) : List Nat := xs.map fun x => x.toNat % 256
theorem lst_nums (xs : List Int) : lst (strOfNums xs) = nat8 xs := by
  unfold lst nat8
  rw [strOfNums_data, List.map_map]
  apply List.map_congr_left
  intro x _
  simp
/-- Byte i. -/
def bn (s : ByteArray) (i : Nat) : Nat := (lst s).getD i 0
theorem bt_bn (s : ByteArray) (i : Nat) : bt s (i : Int) = (bn s i : Int) := by
  unfold bt bn lst
  rw [Int.toNat_natCast, List.getD_eq_getElem?_getD, List.getElem?_map]
  split
  · rename_i h
    have h' : i < s.data.toList.length := by rw [Array.length_toList]; exact h
    rw [List.getElem?_eq_getElem h']
    simp
    rfl
  · rename_i h
    have h' : s.data.toList.length ≤ i := by rw [Array.length_toList]; exact Nat.le_of_not_lt h
    rw [List.getElem?_eq_none h']
    rfl
theorem bn_lt (s : ByteArray) (i : Nat) : bn s i < 256 := by
  unfold bn
  rw [List.getD_eq_getElem?_getD]
  by_cases h : i < (lst s).length
  · rw [List.getElem?_eq_getElem h]
    exact lst_lt s _ (List.getElem_mem h)
  · rw [List.getElem?_eq_none (by omega)]
    decide
theorem wrap_u64 (n : Int) (h0 : 0 ≤ n) (h1 : n < 18446744073709551616) : IntKind.u64.wrap n = n := by
  rw [IntKind.wrap_u64]
  exact Int.emod_eq_of_lt h0 h1
theorem or_nat (a c s : Nat) (ha : a < 2 ^ s) : a ||| c * 2 ^ s = a + c * 2 ^ s := by
  rw [Nat.or_comm, Nat.mul_comm, ← Nat.two_pow_add_eq_or_of_lt ha c, Nat.add_comm]
/-- A byte (or what is below 2^57) shifted and laid into a number that has none of these bits. -/
theorem or_shl (a c s : Nat) (ha : a < 2 ^ s) (hs : s < 64) (hc : c * 2 ^ s < 18446744073709551616) :
    Go.bits .or .u64 (a : Int) (shl .u64 (IntKind.u64.wrap (c : Int)) (s : Int)) = ((a + c * 2 ^ s : Nat) : Int) := by
  have hp : 1 ≤ 2 ^ s := Nat.one_le_two_pow
  have hc' : c < 18446744073709551616 := Nat.lt_of_le_of_lt (Nat.le_mul_of_pos_right c hp) hc
  have ha' : a < 18446744073709551616 := Nat.lt_of_lt_of_le ha (Nat.pow_le_pow_right (by omega) (show s ≤ 64 by omega))
  have e : shl .u64 (IntKind.u64.wrap (c : Int)) (s : Int) = ((c * 2 ^ s : Nat) : Int) := by
    unfold shl
    rw [wrap_u64 (c : Int) (by omega) (by omega), Int.toNat_natCast, show IntKind.u64.bits = 64 from rfl, Nat.min_eq_left (by omega)]
    have e2 : ((c : Int) * 2 ^ s) = ((c * 2 ^ s : Nat) : Int) := by push_cast; rfl
    rw [e2]
    exact wrap_u64 _ (by omega) (by omega)
  rw [e, u64_or_nat _ _ ha' hc, or_nat a c s ha]
theorem and127 (c : Nat) (hc : c < 256) : Go.bits .and .u8 (c : Int) 127 = ((c % 128 : Nat) : Int) := by
  have e : (127 : Int) = ((127 : Nat) : Int) := rfl
  rw [e, u8_and_nat _ _ hc (by omega)]
  congr 1
  exact Nat.and_two_pow_sub_one_eq_mod c 7
theorem or128 (c : Nat) (hc : c < 256) : Go.bits .or .u8 (c : Int) 128 = ((c % 128 + 128 : Nat) : Int) := by
  have e : (128 : Int) = ((128 : Nat) : Int) := rfl
  rw [e, u8_or_nat _ _ hc (by omega)]
  congr 1
  have : ∀ c : Fin 256, c.val ||| 128 = c.val % 128 + 128 := by decide +kernel
  exact this ⟨c, hc⟩
/-- The number of the first j bytes behind i, the lowest first. -/
def part (s : ByteArray) (i : Nat) : Nat → Nat
  | 0 => 0
  | j + 1 => part s i j + bn s (i + j) * 2 ^ (8 * j)
theorem part_lt (s : ByteArray) (i j : Nat) : part s i j < 2 ^ (8 * j) := by
  induction j with
  | zero => simp [part]
  | succ j ih =>
    have hb := bn_lt s (i + j)
    have e : 2 ^ (8 * (j + 1)) = 256 * 2 ^ (8 * j) := by rw [Nat.mul_add, Nat.pow_add, Nat.mul_comm]
    have h2 : bn s (i + j) * 2 ^ (8 * j) ≤ 255 * 2 ^ (8 * j) := Nat.mul_le_mul_right _ (by omega)
    simp only [part]
    rw [e]
    omega
theorem part_step (s : ByteArray) (i j : Nat) (hj : j < 8) : Go.bits .or .u64 (part s i j : Int) (shl .u64 (IntKind.u64.wrap (bn s (i + j) : Int)) ((8 * j : Nat) : Int)) = (part s i (j + 1) : Int) := by
  have hb := bn_lt s (i + j)
  have h : bn s (i + j) * 2 ^ (8 * j) < 18446744073709551616 := by
    have h1 : (2 : Nat) ^ (8 * j) ≤ 2 ^ 56 := Nat.pow_le_pow_right (by omega) (by omega)
    have h2 : bn s (i + j) * 2 ^ (8 * j) ≤ 255 * 2 ^ (8 * j) := Nat.mul_le_mul_right _ (by omega)
    omega
  exact or_shl _ _ _ (part_lt s i j) (by omega) h
theorem part_congr (s t : ByteArray) (i k : Nat) : ∀ j, (∀ m, m < j → bn s (i + m) = bn t (k + m)) → part s i j = part t k j := by
  intro j
  induction j with
  | zero => intro _; rfl
  | succ j ih =>
    intro h
    simp only [part]
    rw [ih (fun m hm => h m (by omega)), h j (by omega)]
theorem part_digits (s : ByteArray) (i n : Nat) : ∀ j, (∀ m, m < j → bn s (i + m) = n / 2 ^ (8 * m) % 256) → part s i j = n % 2 ^ (8 * j) := by
  intro j
  induction j with
  | zero => intro _; simp [part, Nat.mod_one]
  | succ j ih =>
    intro h
    simp only [part]
    rw [ih (fun m hm => h m (by omega)), h j (by omega)]
    have e : 2 ^ (8 * (j + 1)) = 2 ^ (8 * j) * 256 := by rw [Nat.mul_add, Nat.pow_add]
    rw [e, Nat.mod_mul, Nat.mul_comm (n / _ % _)]
/-- What bytes are, they are again by their number. -/
theorem part_bytes (s : ByteArray) (i : Nat) : ∀ j m, m < j → part s i j / 2 ^ (8 * m) % 256 = bn s (i + m) := by
  intro j
  induction j with
  | zero => intro m hm; omega
  | succ j ih =>
    intro m hm
    simp only [part]
    have hl := part_lt s i j
    by_cases h : m = j
    · subst h
      rw [Nat.add_mul_div_right _ _ (Nat.two_pow_pos _), Nat.div_eq_of_lt hl, Nat.zero_add, Nat.mod_eq_of_lt (bn_lt _ _)]
    · have e : bn s (i + j) * 2 ^ (8 * j) = bn s (i + j) * 2 ^ (8 * (j - m - 1)) * 256 * 2 ^ (8 * m) := by
        rw [Nat.mul_assoc, Nat.mul_assoc]
        congr 1
        rw [show (256 : Nat) = 2 ^ 8 from rfl, ← Nat.pow_add, ← Nat.pow_add]
        congr 1
        omega
      rw [e, Nat.add_mul_div_right _ _ (Nat.two_pow_pos _), Nat.add_mul_mod_self_right]
      exact ih m (by omega)
theorem wrap_i (i : Nat) (h : i < 9223372036854775807) : wrap64 ((i : Int) + 1) = ((i + 1 : Nat) : Int) := by unfold wrap64; omega
theorem wrap_nat (i : Nat) (h : i < 9223372036854775808) : wrap64 (i : Int) = (i : Int) := by unfold wrap64; omega
end Go.Proofs.Ytgldblakdhalkaa
/- Numbers of the range coder: a number's bytes, the highest first; sums with a carry; the coder's steps as numbers. Conditions: as stated. -/
namespace Go.Proofs.Ytgldblakdhalkaa
set_option linter.unusedVariables false
/-- The byte of weight 256 ^ j. -/
def dg (V j : Nat) : Nat := V / 256 ^ j % 256
/-- n bytes of a number, the highest first. -/
def beI (n V : Nat) : List Int := (List.range n).map fun i => ((dg V (n - 1 - i) : Nat) : Int)
/-- Of n bytes the lowest m are those of W already. -/
def parI (n V W m : Nat) : List Int := (List.range n).map fun i => ((dg (if n - 1 - i < m then W else V) (n - 1 - i) : Nat) : Int)
theorem dg_lt (V j : Nat) : dg V j < 256 := Nat.mod_lt _ (by decide)
theorem beI_length (n V : Nat) : (beI n V).length = n := by simp [beI]
theorem parI_length (n V W m : Nat) : (parI n V W m).length = n := by simp [parI]
theorem beI_get (n V i : Nat) (h : i < n) : (beI n V)[i]? = some ((dg V (n - 1 - i) : Nat) : Int) := by
  unfold beI
  rw [List.getElem?_map, List.getElem?_range h]
  rfl
theorem parI_get (n V W m i : Nat) (h : i < n) : (parI n V W m)[i]? = some ((dg (if n - 1 - i < m then W else V) (n - 1 - i) : Nat) : Int) := by
  unfold parI
  rw [List.getElem?_map, List.getElem?_range h]
  rfl
theorem list_ext {l k : List Int} (h : l.length = k.length) (hi : ∀ i, i < l.length → l[i]? = k[i]?) : l = k := by
  apply List.ext_getElem?
  intro i
  by_cases c : i < l.length
  · exact hi i c
  · rw [List.getElem?_eq_none (by omega), List.getElem?_eq_none (by omega)]
theorem parI_zero (n V W : Nat) : parI n V W 0 = beI n V := by
  refine list_ext (by rw [parI_length, beI_length]) fun i hi => ?_
  rw [parI_length] at hi
  rw [parI_get _ _ _ _ _ hi, beI_get _ _ _ hi, if_neg (by omega)]
theorem parI_stop (n V W m : Nat) (h : ∀ j, m ≤ j → j < n → dg W j = dg V j) : parI n V W m = beI n W := by
  refine list_ext (by rw [parI_length, beI_length]) fun i hi => ?_
  rw [parI_length] at hi
  rw [parI_get _ _ _ _ _ hi, beI_get _ _ _ hi]
  by_cases c : n - 1 - i < m
  · rw [if_pos c]
  · rw [if_neg c, h _ (by omega) (by omega)]
theorem parI_set (n V W m : Nat) (h : m < n) : (parI n V W m).set (n - 1 - m) ((dg W m : Nat) : Int) = parI n V W (m + 1) := by
  refine list_ext (by rw [List.length_set, parI_length, parI_length]) fun i hi => ?_
  rw [List.length_set, parI_length] at hi
  rw [parI_get _ _ _ _ _ hi]
  by_cases c : n - 1 - m = i
  · subst c
    rw [List.getElem?_set_self (by rw [parI_length]; omega), show n - 1 - (n - 1 - m) = m by omega, if_pos (by omega)]
  · rw [List.getElem?_set_ne c, parI_get _ _ _ _ _ hi]
    by_cases c2 : n - 1 - i < m
    · rw [if_pos c2, if_pos (by omega)]
    · rw [if_neg c2, if_neg (by omega)]
theorem dg_div (V a j : Nat) : dg (V / 256 ^ a) j = dg V (a + j) := by
  unfold dg
  rw [Nat.div_div_eq_div_mul, Nat.pow_add]
theorem dg_congr {V W a j : Nat} (h : V / 256 ^ a = W / 256 ^ a) (hj : a ≤ j) : dg V j = dg W j := by
  obtain ⟨d, rfl⟩ := Nat.exists_eq_add_of_le hj
  rw [← dg_div, ← dg_div, h]
theorem beI_app (a b V : Nat) : beI (a + b) V = beI a (V / 256 ^ b) ++ beI b V := by
  refine list_ext (by rw [List.length_append, beI_length, beI_length, beI_length]) fun i hi => ?_
  rw [beI_length] at hi
  rw [beI_get _ _ _ hi]
  by_cases c : i < a
  · rw [List.getElem?_append_left (by rw [beI_length]; exact c), beI_get _ _ _ c, dg_div, show a + b - 1 - i = b + (a - 1 - i) by omega]
  · rw [List.getElem?_append_right (by rw [beI_length]; omega), beI_length, beI_get _ _ _ (by omega), show a + b - 1 - i = b - 1 - (i - a) by omega]
theorem beI_one (c : Nat) (h : c < 256) : beI 1 c = [(c : Int)] := by
  have : dg c 0 = c := by unfold dg; rw [Nat.pow_zero, Nat.div_one]; exact Nat.mod_eq_of_lt h
  unfold beI
  simp [List.range_succ, this]
theorem beI_mod (n V : Nat) : beI n (V % 256 ^ n) = beI n V := by
  refine list_ext (by rw [beI_length, beI_length]) fun i hi => ?_
  rw [beI_length] at hi
  rw [beI_get _ _ _ hi, beI_get _ _ _ hi]
  congr 2
  unfold dg
  have e : 256 ^ n = 256 ^ (n - 1 - i) * 256 ^ (i + 1) := by rw [← Nat.pow_add]; congr 1; omega
  rw [e, Nat.mod_mul_right_div_self, Nat.pow_succ, Nat.mul_comm (256 ^ i) 256, Nat.mod_mul_right_mod]
theorem beI_snoc (n D c : Nat) (h : c < 256) : beI (n + 1) (D * 256 + c) = beI n D ++ [(c : Int)] := by
  rw [beI_app n 1, ← beI_one c h]
  have e1 : (D * 256 + c) / 256 ^ 1 = D := by rw [Nat.pow_one]; omega
  have e2 : beI 1 (D * 256 + c) = beI 1 c := by
    rw [← beI_mod 1 (D * 256 + c), ← beI_mod 1 c]
    congr 1
    rw [Nat.pow_one]
    omega
  rw [e1, e2]
/-! ### A sum with its carry -/
/-- What is carried behind m bytes. -/
def cy (V n m : Nat) : Nat := (V % 256 ^ m + n) / 256 ^ m
theorem cy_zero (V n : Nat) : cy V n 0 = n := by unfold cy; rw [Nat.pow_zero, Nat.mod_one, Nat.div_one, Nat.zero_add]
theorem cy_div (V n m : Nat) : (V + n) / 256 ^ m = cy V n m + V / 256 ^ m := by
  unfold cy
  have hp : 0 < 256 ^ m := Nat.pow_pos (by decide)
  conv => lhs; rw [← Nat.mod_add_div V (256 ^ m)]
  rw [show V % 256 ^ m + 256 ^ m * (V / 256 ^ m) + n = V % 256 ^ m + n + 256 ^ m * (V / 256 ^ m) by omega, Nat.add_mul_div_left _ _ hp]
theorem cy_succ (V n m : Nat) : cy V n (m + 1) = (cy V n m + dg V m) / 256 := by
  have hp : 0 < 256 ^ m := Nat.pow_pos (by decide)
  unfold cy dg
  rw [Nat.pow_succ, ← Nat.div_div_eq_div_mul, Nat.mod_mul]
  congr 1
  rw [show V % 256 ^ m + 256 ^ m * (V / 256 ^ m % 256) + n = V % 256 ^ m + n + 256 ^ m * (V / 256 ^ m % 256) by omega, Nat.add_mul_div_left _ _ hp]
theorem dg_sum (V n m : Nat) : dg (V + n) m = (cy V n m + dg V m) % 256 := by
  unfold dg
  rw [cy_div]
  omega
theorem cy_none (V n m j : Nat) (h : cy V n m = 0) (hj : m ≤ j) : dg (V + n) j = dg V j := dg_congr (by rw [cy_div, h, Nat.zero_add]) hj
theorem cy_lt (V n m : Nat) (h : n < 4294967296) : cy V n m < 4294967296 := by
  induction m with
  | zero => rw [cy_zero]; exact h
  | succ m ih => rw [cy_succ]; have := dg_lt V m; omega
theorem cy_top (V n L : Nat) (h : V + n < 256 ^ L) : cy V n L = 0 := by
  unfold cy
  rw [Nat.mod_eq_of_lt (by omega)]
  exact Nat.div_eq_of_lt h
end Go.Proofs.Ytgldblakdhalkaa
/- The coder's steps as numbers: what has come of low (V), of how many bytes (L), and the range (R). Conditions: as stated. -/
namespace Go.Proofs.Ytgldblakdhalkaa
set_option linter.unusedVariables false
structure Enc where
  V : Nat
  L : Nat
  R : Nat
/-- What holds between two steps. -/
def Enc.ok (e : Enc) : Prop := 1 ≤ e.L ∧ 16777216 ≤ e.R ∧ e.R < 4294967296 ∧ e.V + e.R ≤ 256 ^ (e.L + 3)
/-- What holds ahead of growing. -/
def Enc.pre (e : Enc) : Prop := 1 ≤ e.L ∧ 1 ≤ e.R ∧ e.R < 4294967296 ∧ e.V + e.R ≤ 256 ^ (e.L + 3)
def Enc.new : Enc := ⟨0, 1, 4294967295⟩
def Enc.up (e : Enc) : Enc := ⟨e.V * 256, e.L + 1, e.R * 256⟩
def growE : Nat → Enc → Enc
  | 0, e => e
  | k + 1, e => if e.R < 16777216 then growE k e.up else e
def cutN (p : Int) : Nat := (if p < 1 then 1 else if 4095 < p then 4095 else p).toNat
def shareN (R : Nat) (p : Int) : Nat := R / 4096 * cutN p
def bitP (p : Int) (b : Bool) (e : Enc) : Enc := if b then ⟨e.V, e.L, shareN e.R p⟩ else ⟨e.V + shareN e.R p, e.L, e.R - shareN e.R p⟩
def halfP (b : Bool) (e : Enc) : Enc := if b then ⟨e.V + e.R / 2, e.L, e.R / 2⟩ else ⟨e.V, e.L, e.R / 2⟩
def bitE (p : Int) (b : Bool) (e : Enc) : Enc := growE 4 (bitP p b e)
def halfE (b : Bool) (e : Enc) : Enc := growE 4 (halfP b e)
/-- i bits of v, from the highest on. -/
def directE (v : Nat) : Nat → Enc → Enc
  | 0, e => e
  | i + 1, e => directE v i (halfE (v / 2 ^ i % 2 == 1) e)
theorem Enc.new_ok : Enc.new.ok := ⟨by decide, by decide, by decide, by decide⟩
theorem Enc.ok.pre {e : Enc} (h : e.ok) : e.pre := ⟨h.1, by have := h.2.1; omega, h.2.2.1, h.2.2.2⟩
theorem up_pre {e : Enc} (h : e.pre) (hR : e.R < 16777216) : e.up.pre := by
  obtain ⟨h1, h2, h3, h4⟩ := h
  refine ⟨by unfold Enc.up; simp, by unfold Enc.up; simp; omega, by unfold Enc.up; simp; omega, ?_⟩
  unfold Enc.up
  simp only
  rw [show e.L + 1 + 3 = (e.L + 3) + 1 by omega, Nat.pow_succ]
  omega
theorem grow_ok : ∀ (k : Nat) (e : Enc), e.pre → 16777216 ≤ e.R * 256 ^ k → (growE k e).ok
  | 0, e, h, hk => ⟨h.1, by rw [Nat.pow_zero, Nat.mul_one] at hk; exact hk, h.2.2.1, h.2.2.2⟩
  | k + 1, e, h, hk => by
    unfold growE
    by_cases c : e.R < 16777216
    · rw [if_pos c]
      refine grow_ok k e.up (up_pre h c) ?_
      have : e.up.R * 256 ^ k = e.R * 256 ^ (k + 1) := by unfold Enc.up; simp only; rw [Nat.pow_succ, Nat.mul_assoc, Nat.mul_comm 256]
      rw [this]
      exact hk
    · rw [if_neg c]
      exact ⟨h.1, by omega, h.2.2.1, h.2.2.2⟩
theorem grow4_ok {e : Enc} (h : e.pre) : (growE 4 e).ok := grow_ok 4 e h (by have := h.2.1; rw [show (256 : Nat) ^ 4 = 4294967296 from by decide]; omega)
theorem cutN_range (p : Int) : 1 ≤ cutN p ∧ cutN p ≤ 4095 := by
  unfold cutN
  split
  · decide
  · split
    · decide
    · omega
theorem shareN_range (R : Nat) (p : Int) (h : 4096 ≤ R) : 1 ≤ shareN R p ∧ shareN R p < R := by
  have hc := cutN_range p
  unfold shareN
  have h1 : 1 ≤ R / 4096 := by omega
  have h2 : R / 4096 * 4096 ≤ R := Nat.div_mul_le_self _ _
  have h3 : R / 4096 * cutN p ≤ R / 4096 * 4095 := Nat.mul_le_mul_left _ hc.2
  have h4 : R / 4096 * 1 ≤ R / 4096 * cutN p := Nat.mul_le_mul_left _ hc.1
  omega
theorem bitP_pre {e : Enc} (h : e.ok) (p : Int) (b : Bool) : (bitP p b e).pre := by
  obtain ⟨h1, h2, h3, h4⟩ := h
  have hs := shareN_range e.R p (by omega)
  unfold bitP
  cases b
  · exact ⟨h1, by simp; omega, by simp; omega, by simp; omega⟩
  · exact ⟨h1, by simp; omega, by simp; omega, by simp; omega⟩
theorem halfP_pre {e : Enc} (h : e.ok) (b : Bool) : (halfP b e).pre := by
  obtain ⟨h1, h2, h3, h4⟩ := h
  unfold halfP
  cases b
  · exact ⟨h1, by simp; omega, by simp; omega, by simp; omega⟩
  · exact ⟨h1, by simp; omega, by simp; omega, by simp; omega⟩
theorem bitE_ok {e : Enc} (h : e.ok) (p : Int) (b : Bool) : (bitE p b e).ok := grow4_ok (bitP_pre h p b)
theorem halfE_ok {e : Enc} (h : e.ok) (b : Bool) : (halfE b e).ok := grow4_ok (halfP_pre h b)
theorem directE_ok (v : Nat) : ∀ (i : Nat) (e : Enc), e.ok → (directE v i e).ok
  | 0, _, h => h
  | i + 1, e, h => directE_ok v i _ (halfE_ok h _)
/-! ### A state lies within the one ahead of it -/
def Enc.sub (e f : Enc) : Prop := e.L ≤ f.L ∧ e.V * 256 ^ (f.L - e.L) ≤ f.V ∧ f.V + f.R ≤ (e.V + e.R) * 256 ^ (f.L - e.L)
theorem Enc.sub_refl (e : Enc) : e.sub e := ⟨Nat.le_refl _, by simp, by simp⟩
theorem Enc.sub_trans {e f g : Enc} (h : e.sub f) (k : f.sub g) : e.sub g := by
  obtain ⟨h1, h2, h3⟩ := h
  obtain ⟨k1, k2, k3⟩ := k
  have ep : 256 ^ (g.L - e.L) = 256 ^ (f.L - e.L) * 256 ^ (g.L - f.L) := by rw [← Nat.pow_add]; congr 1; omega
  refine ⟨by omega, ?_, ?_⟩
  · rw [ep, ← Nat.mul_assoc]
    exact Nat.le_trans (Nat.mul_le_mul_right _ h2) k2
  · rw [ep, ← Nat.mul_assoc]
    exact Nat.le_trans k3 (Nat.mul_le_mul_right _ h3)
theorem up_sub (e : Enc) : e.sub e.up := by
  refine ⟨by unfold Enc.up; simp, ?_, ?_⟩
  · unfold Enc.up; simp
  · unfold Enc.up; simp; omega
theorem grow_sub : ∀ (k : Nat) (e : Enc), e.sub (growE k e)
  | 0, e => e.sub_refl
  | k + 1, e => by
    unfold growE
    by_cases c : e.R < 16777216
    · rw [if_pos c]; exact Enc.sub_trans (up_sub e) (grow_sub k _)
    · rw [if_neg c]; exact e.sub_refl
theorem bitP_sub {e : Enc} (h : e.ok) (p : Int) (b : Bool) : e.sub (bitP p b e) := by
  obtain ⟨h1, h2, h3, h4⟩ := h
  have hs := shareN_range e.R p (by omega)
  unfold bitP
  cases b
  · exact ⟨by simp, by simp, by simp; omega⟩
  · exact ⟨by simp, by simp, by simp; omega⟩
theorem halfP_sub (e : Enc) (b : Bool) : e.sub (halfP b e) := by
  unfold halfP
  cases b
  · exact ⟨by simp, by simp, by simp; omega⟩
  · exact ⟨by simp, by simp, by simp; omega⟩
theorem bitE_sub {e : Enc} (h : e.ok) (p : Int) (b : Bool) : e.sub (bitE p b e) := Enc.sub_trans (bitP_sub h p b) (grow_sub 4 _)
theorem halfE_sub (e : Enc) (b : Bool) : e.sub (halfE b e) := Enc.sub_trans (halfP_sub e b) (grow_sub 4 _)
theorem directE_sub (v : Nat) : ∀ (i : Nat) (e : Enc), e.sub (directE v i e)
  | 0, e => e.sub_refl
  | i + 1, e => Enc.sub_trans (halfE_sub e _) (directE_sub v i _)
end Go.Proofs.Ytgldblakdhalkaa
/- What the encoder's functions come to: the coder's steps as numbers; of the memory that was there the encoder's own alone turns. Conditions: as each contract states. -/
namespace Go.Proofs.Ytgldblakdhalkaa
set_option linter.unusedVariables false
open Go.RowKit Go.Proofs.YtgldblakdhalkaaW.PrintWords Go.Proofs.YtgldblakdhalkaaW.PrintLast Go.Proofs.YtgldblakdhalkaaW.PrintMore
def encCells (v : Value) (low size : Int) : Array Value := #[v, .int .u64 low, .int .u64 size]
def u8s (l : List Int) : List Value := l.map (Value.int .u8)
/-- An encoder in memory. -/
structure EncAt (w : World) (B g : Nat) (e : Enc) (v : Value) : Prop where
  blk : w.heap[g]? = some (.cells (encCells v ((e.V % 4294967296 : Nat) : Int) (e.R : Int)) 87 (0, 0))
  own : w.ownsRow B 5 1 v e.L (u8s (beI e.L (e.V / 4294967296)))
  far : v.ownBlock ≠ some g
theorem EncAt.of {w : World} {B g : Nat} {e : Enc} {v : Value} (lo D : Nat) (h1 : e.V % 4294967296 = lo) (h2 : e.V / 4294967296 = D) (hb : w.heap[g]? = some (.cells (encCells v (lo : Int) (e.R : Int)) 87 (0, 0)))
    (ho : w.ownsRow B 5 1 v e.L (u8s (beI e.L D))) (hf : v.ownBlock ≠ some g) : EncAt w B g e v := by
  subst h1 h2
  exact ⟨hb, ho, hf⟩
theorem EncAt.mine {S : Nat → Prop} {w w' : World} {B g : Nat} {e : Enc} {v : Value} (h : EncAt w B g e v) (hm : Mine S w w') (h1 : ¬ S g) (h2 : ∀ k, v.ownBlock = some k → ¬ S k) : EncAt w' B g e v :=
  ⟨blk_mine h.blk hm h1, own_mine h.own hm h2, h.far⟩
theorem EncAt.below {w w' : World} {B g : Nat} {e : Enc} {v : Value} (h : EncAt w B g e v) (hb : Below w.heap.size w w') : EncAt w' B g e v :=
  h.mine (Mine.of_below (fun _ => False) hb) (fun h => h) (fun _ _ h => h)
theorem own_form {w : World} {B e n : Nat} {v : Value} {xs : List Value} (h : w.ownsRow B e 1 v n xs) (hn : 0 < n) : ∃ b C, v = .slice (some ⟨b, 0, none⟩) n C ∧ B ≤ b := by
  rcases h.2 with ⟨rfl, rfl⟩ | ⟨g, cap, cur, rfl, hb, _⟩
  · omega
  · exact ⟨_, _, rfl, hb⟩
theorem own_cell {w : World} {B n b C : Nat} {l : List Int} (h : w.ownsRow B 5 1 (.slice (some ⟨b, 0, none⟩) n C) n (u8s l)) (i : Nat) (x : Int) (hx : l[i]? = some x) : w.cell? ⟨b, i, none⟩ = some (.int .u8 x) ∧ w.frozen? ⟨b, i, none⟩ = false := by
  rcases h.2 with ⟨h0, _⟩ | ⟨g', cap', cur, hv, hb, hg, hn, hc, hs2, ht⟩
  · cases h0
  · injection hv with e1 e2 e3
    injection e1 with e1
    injection e1 with e1 _ _
    subst e1 e3
    have hl : l.length = n := by have := h.1; unfold u8s at this; rw [List.length_map] at this; omega
    have hi : i < n := by rw [← hl]; exact (List.getElem?_eq_some_iff.1 hx).1
    refine ⟨?_, blk_frozen hg i⟩
    rw [blk_cell hg i]
    have h2 : (cur.toList.take (n * 1))[i]? = (u8s l)[i]? := by rw [ht]
    rw [List.getElem?_take, if_pos (by omega), Array.getElem?_toList] at h2
    rw [h2]
    unfold u8s
    rw [List.getElem?_map, hx]
    rfl
theorem own_put {w : World} {B n b C : Nat} {l : List Int} (h : w.ownsRow B 5 1 (.slice (some ⟨b, 0, none⟩) n C) n (u8s l)) (i : Nat) (x : Int) (hi : i < n) : (w.setCell ⟨b, i, none⟩ (.int .u8 x)).ownsRow B 5 1 (.slice (some ⟨b, 0, none⟩) n C) n (u8s (l.set i x)) := by
  refine ⟨?_, ?_⟩
  · have := h.1; unfold u8s at *; rw [List.length_map] at *; rw [List.length_set]; exact this
  rcases h.2 with ⟨h0, _⟩ | ⟨g', cap', cur, hv, hb, hg, hn, hc, hs2, ht⟩
  · cases h0
  · injection hv with e1 e2 e3
    injection e1 with e1
    injection e1 with e1 _ _
    subst e1 e3
    refine .inr ⟨b, C, _, rfl, hb, blk_set hg i _, hn, hc, by rw [Array.size_setIfInBounds]; exact hs2, ?_⟩
    rw [Array.toList_setIfInBounds, List.take_set, ht]
    unfold u8s
    rw [List.map_set]
set_option maxHeartbeats 2000000 in
set_option maxRecDepth 100000 in
theorem chance_New.calls (w : World) :
    Calls Try.prog 21 #[] w fun e w' => ∃ g v, e = .returned (.pointer (some ⟨g, 0, none⟩)) ∧ EncAt w' w.heap.size g Enc.new v ∧ w.heap.size ≤ g ∧ Below w.heap.size w w' := by
  have hu2 := Try.underlying87
  go_enter Try.func21, Try.ntmps21
  go_wp2
  go_ret
  refine ⟨w.heap.size + 1, .slice (some ⟨w.heap.size, 0, none⟩) 1 1, rfl, ⟨heap_alloc2_new _ _ _, ⟨rfl, .inr ⟨w.heap.size, 1, _, rfl, Nat.le_refl _, blk_alloc (blk_new _ _) _, Nat.le_refl _, by decide, rfl, rfl⟩⟩, ?_⟩, Nat.le_succ _, by repeat (first | exact Below.refl _ _ | apply below_alloc)⟩
  unfold Value.ownBlock
  simp
theorem p4 : (256 : Nat) ^ 4 = 4294967296 := by decide
theorem and32 (x : Nat) (h : x < 18446744073709551616) : Go.bits .and .u64 (x : Int) 4294967295 = ((x % 4294967296 : Nat) : Int) := by
  rw [show (4294967295 : Int) = ((4294967295 : Nat) : Int) from rfl, u64_and_nat _ _ h (by omega)]
  congr 1
  exact Nat.and_two_pow_sub_one_eq_mod x 32
attribute [local go_sem ↓] Go.wp_at_zero Go.wp_at_succ
set_option maxHeartbeats 4000000 in
set_option maxRecDepth 100000 in
theorem enc_more.calls (e : Enc) (v : Value) (B g n : Nat) (w : World) (hS : Aside0 (EncAt w B g e v)) (hL : Aside0 (1 ≤ e.L ∧ e.L ≤ 1000000000)) (hn : Aside0 (n < 4294967296)) (hV : Aside0 (e.V + n < 256 ^ (e.L + 3))) :
    Calls Try.prog 48 #[.pointer (some ⟨g, 0, none⟩), .int .u64 (n : Int)] w fun r w' => r = .returned (.tuple #[]) ∧ EncAt w' B g ⟨e.V + n, e.L, e.R⟩ v ∧ Mine (fun k => k = g ∨ v.ownBlock = some k) w w' := by
  have hu2 := Try.underlying87
  have BA := Aside0.mk hS.out.blk
  obtain ⟨b, C, rfl, hbB⟩ := own_form hS.out.own hL.out.1
  have hbg : b ≠ g := fun h => hS.out.far (by rw [h]; rfl)
  have HO := Aside0.mk hS.out.own
  have hlo : Aside0 (e.V % 4294967296 < 4294967296) := ⟨Nat.mod_lt _ (by decide)⟩
  generalize hlov : e.V % 4294967296 = lo at BA hlo
  obtain ⟨t, ht⟩ : ∃ t : Nat, lo + n = t := ⟨_, rfl⟩
  have hwr : IntKind.u64.wrap ((lo : Int) + (n : Int)) = (t : Int) := by
    have h1 := hlo.out
    have h2 := hn.out
    rw [IntKind.wrap_u64]
    omega
  have hc1 : w.cell? ⟨g, 1, none⟩ = some (.int .u64 (lo : Int)) := blk_cell BA.out 1
  have hc0 : w.cell? ⟨g, 0, none⟩ = some (.slice (some ⟨b, 0, none⟩) e.L C) := blk_cell BA.out 0
  have hf1 := blk_frozen BA.out 1
  have HM : Aside0 (Mine (fun k => k = g ∨ (Value.slice (some ⟨b, 0, none⟩) e.L C).ownBlock = some k) w w) := ⟨Mine.refl _ _⟩
  by_cases hc : t ≤ 4294967295
  · have hc2 : decide ((t : Int) ≤ 4294967295) = true := decide_eq_true (by omega)
    have BA1 := Aside0.mk (blk_put (cs' := encCells (.slice (some ⟨b, 0, none⟩) e.L C) (t : Int) (e.R : Int)) BA.out 1 (.int .u64 (t : Int)) rfl)
    have HM1 := Aside0.mk (Mine.set (i := 1) HM.out (Or.inl (Or.inl rfl)) (.int .u64 (t : Int)))
    have HO1 : Aside0 ((w.setCell ⟨g, 1, none⟩ (.int .u64 (t : Int))).ownsRow B 5 1 (.slice (some ⟨b, 0, none⟩) e.L C) e.L (u8s (beI e.L (e.V / 4294967296)))) := ⟨own_frame HO.out (fun k hk => Below.heap_setCell _ _ _ _ (fun h => hS.out.far (by rw [hk, h])))⟩
    go_enter Try.func48, Try.ntmps48
    go_wp2
    refine bodyPost_ret (results_none rfl _ _ _) rfl ?_
    have e1 : (e.V + n) % 4294967296 = t := by omega
    have e2 : (e.V + n) / 4294967296 = e.V / 4294967296 := by omega
    exact ⟨rfl, EncAt.of (e := ⟨e.V + n, e.L, e.R⟩) t (e.V / 4294967296) e1 e2 BA1.out HO1.out hS.out.far, HM1.out⟩
  · have hc2 : decide ((t : Int) ≤ 4294967295) = false := decide_eq_false (by omega)
    have hn2 := hn.out
    have hlo2 := hlo.out
    have hand : Go.bits .and .u64 (t : Int) 4294967295 = ((t - 4294967296 : Nat) : Int) := by rw [and32 _ (by omega)]; omega
    obtain ⟨t2, ht2⟩ : ∃ t2, t - 4294967296 = t2 := ⟨_, rfl⟩
    rw [ht2] at hand
    clear hn2 hlo2
    have BA1 := Aside0.mk (blk_put (cs' := encCells (.slice (some ⟨b, 0, none⟩) e.L C) (t2 : Int) (e.R : Int)) (blk_put (cs' := encCells (.slice (some ⟨b, 0, none⟩) e.L C) (t : Int) (e.R : Int)) BA.out 1 (.int .u64 (t : Int)) rfl) 1 (.int .u64 (t2 : Int)) rfl)
    have HM1 := Aside0.mk (Mine.set (i := 1) (Mine.set (i := 1) HM.out (Or.inl (Or.inl rfl)) (.int .u64 (t : Int))) (Or.inl (Or.inl rfl)) (.int .u64 (t2 : Int)))
    have HO1 : Aside0 (((w.setCell ⟨g, 1, none⟩ (.int .u64 (t : Int))).setCell ⟨g, 1, none⟩ (.int .u64 (t2 : Int))).ownsRow B 5 1 (.slice (some ⟨b, 0, none⟩) e.L C) e.L (u8s (beI e.L (e.V / 4294967296)))) := ⟨own_frame (own_frame HO.out (fun k hk => Below.heap_setCell _ _ _ _ (fun h => hS.out.far (by rw [hk, h])))) (fun k hk => Below.heap_setCell _ _ _ _ (fun h => hS.out.far (by rw [hk, h])))⟩
    go_enter Try.func48, Try.ntmps48
    go_wp2_with fail
    generalize (w.setCell ⟨g, 1, none⟩ (.int .u64 (t : Int))).setCell ⟨g, 1, none⟩ (.int .u64 (t2 : Int)) = W at *
    obtain ⟨L, hLL⟩ : ∃ L, e.L = L := ⟨_, rfl⟩
    obtain ⟨D, hD⟩ : ∃ D, e.V / 4294967296 = D := ⟨_, rfl⟩
    have hDt : Aside0 ((e.V + n) / 4294967296 = D + 1 ∧ (e.V + n) % 4294967296 = t2) := ⟨by have := hn.out; have := hlo.out; omega⟩
    have hD1 : Aside0 (D + 1 < 256 ^ L) := ⟨by
      have h := hV.out
      rw [hLL, show L + 3 = (L - 1) + 4 by have := hL.out; omega, Nat.pow_add, p4] at h
      have h2 : 256 ^ (L - 1) * 256 = 256 ^ L := by rw [← Nat.pow_succ, Nat.succ_eq_add_one, Nat.sub_add_cancel (hLL ▸ hL.out.1)]
      have h3 : 1 ≤ 256 ^ (L - 1) := Nat.one_le_pow _ _ (by decide)
      have h4 := hDt.out.1
      omega⟩
    rw [hLL] at BA1 HM1 HO1 hL hc0 ⊢
    rw [hD] at HO1
    have hlw : wrap64 ((L : Int) - 1) = ((L - 1 : Nat) : Int) := by have := hL.out; unfold wrap64; omega
    rw [hlw]
    have hfar : Aside0 ((Value.slice (some ⟨b, 0, none⟩) L C).ownBlock ≠ some g) := ⟨by have := hS.out.far; rw [hLL] at this; exact this⟩
    clear hlw hc0 hc1 hf1 BA HO HM hwr hand hc2
    rw [← parI_zero L D (D + 1)] at HO1
    go_loopg [4] L (fun kq v4 w' => ∃ m : Nat, v4 = .int .i64 ((L - 1 - m : Nat) : Int) ∧ Aside0 (m < L) ∧ Aside0 (kq = L - m) ∧ Aside0 (cy D 1 m = 1) ∧ Aside0 (w'.heap[g]? = some (.cells (encCells (.slice (some ⟨b, 0, none⟩) L C) (t2 : Int) (e.R : Int)) 87 (0, 0))) ∧ Aside0 (w'.ownsRow B 5 1 (.slice (some ⟨b, 0, none⟩) L C) L (u8s (parI L D (D + 1) m))) ∧ Aside0 (Mine (fun k => k = g ∨ (Value.slice (some ⟨b, 0, none⟩) L C).ownBlock = some k) w w'))
    case atStart => exact ⟨0, rfl, ⟨by have := hL.out; omega⟩, ⟨rfl⟩, ⟨cy_zero _ _⟩, BA1, HO1, HM1⟩
    case round =>
      clear BA1 HO1 HM1
      obtain ⟨m, rfl, hm, hk, hcy, BA, HO, HM⟩ := hrel
      cases gk with
      | zero => exact absurd hk.out (by have := hm.out; omega)
      | succ k1 =>
        have hml := hm.out
        have hget : (parI L D (D + 1) m)[L - 1 - m]? = some ((dg D m : Nat) : Int) := by rw [parI_get _ _ _ _ _ (by omega), show L - 1 - (L - 1 - m) = m by omega, if_neg (by omega)]
        obtain ⟨hcell, hfz⟩ := own_cell HO.out (L - 1 - m) _ hget
        have hdl := Aside0.mk (dg_lt D m)
        have hds := Aside0.mk (dg_sum D 1 m)
        have hcs := Aside0.mk (cy_succ D 1 m)
        have hps := Aside0.mk (parI_set L D (D + 1) m hml)
        have hput := Aside0.mk (own_put HO.out (L - 1 - m) ((dg (D + 1) m : Nat) : Int) (by omega))
        have hc0 : wr.cell? ⟨g, 0, none⟩ = some (.slice (some ⟨b, 0, none⟩) L C) := blk_cell BA.out 0
        obtain ⟨j, hj⟩ : ∃ j, L - 1 - m = j := ⟨_, rfl⟩
        rw [hj] at hcell hfz hput hps ⊢
        have hj1 := eq_true (show (j : Int) < (L : Int) by omega)
        have hj0 := eq_true (show (0 : Int) ≤ (j : Int) by omega)
        obtain ⟨d, hd⟩ : ∃ d, dg D m = d := ⟨_, rfl⟩
        rw [hd] at hcell hget hdl hds hcs
        by_cases h255 : d = 255
        · subst h255
          go_wp2_with fail
          have hm1 : m + 1 < L := by
            rcases Nat.lt_or_ge (m + 1) L with h | h
            · exact h
            · exfalso
              have h2 := cy_top D 1 L hD1.out
              rw [show L = m + 1 by omega, hcs.out, hcy.out] at h2
              exact absurd h2 (by decide)
          have hjj : wrap64 ((j : Int) - 1) = ((j - 1 : Nat) : Int) := by have := hL.out; unfold wrap64; omega
          have hz : dg (D + 1) m = 0 := by rw [hds.out, hcy.out]
          rw [hz] at hput hps
          have HO2 := hput.out
          rw [hps.out] at HO2
          have hHO := Aside0.mk HO2
          have hHM := Aside0.mk (Mine.set (g := b) (i := j) HM.out (Or.inl (Or.inr rfl)) (.int .u8 (0 : Int)))
          have hBA := Aside0.mk (blk_far BA.out (p := ⟨b, j, none⟩) (Ne.symm hbg) (.int .u8 (0 : Int)))
          go_roundg k1
          case measure => omega
          case rel => exact ⟨m + 1, by rw [hjj, show L - 1 - (m + 1) = j - 1 by omega], ⟨hm1⟩, ⟨by have := hk.out; omega⟩, ⟨by rw [hcs.out, hcy.out]⟩, hBA, hHO, hHM⟩
        · have hb1 : ((d : Int) == 255) = false := beq_eq_false_iff_ne.2 (by omega)
          go_wp2_with fail
          have hz : dg (D + 1) m = d + 1 := by rw [hds.out, hcy.out]; have := hdl.out; omega
          have hmod : ((d : Int) + 1) % 256 = ((d + 1 : Nat) : Int) := by have := hdl.out; omega
          rw [hmod]
          rw [hz] at hput hps
          have HO2 := hput.out
          rw [hps.out, parI_stop L D (D + 1) (m + 1) (fun i hi _ => cy_none D 1 (m + 1) i (by rw [hcs.out, hcy.out]; have := hdl.out; omega) hi)] at HO2
          refine bodyPost_end (results_none rfl _ _ _) rfl ?_
          rw [hLL]
          exact ⟨rfl, EncAt.of (e := ⟨e.V + n, L, e.R⟩) t2 (D + 1) hDt.out.2 hDt.out.1 (blk_far BA.out (p := ⟨b, j, none⟩) (Ne.symm hbg) _) HO2 hfar.out, Mine.set (g := b) (i := j) HM.out (Or.inl (Or.inr rfl)) _⟩
end Go.Proofs.Ytgldblakdhalkaa
/- What the encoder's growing, its steps and its bytes come to. Conditions: as each contract states. -/
namespace Go.Proofs.Ytgldblakdhalkaa
set_option linter.unusedVariables false
open Go.RowKit Go.Proofs.YtgldblakdhalkaaW.PrintWords Go.Proofs.YtgldblakdhalkaaW.PrintLast Go.Proofs.YtgldblakdhalkaaW.PrintMore Go.Proofs.Ytgldblakdhalkaa.PBase
theorem hi5 : Try.prog.info? 5 = some Try.t5 := by kernel_rfl
theorem EncAt.lowlt {w : World} {B g : Nat} {e : Enc} {v : Value} (h : EncAt w B g e v) : ∃ lo D, e.V % 4294967296 = lo ∧ e.V / 4294967296 = D ∧ lo < 4294967296 ∧ w.heap[g]? = some (.cells (encCells v (lo : Int) (e.R : Int)) 87 (0, 0)) ∧ w.ownsRow B 5 1 v e.L (u8s (beI e.L D)) :=
  ⟨_, _, rfl, rfl, Nat.mod_lt _ (by decide), h.blk, h.own⟩
attribute [local go_sem ↓] Go.wp_at_zero Go.wp_at_succ
set_option maxHeartbeats 4000000 in
set_option maxRecDepth 100000 in
theorem enc_grow.calls (e : Enc) (v : Value) (B g : Nat) (w : World) (hS : Aside0 (EncAt w B g e v)) (hp : Aside0 e.pre) (hL : Aside0 (e.L ≤ 1000000000)) (hB : Aside0 (B ≤ w.heap.size)) :
    Calls Try.prog 49 #[.pointer (some ⟨g, 0, none⟩)] w fun r w' => r = .returned (.tuple #[]) ∧ ∃ v', EncAt w' B g (growE 4 e) v' ∧ Mine (fun k => k = g ∨ v.ownBlock = some k) w w' ∧ (v'.ownBlock = v.ownBlock ∨ ∃ k, v'.ownBlock = some k ∧ w.heap.size ≤ k) := by
  have hu2 := Try.underlying87
  have hR4 : Aside0 (16777216 ≤ e.R * 256 ^ 4) := ⟨by rw [p4]; have := hp.out.2.1; omega⟩
  go_enter Try.func49, Try.ntmps49
  go_wp2_with fail
  go_loopg [] 5 (fun kq w' => ∃ (k : Nat) (f : Enc) (v' : Value), Aside0 (kq = k + 1) ∧ Aside0 (growE k f = growE 4 e) ∧ Aside0 f.pre ∧ Aside0 (f.L + k ≤ e.L + 4) ∧ Aside0 (16777216 ≤ f.R * 256 ^ k) ∧ Aside0 (EncAt w' B g f v') ∧ Aside0 (Mine (fun k => k = g ∨ v.ownBlock = some k) w w') ∧ Aside0 (v'.ownBlock = v.ownBlock ∨ ∃ k, v'.ownBlock = some k ∧ w.heap.size ≤ k))
  case atStart => exact ⟨4, e, v, ⟨rfl⟩, ⟨rfl⟩, hp, ⟨by omega⟩, hR4, hS, ⟨Mine.refl _ _⟩, ⟨Or.inl rfl⟩⟩
  case round =>
    obtain ⟨k, f, v', hk, hgr, hpf, hLf, hRk, hSf, HM, hv⟩ := hrel
    cases gk with
    | zero => exact absurd hk.out (by omega)
    | succ k1 =>
      obtain ⟨lo, D, hlo, hD, hlt, hblk, hown⟩ := hSf.out.lowlt
      obtain ⟨b, C, rfl, hbB⟩ := own_form hown hpf.out.1
      have hbg : b ≠ g := fun h => hSf.out.far (by rw [h]; rfl)
      have BA := Aside0.mk hblk
      have HO := Aside0.mk hown
      clear hblk hown
      have hc2 : wr.cell? ⟨g, 2, none⟩ = some (.int .u64 (f.R : Int)) := blk_cell BA.out 2
      have hf2 := blk_frozen BA.out 2
      obtain ⟨R, hR⟩ : ∃ R, f.R = R := ⟨_, rfl⟩
      rw [hR] at hc2
      by_cases hc : R < 16777216
      · have hcb : decide ((R : Int) < 16777216) = true := decide_eq_true (by omega)
        obtain ⟨R2, hR2⟩ : ∃ R2 : Nat, R * 256 = R2 := ⟨_, rfl⟩
        have hw2 : IntKind.u64.wrap ((R : Int) * 256) = (R2 : Int) := by rw [IntKind.wrap_u64]; omega
        go_wp2_with fail
        have BA1 := Aside0.mk (blk_put (cs' := encCells (.slice (some ⟨b, 0, none⟩) f.L C) (lo : Int) (R2 : Int)) BA.out 2 (.int .u64 (R2 : Int)) rfl)
        have HM1 := Aside0.mk (Mine.set (i := 2) HM.out (Or.inl (Or.inl rfl)) (.int .u64 (R2 : Int)))
        have HO1 : Aside0 ((wr.setCell ⟨g, 2, none⟩ (.int .u64 (R2 : Int))).ownsRow B 5 1 (.slice (some ⟨b, 0, none⟩) f.L C) f.L (u8s (beI f.L D))) := ⟨own_frame HO.out (fun k hk => Below.heap_setCell _ _ _ _ (fun h => hSf.out.far (by rw [hk, h])))⟩
        have hfar := Aside0.mk hSf.out.far
        clear BA HM HO hc2 hf2 hSf hcb hw2
        generalize wr.setCell ⟨g, 2, none⟩ (.int .u64 (R2 : Int)) = W1 at *
        have hc0 : W1.cell? ⟨g, 0, none⟩ = some (.slice (some ⟨b, 0, none⟩) f.L C) := blk_cell BA1.out 0
        have hc1 : W1.cell? ⟨g, 1, none⟩ = some (.int .u64 (lo : Int)) := blk_cell BA1.out 1
        obtain ⟨c, hcc⟩ : ∃ c : Nat, lo / 16777216 = c := ⟨_, rfl⟩
        have hcd : (lo : Int) / 16777216 = (c : Int) := by omega
        have hcw : IntKind.u8.wrap (c : Int) = (c : Int) := by rw [IntKind.wrap_u8]; omega
        have hgl := Aside0.mk (blk_lt BA1.out)
        have hne : W1.heap.size ≠ g := by have := hgl.out; omega
        have hnb : Aside0 (b < W1.heap.size) := ⟨(HO1.out.lt b rfl).2⟩
        have hBW : Aside0 (B ≤ W1.heap.size) := ⟨Nat.le_trans hB.out HM1.out.size⟩
        have hLs : Aside0 (f.L ≤ 1000000004) := ⟨by have := hLf.out; have := hL.out; omega⟩
        have hc0a : (W1.alloc (.cells #[.int .u8 (c : Int)] 5)).cell? ⟨g, 0, none⟩ = some (.slice (some ⟨b, 0, none⟩) f.L C) := blk_cell (blk_alloc BA1.out _) 0
        go_region_law (first | (refine step_one (by rfl) _ _ _ (by rfl) B 5 Try.t5 (.int .u8 0) 1 Try.underlying33 hi5 (by rfl) (by rfl) (by rfl) (by rfl) (.slice (some ⟨b, 0, none⟩) f.L C) f.L (u8s (beI f.L D)) (by rfl) (World.ownsRow.alloc HO1.out _) W1.heap.size (.int .u8 (c : Int)) (by rfl) (blk_new _ _) (by rfl) (by have := hLs.out; unfold maxLen; omega) (by have := hLs.out; omega) (Nat.le_trans hBW.out (by simp)) ?_; intro b2 C2 w2 ho2 hg2 hp2; have BA2 := Aside0.mk (blk_grown (blk_alloc (w := W1.drew) BA1.out _) hg2 (fun e => hbg (by injection e with e; exact e.symm))); have hc02 : w2.cell? ⟨g, 0, none⟩ = some (.slice (some ⟨b, 0, none⟩) f.L C) := blk_cell BA2.out 0; have hf02 := blk_frozen BA2.out 0))
        all_goals
          have hb2 : b2 = b ∨ W1.heap.size ≤ b2 := by
            rcases hp2 with h | h
            · exact Or.inl (by injection h with h; exact h.symm)
            · exact Or.inr (by rw [h]; simp)
          have hb2g : b2 ≠ g := by
            rcases hb2 with h | h
            · rw [h]; exact hbg
            · have := hgl.out; omega
          have BA3 := Aside0.mk (blk_put (cs' := encCells (.slice (some ⟨b2, 0, none⟩) (f.L + 1) C2) (lo : Int) (R2 : Int)) BA2.out 0 (.slice (some ⟨b2, 0, none⟩) (f.L + 1) C2) rfl)
          have hrow : ∀ k, (Value.slice (some ⟨b, 0, none⟩) f.L C).ownBlock = some k → (k = g ∨ v.ownBlock = some k) ∨ w.heap.size ≤ k := fun k hk => by
            rcases hv.out with h | ⟨k', h, h'⟩
            · exact Or.inl (Or.inr (h.symm.trans hk))
            · rw [h] at hk; injection hk with hk; exact Or.inr (hk ▸ h')
          have HM2 := Aside0.mk (Mine.grown (Mine.drew (Mine.alloc HM1.out (.cells #[.int .u8 (c : Int)] 5))) hg2 hrow)
          have HM3 := Aside0.mk (Mine.set (g := g) (i := 0) HM2.out (Or.inl (Or.inl rfl)) (.slice (some ⟨b2, 0, none⟩) (f.L + 1) C2))
          have HO3 : Aside0 ((w2.setCell ⟨g, 0, none⟩ (.slice (some ⟨b2, 0, none⟩) (f.L + 1) C2)).ownsRow B 5 1 (.slice (some ⟨b2, 0, none⟩) (f.L + 1) C2) (f.L + 1) (u8s (beI f.L D) ++ [.int .u8 (c : Int)])) := ⟨own_frame ho2 (fun k hk => Below.heap_setCell _ _ _ _ (fun h => hb2g (by injection hk with hk; exact hk.trans h)))⟩
          have hv3 : Aside0 ((Value.slice (some ⟨b2, 0, none⟩) (f.L + 1) C2).ownBlock = v.ownBlock ∨ ∃ k, (Value.slice (some ⟨b2, 0, none⟩) (f.L + 1) C2).ownBlock = some k ∧ w.heap.size ≤ k) := ⟨by
            rcases hb2 with h | h
            · rw [h]; exact hv.out
            · exact Or.inr ⟨b2, rfl, Nat.le_trans HM1.out.size h⟩⟩
          clear BA1 HM1 HO1 hc0 hc1 hc0a ho2 hg2 hp2 BA2 hc02 hf02 HM2 hrow hcd hcw hne
          generalize w2.setCell ⟨g, 0, none⟩ (.slice (some ⟨b2, 0, none⟩) (f.L + 1) C2) = W3 at *
          have hc13 : W3.cell? ⟨g, 1, none⟩ = some (.int .u64 (lo : Int)) := blk_cell BA3.out 1
          have hf13 := blk_frozen BA3.out 1
          obtain ⟨l1, hl1⟩ : ∃ l1 : Nat, lo * 256 = l1 := ⟨_, rfl⟩
          obtain ⟨l2, hl2⟩ : ∃ l2 : Nat, l1 % 4294967296 = l2 := ⟨_, rfl⟩
          have hw3 : IntKind.u64.wrap ((lo : Int) * 256) = (l1 : Int) := by rw [IntKind.wrap_u64]; omega
          have hand : Go.bits .and .u64 (l1 : Int) 4294967295 = (l2 : Int) := by rw [and32 _ (by omega), hl2]
          go_wp2_with fail
          have BA4 := Aside0.mk (blk_put (cs' := encCells (.slice (some ⟨b2, 0, none⟩) (f.L + 1) C2) (l2 : Int) (R2 : Int)) BA3.out 1 (.int .u64 (l2 : Int)) rfl)
          have HM4 := Aside0.mk (Mine.set (g := g) (i := 1) HM3.out (Or.inl (Or.inl rfl)) (.int .u64 (l2 : Int)))
          have HO4 : Aside0 ((W3.setCell ⟨g, 1, none⟩ (.int .u64 (l2 : Int))).ownsRow B 5 1 (.slice (some ⟨b2, 0, none⟩) (f.L + 1) C2) (f.L + 1) (u8s (beI f.L D) ++ [.int .u8 (c : Int)])) := ⟨own_frame HO3.out (fun k hk => Below.heap_setCell _ _ _ _ (fun h => hb2g (by injection hk with hk; exact hk.trans h)))⟩
          go_roundg k1
          case measure => omega
          case rel =>
            cases k with
            | zero => exact absurd hRk.out (by rw [Nat.pow_zero, hR]; omega)
            | succ k =>
              refine ⟨k, f.up, _, ⟨by have := hk.out; omega⟩, ⟨?_⟩, ⟨up_pre hpf.out (by rw [hR]; exact hc)⟩, ⟨?_⟩, ⟨?_⟩, ⟨?_⟩, HM4, hv3⟩
              · have h := hgr.out
                unfold growE at h
                rw [if_pos (by rw [hR]; exact hc)] at h
                exact h
              · have := hLf.out; unfold Enc.up; simp only; omega
              · have h := hRk.out
                unfold Enc.up
                simp only
                rw [Nat.mul_assoc, Nat.mul_comm 256, ← Nat.pow_succ]
                exact h
              · have e1 : f.up.V % 4294967296 = l2 := by unfold Enc.up; simp only; omega
                have e2 : f.up.V / 4294967296 = D * 256 + c := by unfold Enc.up; simp only; omega
                have e3 : f.up.R = R2 := by unfold Enc.up; simp only; rw [hR]; exact hR2
                refine EncAt.of l2 (D * 256 + c) e1 e2 (by rw [e3]; exact BA4.out) ?_ (fun h => hb2g (by injection h))
                have e4 : u8s (beI f.up.L (D * 256 + c)) = u8s (beI f.L D) ++ [.int .u8 (c : Int)] := by
                  show u8s (beI (f.L + 1) (D * 256 + c)) = _
                  rw [beI_snoc _ _ _ (by omega)]
                  unfold u8s
                  rw [List.map_append]
                  rfl
                rw [e4]
                exact HO4.out
      · have hcb : decide ((R : Int) < 16777216) = false := decide_eq_false (by omega)
        go_wp2_with fail
        refine bodyPost_end (results_none rfl _ _ _) rfl ?_
        have hgf : growE k f = f := by cases k with
          | zero => rfl
          | succ k => unfold growE; rw [if_neg (by omega)]
        rw [← hgr.out, hgf]
        exact ⟨rfl, _, hSf.out, HM.out, hv.out⟩
end Go.Proofs.Ytgldblakdhalkaa
/- What the encoder's Bit, Direct and Bytes come to: the coder's steps as numbers. Conditions: as each contract states. -/
namespace Go.Proofs.Ytgldblakdhalkaa
set_option linter.unusedVariables false
open Go.RowKit Go.Proofs.YtgldblakdhalkaaW.PrintWords Go.Proofs.YtgldblakdhalkaaW.PrintLast Go.Proofs.YtgldblakdhalkaaW.PrintMore Go.Proofs.Ytgldblakdhalkaa.PBase
/-- An object's own step: of what was there its block and its row alone turn; its row stays, or is new. -/
structure Moved (g : Nat) (w : World) (v : Value) (w' : World) (v' : Value) : Prop where
  mine : Mine (fun k => k = g ∨ v.ownBlock = some k) w w'
  own : v'.ownBlock = v.ownBlock ∨ ∃ k, v'.ownBlock = some k ∧ w.heap.size ≤ k
theorem Moved.refl (g : Nat) (w : World) (v : Value) : Moved g w v w v := ⟨Mine.refl _ _, Or.inl rfl⟩
theorem Moved.trans {g : Nat} {w w1 w2 : World} {v v1 v2 : Value} (h : Moved g w v w1 v1) (k : Moved g w1 v1 w2 v2) : Moved g w v w2 v2 := by
  refine ⟨Mine.then_ h.mine k.mine (fun i hi => ?_), ?_⟩
  · rcases hi with hi | hi
    · exact Or.inl (Or.inl hi)
    · rcases h.own with h1 | ⟨k', h1, h2⟩
      · exact Or.inl (Or.inr (h1.symm.trans hi))
      · rw [h1] at hi; injection hi with hi; exact Or.inr (hi ▸ h2)
  · rcases k.own with h1 | ⟨k', h1, h2⟩
    · rcases h.own with h3 | ⟨k', h3, h4⟩
      · exact Or.inl (h1.trans h3)
      · exact Or.inr ⟨k', h1.trans h3, h4⟩
    · exact Or.inr ⟨k', h1, Nat.le_trans h.mine.size h2⟩
theorem Moved.below {g : Nat} {w w1 w2 : World} {v v1 : Value} (h : Moved g w v w1 v1) (k : Below w1.heap.size w1 w2) : Moved g w v w2 v1 := ⟨h.mine.below k, h.own⟩
theorem Moved.set {g i : Nat} {w w1 : World} {v v1 : Value} (h : Moved g w v w1 v1) (u : Value) : Moved g w v (w1.setCell ⟨g, i, none⟩ u) v1 := ⟨h.mine.set (Or.inl (Or.inl rfl)) u, h.own⟩
theorem Moved.to_below {g B : Nat} {w0 w w1 : World} {v v1 : Value} (h : Moved g w v w1 v1) (hb : Below B w0 w) (hB : B ≤ w.heap.size) (hg : B ≤ g) (hv : ∀ k, v.ownBlock = some k → B ≤ k) : Below B w0 w1 :=
  Mine.to_below h.mine hb hB (fun k hk => by rcases hk with rfl | hk; exact hg; exact hv k hk)
theorem EncAt.ge {w : World} {B g : Nat} {e : Enc} {v : Value} (h : EncAt w B g e v) : ∀ k, v.ownBlock = some k → B ≤ k := fun k hk => (h.own.lt k hk).1
theorem EncAt.lt {w : World} {B g : Nat} {e : Enc} {v : Value} (h : EncAt w B g e v) : ∀ k, v.ownBlock = some k → k < w.heap.size := fun k hk => (h.own.lt k hk).2
/-- The range is stored anew. -/
theorem EncAt.size {w : World} {B g : Nat} {e : Enc} {v : Value} (h : EncAt w B g e v) (R : Nat) : EncAt (w.setCell ⟨g, 2, none⟩ (.int .u64 (R : Int))) B g ⟨e.V, e.L, R⟩ v :=
  ⟨blk_put h.blk 2 _ rfl, own_frame h.own (fun k hk => Below.heap_setCell _ _ _ _ (fun e => h.far (by rw [hk, e]))), h.far⟩
theorem cut_val (p : Int) : chance_cut.f p = some (cutN p : Int) := by
  unfold chance_cut.f cutN mx mn
  congr 1
  split <;> split <;> (try split) <;> omega
theorem share_val (R : Nat) (p : Int) (h : R < 4294967296) : chance_share.f (R : Int) p = some (shareN R p : Int) := by
  have hc := cutN_range p
  have hd : Int.tdiv (R : Int) 4096 = ((R / 4096 : Nat) : Int) := by rw [Int.tdiv_eq_ediv_of_nonneg (by omega)]; omega
  have h2 : R / 4096 * cutN p ≤ R / 4096 * 4095 := Nat.mul_le_mul_left _ hc.2
  unfold chance_share.f
  rw [cut_val, Option.bind_some, hd, wrap_u64 ((R / 4096 : Nat) : Int) (by omega) (by omega)]
  have e : ((R / 4096 : Nat) : Int) * (cutN p : Int) = ((R / 4096 * cutN p : Nat) : Int) := by rw [Int.natCast_mul]
  rw [e, wrap_u64 ((R / 4096 * cutN p : Nat) : Int) (by omega) (by omega)]
  rfl
attribute [local go_sem ↓] Go.wp_at_zero Go.wp_at_succ
set_option maxHeartbeats 4000000 in
set_option maxRecDepth 100000 in
theorem enc_Bit.calls (e : Enc) (v : Value) (B g : Nat) (p bit : Int) (bb : Bool) (hbb : (bit != 0) = bb) (w : World) (hS : Aside0 (EncAt w B g e v)) (hok : Aside0 e.ok) (hL : Aside0 (e.L ≤ 1000000000)) (hB : Aside0 (B ≤ w.heap.size)) :
    Calls Try.prog 26 #[.pointer (some ⟨g, 0, none⟩), .int .i64 p, .int .i64 bit] w fun r w' => r = .returned (.tuple #[]) ∧ ∃ v', EncAt w' B g (bitE p bb e) v' ∧ Moved g w v w' v' := by
  have hu2 := Try.underlying87
  obtain ⟨h1, h2, h3, h4⟩ := hok.out
  have hc2 : w.cell? ⟨g, 2, none⟩ = some (.int .u64 (e.R : Int)) := blk_cell hS.out.blk 2
  have hs := shareN_range e.R p (by omega)
  have hV := Aside0.mk (share_val e.R p h3)
  obtain ⟨s, hss⟩ : ∃ s, shareN e.R p = s := ⟨_, rfl⟩
  rw [hss] at hs hV
  go_enter Try.func26, Try.ntmps26
  go_wp2_with fail
  refine (chance_share.calls _ _ _ _ hV.out).mono ?_
  rintro r w1 ⟨rfl, hb⟩
  have HS := Aside0.mk (hS.out.below hb)
  have HM := Aside0.mk ((Moved.refl g w v).below hb)
  clear hb hc2 hV
  cases bb
  · go_wp2_with fail
    refine (enc_more.calls e v B g s w1 HS ⟨⟨h1, hL.out⟩⟩ ⟨by omega⟩ ⟨by omega⟩).mono ?_
    rintro r w2 ⟨rfl, hS2, hm2⟩
    have HS2 := Aside0.mk hS2
    have HM2 := Aside0.mk (HM.out.trans ⟨hm2, Or.inl rfl⟩)
    have hc2 : w2.cell? ⟨g, 2, none⟩ = some (.int .u64 (e.R : Int)) := blk_cell hS2.blk 2
    have hf2 := blk_frozen hS2.blk 2
    clear hS2 hm2 HS HM
    obtain ⟨q, hq⟩ : ∃ q, e.R - s = q := ⟨_, rfl⟩
    have hw : IntKind.u64.wrap ((e.R : Int) - (s : Int)) = (q : Int) := by rw [IntKind.wrap_u64]; omega
    go_wp2_with fail
    have HS3 := Aside0.mk (HS2.out.size q)
    have HM3 := Aside0.mk (HM2.out.set (i := 2) (.int .u64 (q : Int)))
    refine (enc_grow.calls ⟨e.V + s, e.L, q⟩ v B g _ HS3 ⟨by have := bitP_pre hok.out p false; unfold bitP at this; rw [if_neg Bool.false_ne_true, hss, hq] at this; exact this⟩ hL ⟨Nat.le_trans hB.out HM3.out.mine.size⟩).mono ?_
    rintro r w4 ⟨rfl, v2, hS4, hm4, hv4⟩
    go_wp2
    refine bodyPost_end (results_none rfl _ _ _) rfl ?_
    refine ⟨rfl, v2, ?_, HM3.out.trans ⟨hm4, hv4⟩⟩
    unfold bitE bitP
    rw [if_neg Bool.false_ne_true, hss, hq]
    exact hS4
  · have hc2 : w1.cell? ⟨g, 2, none⟩ = some (.int .u64 (e.R : Int)) := blk_cell HS.out.blk 2
    have hf2 := blk_frozen HS.out.blk 2
    go_wp2_with fail
    have HS2 := Aside0.mk (HS.out.size s)
    have HM2 := Aside0.mk (HM.out.set (i := 2) (.int .u64 (s : Int)))
    refine (enc_grow.calls ⟨e.V, e.L, s⟩ v B g _ HS2 ⟨by have := bitP_pre hok.out p true; unfold bitP at this; rw [if_pos rfl, hss] at this; exact this⟩ hL ⟨Nat.le_trans hB.out HM2.out.mine.size⟩).mono ?_
    rintro r w2 ⟨rfl, v2, hS2, hm2, hv2⟩
    go_wp2
    refine bodyPost_end (results_none rfl _ _ _) rfl ?_
    refine ⟨rfl, v2, ?_, HM2.out.trans ⟨hm2, hv2⟩⟩
    unfold bitE bitP
    rw [if_pos rfl, hss]
    exact hS2
theorem grow_L : ∀ (k : Nat) (e : Enc), (growE k e).L ≤ e.L + k
  | 0, e => Nat.le_refl _
  | k + 1, e => by
    unfold growE
    by_cases c : e.R < 16777216
    · rw [if_pos c]
      have := grow_L k e.up
      unfold Enc.up at this ⊢
      simp only at this ⊢
      omega
    · rw [if_neg c]; omega
theorem halfE_L (b : Bool) (e : Enc) : (halfE b e).L ≤ e.L + 4 := by
  have := grow_L 4 (halfP b e)
  have h : (halfP b e).L = e.L := by unfold halfP; cases b <;> rfl
  unfold halfE
  omega
theorem bitE_L (p : Int) (b : Bool) (e : Enc) : (bitE p b e).L ≤ e.L + 4 := by
  have := grow_L 4 (bitP p b e)
  have h : (bitP p b e).L = e.L := by unfold bitP; cases b <;> rfl
  unfold bitE
  omega
theorem and1 (x : Nat) (h : x < 18446744073709551616) : Go.bits .and .u64 (x : Int) 1 = ((x % 2 : Nat) : Int) := by
  rw [show (1 : Int) = ((1 : Nat) : Int) from rfl, u64_and_nat _ _ h (by omega)]
  congr 1
  exact Nat.and_two_pow_sub_one_eq_mod x 1
theorem first_wrap (j : Nat) (h : j ≤ 64) : Value.int .i64 (wrap64 ((j : Int) - 1)) = .int .i64 ((j : Int) - 1) := by
  have : wrap64 ((j : Int) - 1) = (j : Int) - 1 := by unfold wrap64; omega
  rw [this]
/-- How many bits are asked for. -/
def lenN (n : Int) : Nat := (mx 0 (mn n 64)).toNat
theorem lenN_le (n : Int) : lenN n ≤ 64 := by unfold lenN mx mn; split <;> split <;> omega
theorem lenN_val (n : Int) : mx 0 (mn n 64) = (lenN n : Int) := by unfold lenN mx mn; split <;> split <;> omega
attribute [local go_sem] max2_mx min2_mn max_two min_two
set_option maxHeartbeats 4000000 in
set_option maxRecDepth 100000 in
theorem enc_Direct.calls (e : Enc) (v : Value) (B g V : Nat) (n : Int) (w : World) (hV : Aside0 (V < 18446744073709551616)) (hS : Aside0 (EncAt w B g e v)) (hok : Aside0 e.ok) (hL : Aside0 (e.L ≤ 900000000)) (hB : Aside0 (B ≤ w.heap.size)) :
    Calls Try.prog 24 #[.pointer (some ⟨g, 0, none⟩), .int .u64 (V : Int), .int .i64 n] w fun r w' => r = .returned (.tuple #[]) ∧ ∃ v', EncAt w' B g (directE V (lenN n) e) v' ∧ Moved g w v w' v' := by
  have hu2 := Try.underlying87
  have hNv := lenN_val n
  have hN64 := Aside0.mk (lenN_le n)
  obtain ⟨N, hN⟩ : ∃ N, lenN n = N := ⟨_, rfl⟩
  rw [hN] at hNv hN64 ⊢
  have hw0 : wrap64 ((N : Int) - 1) = (N : Int) - 1 := by have := hN64.out; unfold wrap64; omega
  go_enter Try.func24, Try.ntmps24
  go_wp2_with fail
  go_loopg [6] (N + 1) (fun kq v6 w' => ∃ (j : Nat) (f : Enc) (v' : Value), v6 = .int .i64 ((j : Int) - 1) ∧ Aside0 (kq = j + 1) ∧ Aside0 (j ≤ 64) ∧ Aside0 (directE V j f = directE V N e) ∧ Aside0 f.ok ∧ Aside0 (f.L + 4 * j ≤ e.L + 4 * N) ∧ Aside0 (EncAt w' B g f v') ∧ Aside0 (Moved g w v w' v'))
  case atStart => exact ⟨N, e, v, by first | rfl | rw [hw0], ⟨rfl⟩, hN64, ⟨rfl⟩, hok, ⟨Nat.le_refl _⟩, hS, ⟨Moved.refl _ _ _⟩⟩
  case round =>
    clear hw0
    obtain ⟨j, f, v', rfl, hk, hj, hd, hfo, hfL, HS, HM⟩ := hrel
    cases gk with
    | zero => exact absurd hk.out (by omega)
    | succ k1 =>
      cases j with
      | zero =>
        go_wp2_with fail
        refine bodyPost_end (results_none rfl _ _ _) rfl ?_
        refine ⟨rfl, v', ?_, HM.out⟩
        rw [← hd.out]
        exact HS.out
      | succ j =>
        have e1 : ((j + 1 : Nat) : Int) - 1 = (j : Int) := by omega
        rw [e1]
        have hj0 := eq_true (show (0 : Int) ≤ (j : Int) by omega)
        have hc2 : wr.cell? ⟨g, 2, none⟩ = some (.int .u64 (f.R : Int)) := blk_cell HS.out.blk 2
        have hf2 := blk_frozen HS.out.blk 2
        obtain ⟨x, hx⟩ : ∃ x, V / 2 ^ j = x := ⟨_, rfl⟩
        have hxl : x < 18446744073709551616 := by rw [← hx]; exact Nat.lt_of_le_of_lt (Nat.div_le_self _ _) hV.out
        have hsh : (V : Int) / 2 ^ min j 64 = (x : Int) := by
          rw [Nat.min_eq_left (by have := hj.out; omega), ← hx]
          norm_cast
        obtain ⟨h, hh⟩ : ∃ h, f.R / 2 = h := ⟨_, rfl⟩
        have hR := hfo.out.2.2.1
        have hR1 := hfo.out.2.1
        have hh1 : (f.R : Int) / 2 = (h : Int) := by omega
        have hh2 : IntKind.u64.wrap (h : Int) = (h : Int) := wrap_u64 _ (by omega) (by omega)
        have hdj : directE V (j + 1) f = directE V j (halfE (x % 2 == 1) f) := by rw [← hx]; rfl
        have hLj : f.L ≤ 900000256 := by have := hfL.out; have := hL.out; have := hN64.out; omega
        by_cases hd1 : x % 2 = 1
        · have hand : Go.bits .and .u64 (x : Int) 1 = 1 := by rw [and1 x hxl, hd1]; rfl
          have hb : (x % 2 == 1) = true := beq_iff_eq.2 hd1
          go_wp2_with fail
          have HS2 := Aside0.mk (HS.out.size h)
          have HM2 := Aside0.mk (HM.out.set (i := 2) (.int .u64 (h : Int)))
          refine (enc_more.calls ⟨f.V, f.L, h⟩ v' B g h _ HS2 ⟨⟨hfo.out.1, by simp only; omega⟩⟩ ⟨by omega⟩ ⟨by have := hfo.out.2.2.2; simp only; omega⟩).mono ?_
          rintro r w3 ⟨rfl, hS3, hm3⟩
          have HM3 := Aside0.mk (HM2.out.trans ⟨hm3, Or.inl rfl⟩)
          go_wp2_with fail
          refine (enc_grow.calls ⟨f.V + h, f.L, h⟩ v' B g _ ⟨hS3⟩ ⟨by have := halfP_pre hfo.out true; unfold halfP at this; rw [if_pos rfl, hh] at this; exact this⟩ ⟨by simp only; omega⟩ ⟨Nat.le_trans hB.out HM3.out.mine.size⟩).mono ?_
          rintro r w4 ⟨rfl, v2, hS4, hm4, hv4⟩
          have hE : growE 4 ⟨f.V + h, f.L, h⟩ = halfE (x % 2 == 1) f := by rw [hb]; unfold halfE halfP; rw [if_pos rfl, hh]
          rw [hE] at hS4
          go_wp2_with fail
          go_roundg k1
          case measure => have := hk.out; omega
          case rel => exact ⟨j, _, v2, first_wrap j (by have := hj.out; omega), ⟨by have := hk.out; omega⟩, ⟨by have := hj.out; omega⟩, ⟨hdj.symm.trans hd.out⟩, ⟨halfE_ok hfo.out _⟩, ⟨by have := halfE_L (x % 2 == 1) f; have := hfL.out; omega⟩, ⟨hS4⟩, ⟨HM3.out.trans ⟨hm4, hv4⟩⟩⟩
        · have hand : Go.bits .and .u64 (x : Int) 1 = 0 := by rw [and1 x hxl, show x % 2 = 0 by omega]; rfl
          have hb : (x % 2 == 1) = false := beq_eq_false_iff_ne.2 hd1
          go_wp2_with fail
          have HS2 := Aside0.mk (HS.out.size h)
          have HM2 := Aside0.mk (HM.out.set (i := 2) (.int .u64 (h : Int)))
          refine (enc_grow.calls ⟨f.V, f.L, h⟩ v' B g _ HS2 ⟨by have := halfP_pre hfo.out false; unfold halfP at this; rw [if_neg Bool.false_ne_true, hh] at this; exact this⟩ ⟨by simp only; omega⟩ ⟨Nat.le_trans hB.out HM2.out.mine.size⟩).mono ?_
          rintro r w4 ⟨rfl, v2, hS4, hm4, hv4⟩
          have hE : growE 4 ⟨f.V, f.L, h⟩ = halfE (x % 2 == 1) f := by rw [hb]; unfold halfE halfP; rw [if_neg Bool.false_ne_true, hh]
          rw [hE] at hS4
          go_wp2_with fail
          go_roundg k1
          case measure => have := hk.out; omega
          case rel => exact ⟨j, _, v2, first_wrap j (by have := hj.out; omega), ⟨by have := hk.out; omega⟩, ⟨by have := hj.out; omega⟩, ⟨hdj.symm.trans hd.out⟩, ⟨halfE_ok hfo.out _⟩, ⟨by have := halfE_L (x % 2 == 1) f; have := hfL.out; omega⟩, ⟨hS4⟩, ⟨HM2.out.trans ⟨hm4, hv4⟩⟩⟩
end Go.Proofs.Ytgldblakdhalkaa
/- What the encoder's Bytes come to: all bytes of low. Conditions: as the contract states. -/
namespace Go.Proofs.Ytgldblakdhalkaa
set_option linter.unusedVariables false
set_option linter.unusedSimpArgs false
open Go.RowKit Go.Proofs.YtgldblakdhalkaaW.PrintWords Go.Proofs.YtgldblakdhalkaaW.PrintLast Go.Proofs.YtgldblakdhalkaaW.PrintMore Go.Proofs.Ytgldblakdhalkaa.PBase
theorem strOfNums_app (a b : List Int) : strOfNums (a ++ b) = strOfNums a ++ strOfNums b := by
  apply lst_inj
  rw [lst_append, lst_nums, lst_nums, lst_nums]
  unfold nat8
  rw [List.map_append]
theorem four_bytes (V lo c3 c2 c1 c0 : Nat) (h : V % 4294967296 = lo) (h3 : lo / 16777216 = c3) (h2 : lo / 65536 % 256 = c2) (h1 : lo / 256 % 256 = c1) (h0 : lo % 256 = c0) : [(c3 : Int), (c2 : Int), (c1 : Int), (c0 : Int)] = beI 4 V := by
  have e : beI 4 V = [((dg V 3 : Nat) : Int), ((dg V 2 : Nat) : Int), ((dg V 1 : Nat) : Int), ((dg V 0 : Nat) : Int)] := rfl
  have d3 : dg V 3 = c3 := by unfold dg; rw [show (256 : Nat) ^ 3 = 16777216 from by decide]; omega
  have d2 : dg V 2 = c2 := by unfold dg; rw [show (256 : Nat) ^ 2 = 65536 from by decide]; omega
  have d1 : dg V 1 = c1 := by unfold dg; rw [Nat.pow_one]; omega
  have d0 : dg V 0 = c0 := by unfold dg; rw [Nat.pow_zero, Nat.div_one]; omega
  rw [e, d3, d2, d1, d0]
attribute [local go_sem ↓] Go.wp_at_zero Go.wp_at_succ
set_option maxHeartbeats 4000000 in
set_option maxRecDepth 100000 in
theorem enc_Bytes.calls (e : Enc) (v : Value) (B g : Nat) (w : World) (hS : Aside0 (EncAt w B g e v)) (hL1 : Aside0 (1 ≤ e.L ∧ e.L ≤ 1000000000)) :
    Calls Try.prog 28 #[.pointer (some ⟨g, 0, none⟩)] w fun r w' => r = .returned (.string (strOfNums (beI (e.L + 4) e.V))) ∧ Below w.heap.size w w' := by
  have hu2 := Try.underlying87
  obtain ⟨lo, D, hlo, hD, hlt, hblk, hown⟩ := hS.out.lowlt
  obtain ⟨b, C, rfl, hbB⟩ := own_form hown hL1.out.1
  have hc0 : w.cell? ⟨g, 0, none⟩ = some (.slice (some ⟨b, 0, none⟩) e.L C) := blk_cell hblk 0
  have hc1 : w.cell? ⟨g, 1, none⟩ = some (.int .u64 (lo : Int)) := blk_cell hblk 1
  have hne : w.heap.size ≠ g := by have := blk_lt hblk; omega
  obtain ⟨c3, h3⟩ : ∃ c : Nat, lo / 16777216 = c := ⟨_, rfl⟩
  obtain ⟨c2, h2⟩ : ∃ c : Nat, lo / 65536 % 256 = c := ⟨_, rfl⟩
  obtain ⟨c1, h1⟩ : ∃ c : Nat, lo / 256 % 256 = c := ⟨_, rfl⟩
  obtain ⟨c0, h0⟩ : ∃ c : Nat, lo % 256 = c := ⟨_, rfl⟩
  have q3 : IntKind.u8.wrap ((lo : Int) / 16777216) = (c3 : Int) := by rw [IntKind.wrap_u8]; omega
  have q2 : IntKind.u8.wrap ((lo : Int) / 65536) = (c2 : Int) := by rw [IntKind.wrap_u8]; omega
  have q1 : IntKind.u8.wrap ((lo : Int) / 256) = (c1 : Int) := by rw [IntKind.wrap_u8]; omega
  have q0 : IntKind.u8.wrap (lo : Int) = (c0 : Int) := by rw [IntKind.wrap_u8]; omega
  have hcv1 : (convert 33 9 (.slice (some ⟨b, 0, none⟩) e.L C)).run Try.prog w.drew = .ok (.string (strOfNums (beI e.L D))) w.drew := by
    have h := conv_ints (P := Try.prog) w.drew 33 5 9 Try.underlying33 Try.underlying5 Try.underlying9 B (.slice (some ⟨b, 0, none⟩) e.L C) (beI e.L D) (by rw [beI_length]; exact hown)
    exact h
  have hcv2 : (convert 33 9 (.slice (some ⟨b, 0, none⟩) e.L C)).run Try.prog (w.alloc (.cells #[.int .u8 (c3 : Int), .int .u8 (c2 : Int), .int .u8 (c1 : Int), .int .u8 (c0 : Int)] 5)).drew = .ok (.string (strOfNums (beI e.L D))) (w.alloc (.cells #[.int .u8 (c3 : Int), .int .u8 (c2 : Int), .int .u8 (c1 : Int), .int .u8 (c0 : Int)] 5)).drew := by
    have h := conv_ints (P := Try.prog) (w.alloc (.cells #[.int .u8 (c3 : Int), .int .u8 (c2 : Int), .int .u8 (c1 : Int), .int .u8 (c0 : Int)] 5)).drew 33 5 9 Try.underlying33 Try.underlying5 Try.underlying9 B (.slice (some ⟨b, 0, none⟩) e.L C) (beI e.L D) (by rw [beI_length]; exact World.ownsRow.alloc (w := w) hown _)
    exact h
  have hcv3 : (convert 33 9 (.slice (some ⟨w.heap.size, 0, none⟩) 4 4)).run Try.prog (w.alloc (.cells #[.int .u8 (c3 : Int), .int .u8 (c2 : Int), .int .u8 (c1 : Int), .int .u8 (c0 : Int)] 5)).drew = .ok (.string (strOfNums [(c3 : Int), (c2 : Int), (c1 : Int), (c0 : Int)])) (w.alloc (.cells #[.int .u8 (c3 : Int), .int .u8 (c2 : Int), .int .u8 (c1 : Int), .int .u8 (c0 : Int)] 5)).drew := by
    have h := conv_ints (P := Try.prog) (w.alloc (.cells #[.int .u8 (c3 : Int), .int .u8 (c2 : Int), .int .u8 (c1 : Int), .int .u8 (c0 : Int)] 5)).drew 33 5 9 Try.underlying33 Try.underlying5 Try.underlying9 0 (.slice (some ⟨w.heap.size, 0, none⟩) 4 4) [(c3 : Int), (c2 : Int), (c1 : Int), (c0 : Int)] ⟨rfl, .inr ⟨w.heap.size, 4, _, rfl, Nat.zero_le _, blk_new w _, Nat.le_refl _, by decide, rfl, rfl⟩⟩
    exact h
  obtain ⟨S1, hS1⟩ : ∃ S1, strOfNums (beI e.L D) = S1 := ⟨_, rfl⟩
  obtain ⟨S2, hS2⟩ : ∃ S2, strOfNums [(c3 : Int), (c2 : Int), (c1 : Int), (c0 : Int)] = S2 := ⟨_, rfl⟩
  rw [hS1] at hcv1 hcv2
  rw [hS2] at hcv3
  have hs : (9223372036854775807 < S1.size + S2.size) = False := eq_false (by
    rw [← hS1, ← hS2, strOfNums_size, strOfNums_size, beI_length]
    have := hL1.out
    simp only [List.length_cons, List.length_nil]
    omega)
  have HS1 := Aside0.mk hS1
  have HS2 := Aside0.mk hS2
  clear hS1 hS2
  have HO := Aside0.mk hown
  have HBL := Aside0.mk hblk
  clear hown hblk
  go_enter Try.func28, Try.ntmps28
  go_wp2_with fail
  refine wp_region_held_drew (S := fun w' => w'.cell? ⟨g, 0, none⟩ = some (.slice (some ⟨b, 0, none⟩) e.L C) ∧ w'.cell? ⟨g, 1, none⟩ = some (.int .u64 (lo : Int)) ∧ (convert 33 9 (.slice (some ⟨b, 0, none⟩) e.L C)).run Try.prog w' = .ok (.string S1) w') (by kernel_rfl) ⟨hc0, hc1, hcv1⟩ (fun hHeld => ?_)
  refine wpAnyH_take (i := 0) (oi := _) (v := ?_) rfl (by kernel_rfl) (by kernel_rfl) (by kernel_rfl) (fun _ _ _ h => h) (Or.inl ⟨by rfl, ?_⟩) (by assumption) ?_
  rotate_left 1
  · intro w hSw
    (try dsimp only at hSw)
    go_split_ands
    go_simp
    (try with_reducible rfl)
  (try simp only [Act.put, List.setIfInBounds_toArray, List.set_cons_zero, List.set_cons_succ])
  refine wpAnyH_take (i := 1) (oi := _) (v := ?_) rfl (by kernel_rfl) (by kernel_rfl) (by kernel_rfl) (fun _ _ _ h => h) (Or.inl ⟨by rfl, ?_⟩) (by assumption) ?_
  rotate_left 1
  · intro w hSw
    (try dsimp only at hSw)
    go_split_ands
    go_simp
    (try with_reducible rfl)
  (try simp only [Act.put, List.setIfInBounds_toArray, List.set_cons_zero, List.set_cons_succ])
  refine wpAnyH_take (i := 2) (oi := _) (v := ?_) rfl (by kernel_rfl) (by kernel_rfl) (by kernel_rfl) (fun _ _ _ h => h) (Or.inl ⟨by rfl, ?_⟩) (by assumption) ?_
  rotate_left 1
  · intro w hSw
    (try dsimp only at hSw)
    go_split_ands
    go_simp
    (try with_reducible rfl)
  (try simp only [Act.put, List.setIfInBounds_toArray, List.set_cons_zero, List.set_cons_succ])
  refine wpAnyH_take (i := 3) (oi := _) (v := ?_) rfl (by kernel_rfl) (by kernel_rfl) (by kernel_rfl) (fun _ _ _ h => h) (Or.inl ⟨by rfl, ?_⟩) (by assumption) ?_
  rotate_left 1
  · intro w hSw
    (try dsimp only at hSw)
    go_split_ands
    go_simp
    (try with_reducible rfl)
  (try simp only [Act.put, List.setIfInBounds_toArray, List.set_cons_zero, List.set_cons_succ])
  refine wpAnyH_take (i := 4) (oi := _) (v := ?_) rfl (by kernel_rfl) (by kernel_rfl) (by kernel_rfl) (fun _ _ _ h => h) (Or.inl ⟨by rfl, ?_⟩) (by assumption) ?_
  rotate_left 1
  · intro w hSw
    (try dsimp only at hSw)
    go_split_ands
    go_simp
    (try with_reducible rfl)
  (try simp only [Act.put, List.setIfInBounds_toArray, List.set_cons_zero, List.set_cons_succ])
  refine wpAnyH_take (i := 5) (oi := _) (v := ?_) rfl (by kernel_rfl) (by kernel_rfl) (by kernel_rfl) (fun _ _ _ h => h) (Or.inl ⟨by rfl, ?_⟩) (by assumption) ?_
  rotate_left 1
  · intro w hSw
    (try dsimp only at hSw)
    go_split_ands
    go_simp
    (try with_reducible rfl)
  (try simp only [Act.put, List.setIfInBounds_toArray, List.set_cons_zero, List.set_cons_succ])
  refine wpAnyH_take (i := 6) (oi := _) (v := ?_) rfl (by kernel_rfl) (by kernel_rfl) (by kernel_rfl) (fun _ _ _ h => h) (Or.inl ⟨by rfl, ?_⟩) (by assumption) ?_
  rotate_left 1
  · intro w hSw
    (try dsimp only at hSw)
    go_split_ands
    go_simp
    (try with_reducible rfl)
  (try simp only [Act.put, List.setIfInBounds_toArray, List.set_cons_zero, List.set_cons_succ])
  refine wpAnyH_take (i := 7) (oi := _) (v := ?_) rfl (by kernel_rfl) (by kernel_rfl) (by kernel_rfl) (fun _ _ _ h => h) (Or.inl ⟨by rfl, ?_⟩) (by assumption) ?_
  rotate_left 1
  · intro w hSw
    (try dsimp only at hSw)
    go_split_ands
    go_simp
    (try with_reducible rfl)
  (try simp only [Act.put, List.setIfInBounds_toArray, List.set_cons_zero, List.set_cons_succ])
  refine wpAnyH_take (i := 8) (oi := _) (v := ?_) rfl (by kernel_rfl) (by kernel_rfl) (by kernel_rfl) (fun _ _ _ h => h) (Or.inl ⟨by rfl, ?_⟩) (by assumption) ?_
  rotate_left 1
  · intro w hSw
    (try dsimp only at hSw)
    go_split_ands
    go_simp
    (try with_reducible rfl)
  (try simp only [Act.put, List.setIfInBounds_toArray, List.set_cons_zero, List.set_cons_succ])
  refine wpAnyH_take (i := 9) (oi := _) (v := ?_) rfl (by kernel_rfl) (by kernel_rfl) (by kernel_rfl) (fun _ _ _ h => h) (Or.inl ⟨by rfl, ?_⟩) (by assumption) ?_
  rotate_left 1
  · intro w hSw
    (try dsimp only at hSw)
    go_split_ands
    go_simp
    (try with_reducible rfl)
  (try simp only [Act.put, List.setIfInBounds_toArray, List.set_cons_zero, List.set_cons_succ])
  refine wpAnyH_take (i := 10) (oi := _) (v := ?_) rfl (by kernel_rfl) (by kernel_rfl) (by kernel_rfl) (fun _ _ _ h => h) (Or.inl ⟨by rfl, ?_⟩) (by assumption) ?_
  rotate_left 1
  · intro w hSw
    (try dsimp only at hSw)
    go_split_ands
    go_simp
    (try with_reducible rfl)
  (try simp only [Act.put, List.setIfInBounds_toArray, List.set_cons_zero, List.set_cons_succ])
  refine wpAnyH_take (i := 11) (oi := _) (v := ?_) rfl (by kernel_rfl) (by kernel_rfl) (by kernel_rfl) (fun _ _ _ h => h) (Or.inl ⟨by rfl, ?_⟩) (by assumption) ?_
  rotate_left 1
  · intro w hSw
    (try dsimp only at hSw)
    go_split_ands
    go_simp
    (try with_reducible rfl)
  (try simp only [Act.put, List.setIfInBounds_toArray, List.set_cons_zero, List.set_cons_succ])
  refine wpAnyH_take (i := 12) (oi := _) (v := ?_) rfl (by kernel_rfl) (by kernel_rfl) (by kernel_rfl) (fun _ _ _ h => h) (Or.inl ⟨by rfl, ?_⟩) (by assumption) ?_
  rotate_left 1
  · intro w hSw
    (try dsimp only at hSw)
    go_split_ands
    go_simp
    (try with_reducible rfl)
  (try simp only [Act.put, List.setIfInBounds_toArray, List.set_cons_zero, List.set_cons_succ])
  refine wpAnyH_take (i := 13) (oi := _) (v := ?_) rfl (by kernel_rfl) (by kernel_rfl) (by kernel_rfl) (fun _ _ _ h => h) (Or.inl ⟨by rfl, ?_⟩) (by assumption) ?_
  rotate_left 1
  · intro w hSw
    (try dsimp only at hSw)
    go_split_ands
    go_simp
    (try with_reducible rfl)
  (try simp only [Act.put, List.setIfInBounds_toArray, List.set_cons_zero, List.set_cons_succ])
  refine wpAnyH_take (i := 14) (oi := _) (v := ?_) rfl (by kernel_rfl) (by kernel_rfl) (by kernel_rfl) (fun _ _ _ h => h) (Or.inl ⟨by rfl, ?_⟩) (by assumption) ?_
  rotate_left 1
  · intro w hSw
    (try dsimp only at hSw)
    go_split_ands
    go_simp
    (try with_reducible rfl)
  (try simp only [Act.put, List.setIfInBounds_toArray, List.set_cons_zero, List.set_cons_succ])
  refine wpAnyH_take (i := 15) (oi := _) (v := ?_) rfl (by kernel_rfl) (by kernel_rfl) (by kernel_rfl) (fun _ _ _ h => h) (Or.inl ⟨by rfl, ?_⟩) (by assumption) ?_
  rotate_left 1
  · intro w hSw
    (try dsimp only at hSw)
    go_split_ands
    go_simp
    (try with_reducible rfl)
  (try simp only [Act.put, List.setIfInBounds_toArray, List.set_cons_zero, List.set_cons_succ])
  refine wpAnyH_take (i := 16) (oi := _) (v := ?_) rfl (by kernel_rfl) (by kernel_rfl) (by kernel_rfl) (fun _ _ _ h => h) (Or.inl ⟨by rfl, ?_⟩) (by assumption) ?_
  rotate_left 1
  · intro w hSw
    (try dsimp only at hSw)
    go_split_ands
    go_simp
    (try with_reducible rfl)
  (try simp only [Act.put, List.setIfInBounds_toArray, List.set_cons_zero, List.set_cons_succ])
  refine wpAnyH_take (i := 17) (oi := _) (v := ?_) rfl (by kernel_rfl) (by kernel_rfl) (by kernel_rfl) (fun _ _ _ h => h) (Or.inl ⟨by rfl, ?_⟩) (by assumption) ?_
  rotate_left 1
  · intro w hSw
    (try dsimp only at hSw)
    go_split_ands
    go_simp
    (try with_reducible rfl)
  (try simp only [Act.put, List.setIfInBounds_toArray, List.set_cons_zero, List.set_cons_succ])
  refine wpAnyH_take (i := 18) (oi := _) (v := ?_) rfl (by kernel_rfl) (by kernel_rfl) (by kernel_rfl) (fun _ _ _ h => h) (Or.inl ⟨by rfl, ?_⟩) (by assumption) ?_
  rotate_left 1
  · intro w hSw
    (try dsimp only at hSw)
    go_split_ands
    go_simp
    (try with_reducible rfl)
  (try simp only [Act.put, List.setIfInBounds_toArray, List.set_cons_zero, List.set_cons_succ])
  refine wpAnyH_take (i := 19) (oi := _) (v := ?_) rfl (by kernel_rfl) (by kernel_rfl) (by kernel_rfl) (fun _ _ _ h => h) (Or.inl ⟨by rfl, ?_⟩) (by assumption) ?_
  rotate_left 1
  · intro w hSw
    (try dsimp only at hSw)
    go_split_ands
    go_simp
    (try with_reducible rfl)
  (try simp only [Act.put, List.setIfInBounds_toArray, List.set_cons_zero, List.set_cons_succ])
  refine wpAnyH_take (i := 20) (oi := _) (v := ?_) rfl (by kernel_rfl) (by kernel_rfl) (by kernel_rfl) (fun _ _ _ h => h) (Or.inl ⟨by rfl, ?_⟩) (by assumption) ?_
  rotate_left 1
  · intro w hSw
    (try dsimp only at hSw)
    go_split_ands
    go_simp
    (try with_reducible rfl)
  (try simp only [Act.put, List.setIfInBounds_toArray, List.set_cons_zero, List.set_cons_succ])
  refine wpAnyH_take (i := 21) (oi := _) (v := ?_) rfl (by kernel_rfl) (by kernel_rfl) (by kernel_rfl) (fun _ _ _ h => h) (Or.inl ⟨by rfl, ?_⟩) (by assumption) ?_
  rotate_left 1
  · intro w hSw
    (try dsimp only at hSw)
    go_split_ands
    go_simp
    (try with_reducible rfl)
  (try simp only [Act.put, List.setIfInBounds_toArray, List.set_cons_zero, List.set_cons_succ])
  refine wpAnyH_take (i := 22) (oi := _) (v := ?_) rfl (by kernel_rfl) (by kernel_rfl) (by kernel_rfl) (fun _ _ _ h => h) (Or.inl ⟨by rfl, ?_⟩) (by assumption) ?_
  rotate_left 1
  · intro w hSw
    (try dsimp only at hSw)
    go_split_ands
    go_simp
    (try with_reducible rfl)
  (try simp only [Act.put, List.setIfInBounds_toArray, List.set_cons_zero, List.set_cons_succ])
  refine wpAnyH_take (i := 23) (oi := _) (v := ?_) rfl (by kernel_rfl) (by kernel_rfl) (by kernel_rfl) (fun _ _ _ h => h) (Or.inl ⟨by rfl, ?_⟩) (by assumption) ?_
  rotate_left 1
  · intro w hSw
    (try dsimp only at hSw)
    go_split_ands
    go_simp
    (try with_reducible rfl)
  (try simp only [Act.put, List.setIfInBounds_toArray, List.set_cons_zero, List.set_cons_succ])
  refine wpAnyH_take (i := 24) (oi := _) (v := ?_) rfl (by kernel_rfl) (by kernel_rfl) (by kernel_rfl) (fun _ _ _ h => h) (Or.inl ⟨by rfl, ?_⟩) (by assumption) ?_
  rotate_left 1
  · intro w hSw
    (try dsimp only at hSw)
    go_split_ands
    go_simp
    (try with_reducible rfl)
  (try simp only [Act.put, List.setIfInBounds_toArray, List.set_cons_zero, List.set_cons_succ])
  refine wpAnyH_take (i := 25) (oi := _) (v := ?_) rfl (by kernel_rfl) (by kernel_rfl) (by kernel_rfl) (fun _ _ _ h => h) (Or.inl ⟨by rfl, ?_⟩) (by assumption) ?_
  rotate_left 1
  · intro w hSw
    (try dsimp only at hSw)
    go_split_ands
    go_simp
    (try with_reducible rfl)
  (try simp only [Act.put, List.setIfInBounds_toArray, List.set_cons_zero, List.set_cons_succ])
  refine wpAnyH_take (i := 26) (oi := _) (v := ?_) rfl (by kernel_rfl) (by kernel_rfl) (by kernel_rfl) (fun _ _ _ h => h) (Or.inl ⟨by rfl, ?_⟩) (by assumption) ?_
  rotate_left 1
  · intro w hSw
    (try dsimp only at hSw)
    go_split_ands
    go_simp
    (try with_reducible rfl)
  (try simp only [Act.put, List.setIfInBounds_toArray, List.set_cons_zero, List.set_cons_succ])
  refine wpAnyH_take (i := 27) (oi := _) (v := ?_) rfl (by kernel_rfl) (by kernel_rfl) (by kernel_rfl) (fun _ _ _ h => h) (Or.inl ⟨by rfl, ?_⟩) (by assumption) ?_
  rotate_left 1
  · intro w hSw
    (try dsimp only at hSw)
    go_split_ands
    go_simp
    (try with_reducible rfl)
  (try simp only [Act.put, List.setIfInBounds_toArray, List.set_cons_zero, List.set_cons_succ])
  refine wpAnyH_ready (rs := [28]) (by kernel_rfl) (by simp) (AllReadyH.cons (o := _) rfl (fun K hK => ?_) AllReadyH.nil)
  go_simp
  refine hK.out _ _ ?_ (fun hHeld => ?_)
  · exact ⟨blk_cell (blk_alloc HBL.out _) 0, blk_cell (blk_alloc HBL.out _) 1, hcv2⟩
  clear hK K
  (try simp only [Act.put, List.setIfInBounds_toArray, List.set_cons_zero, List.set_cons_succ])
  refine wpAnyH_ready (rs := [29]) (by kernel_rfl) (by simp) (AllReadyH.cons (o := _) rfl (fun K hK => ?_) AllReadyH.nil)
  go_simp
  refine hK.out _ _ ?_ (fun hHeld => ?_)
  · exact ⟨blk_cell (blk_alloc HBL.out _) 0, blk_cell (blk_alloc HBL.out _) 1, hcv2⟩
  clear hK K
  (try simp only [Act.put, List.setIfInBounds_toArray, List.set_cons_zero, List.set_cons_succ])
  refine wpAnyH_ready (rs := [30]) (by kernel_rfl) (by simp) (AllReadyH.cons (o := _) rfl (fun K hK => ?_) AllReadyH.nil)
  go_simp
  refine hK.out _ _ ?_ (fun hHeld => ?_)
  · exact ⟨blk_cell (blk_alloc HBL.out _) 0, blk_cell (blk_alloc HBL.out _) 1, hcv2⟩
  clear hK K
  (try simp only [Act.put, List.setIfInBounds_toArray, List.set_cons_zero, List.set_cons_succ])
  refine wpAnyH_ready (rs := [31]) (by kernel_rfl) (by simp) (AllReadyH.cons (o := _) rfl (fun K hK => ?_) AllReadyH.nil)
  go_simp
  refine hK.out _ _ ?_ (fun hHeld => ?_)
  · exact ⟨blk_cell (blk_alloc HBL.out _) 0, blk_cell (blk_alloc HBL.out _) 1, hcv2⟩
  clear hK K
  (try simp only [Act.put, List.setIfInBounds_toArray, List.set_cons_zero, List.set_cons_succ])
  refine wpAnyH_done (by kernel_rfl) ?_ _
  all_goals go_wp2
  all_goals (go_ret; refine ⟨?_, (((Below.refl _ _).alloc (Nat.le_refl _) _).drew)⟩)
  all_goals
    have e1 : S1 ++ S2 = strOfNums (beI (e.L + 4) e.V) := by
      rw [← HS1.out, ← HS2.out, beI_app, p4, hD, ← strOfNums_app]
      congr 2
      exact four_bytes e.V lo c3 c2 c1 c0 hlo h3 h2 h1 h0
    rw [e1]
    rfl
end Go.Proofs.Ytgldblakdhalkaa
/- What the reference's coder comes to (New, add): the coder's steps as numbers. Conditions: as each contract states. -/
namespace Go.Proofs.Ytgldblakdhalkaa
set_option linter.unusedVariables false
open Go.RowKit Go.Proofs.YtgldblakdhalkaaW.PrintWords Go.Proofs.YtgldblakdhalkaaW.PrintLast Go.Proofs.YtgldblakdhalkaaW.PrintMore Go.Proofs.Ytgldblakdhalkaa.PBase
def codCells (v : Value) (size : Int) : Array Value := #[v, .int .u64 size]
/-- The reference's coder in memory. -/
structure CodAt (w : World) (B g : Nat) (e : Enc) (v : Value) : Prop where
  blk : w.heap[g]? = some (.cells (codCells v (e.R : Int)) 89 (0, 0))
  own : w.ownsRow B 5 1 v (e.L + 4) (u8s (beI (e.L + 4) e.V))
  far : v.ownBlock ≠ some g
theorem CodAt.mine {S : Nat → Prop} {w w' : World} {B g : Nat} {e : Enc} {v : Value} (h : CodAt w B g e v) (hm : Mine S w w') (h1 : ¬ S g) (h2 : ∀ k, v.ownBlock = some k → ¬ S k) : CodAt w' B g e v :=
  ⟨blk_mine h.blk hm h1, own_mine h.own hm h2, h.far⟩
theorem CodAt.below {w w' : World} {B g : Nat} {e : Enc} {v : Value} (h : CodAt w B g e v) (hb : Below w.heap.size w w') : CodAt w' B g e v :=
  h.mine (Mine.of_below (fun _ => False) hb) (fun h => h) (fun _ _ h => h)
theorem CodAt.size {w : World} {B g : Nat} {e : Enc} {v : Value} (h : CodAt w B g e v) (R : Nat) : CodAt (w.setCell ⟨g, 1, none⟩ (.int .u64 (R : Int))) B g ⟨e.V, e.L, R⟩ v :=
  ⟨blk_put h.blk 1 _ rfl, own_frame h.own (fun k hk => Below.heap_setCell _ _ _ _ (fun e => h.far (by rw [hk, e]))), h.far⟩
theorem CodAt.ge {w : World} {B g : Nat} {e : Enc} {v : Value} (h : CodAt w B g e v) : ∀ k, v.ownBlock = some k → B ≤ k := fun k hk => (h.own.lt k hk).1
theorem add_first (L : Nat) (h : L ≤ 1000000004) : Value.int .i64 (wrap64 ((L : Int) - 1)) = .int .i64 ((L : Int) - 1 - ((0 : Nat) : Int)) := by
  have : wrap64 ((L : Int) - 1) = (L : Int) - 1 - ((0 : Nat) : Int) := by unfold wrap64; omega
  rw [this]
theorem zeros5 : beI 5 0 = [0, 0, 0, 0, 0] := by decide +kernel
set_option maxHeartbeats 2000000 in
set_option maxRecDepth 100000 in
theorem ref_New.calls (w : World) :
    Calls Try.prog 23 #[] w fun e w' => ∃ g v, e = .returned (.pointer (some ⟨g, 0, none⟩)) ∧ CodAt w' w.heap.size g Enc.new v ∧ w.heap.size ≤ g ∧ Below w.heap.size w w' := by
  have hu2 := Try.underlying89
  go_enter Try.func23, Try.ntmps23
  have hmk : (Instr.makeSlice 33 (.int .i64 5) (.int .i64 5)).run Try.prog w = .ok (.slice (some ⟨w.heap.size, 0, none⟩) 5 5) (w.alloc (.cells #[.int .u8 0, .int .u8 0, .int .u8 0, .int .u8 0, .int .u8 0] 5)) := by
    have h := run_make_row (P := Try.prog) 33 5 Try.t5 (.int .u8 0) Try.underlying33 hi5 rfl rfl rfl .i64 .i64 5 (by decide) (by decide) w
    rw [show madeCells #[Value.int .u8 0] 5 = #[.int .u8 0, .int .u8 0, .int .u8 0, .int .u8 0, .int .u8 0] from by kernel_rfl] at h
    exact h
  go_wp2
  go_ret
  refine ⟨w.heap.size + 1, .slice (some ⟨w.heap.size, 0, none⟩) 5 5, rfl, ⟨heap_alloc2_new _ _ _, ⟨rfl, .inr ⟨w.heap.size, 5, _, rfl, Nat.le_refl _, blk_alloc (blk_new _ _) _, Nat.le_refl _, by decide, rfl, ?_⟩⟩, ?_⟩, Nat.le_succ _, by repeat (first | exact Below.refl _ _ | apply below_alloc)⟩
  · show _ = u8s (beI 5 0)
    rw [zeros5]
    rfl
  · unfold Value.ownBlock
    simp
attribute [local go_sem ↓] Go.wp_at_zero Go.wp_at_succ
set_option maxHeartbeats 4000000 in
set_option maxRecDepth 100000 in
theorem ref_add.calls (e : Enc) (v : Value) (B g n : Nat) (w : World) (hS : Aside0 (CodAt w B g e v)) (hL : Aside0 (1 ≤ e.L ∧ e.L ≤ 1000000000)) (hn : Aside0 (n < 4294967296)) (hV : Aside0 (e.V + n < 256 ^ (e.L + 3))) :
    Calls Try.prog 50 #[.pointer (some ⟨g, 0, none⟩), .int .u64 (n : Int)] w fun r w' => r = .returned (.tuple #[]) ∧ CodAt w' B g ⟨e.V + n, e.L, e.R⟩ v ∧ Mine (fun k => k = g ∨ v.ownBlock = some k) w w' := by
  have hu2 := Try.underlying89
  obtain ⟨b, C, rfl, hbB⟩ := own_form hS.out.own (by omega)
  have hbg : b ≠ g := fun h => hS.out.far (by rw [h]; rfl)
  obtain ⟨L, hL4⟩ : ∃ L, e.L + 4 = L := ⟨_, rfl⟩
  have BA := Aside0.mk hS.out.blk
  have HO := Aside0.mk hS.out.own
  have hfar := Aside0.mk hS.out.far
  have hD1 : Aside0 (e.V + n < 256 ^ L) := ⟨Nat.lt_of_lt_of_le hV.out (Nat.pow_le_pow_right (by decide) (by omega))⟩
  rw [hL4] at BA HO hfar
  have hLs : Aside0 (5 ≤ L ∧ L ≤ 1000000004) := ⟨by have := hL.out; omega⟩
  have hc0 : w.cell? ⟨g, 0, none⟩ = some (.slice (some ⟨b, 0, none⟩) L C) := blk_cell BA.out 0
  have HM : Aside0 (Mine (fun k => k = g ∨ (Value.slice (some ⟨b, 0, none⟩) (e.L + 4) C).ownBlock = some k) w w) := ⟨Mine.refl _ _⟩
  rw [← parI_zero L e.V (e.V + n)] at HO
  go_enter Try.func50, Try.ntmps50
  go_wp2_with fail
  go_loopg [1, 4] (L + 1) (fun kq v1 v4 w' => ∃ m : Nat, v1 = .int .u64 ((cy e.V n m : Nat) : Int) ∧ v4 = .int .i64 ((L : Int) - 1 - (m : Int)) ∧ Aside0 (m ≤ L) ∧ Aside0 (kq = L - m + 1) ∧ Aside0 (w'.heap[g]? = some (.cells (codCells (.slice (some ⟨b, 0, none⟩) L C) (e.R : Int)) 89 (0, 0))) ∧ Aside0 (w'.ownsRow B 5 1 (.slice (some ⟨b, 0, none⟩) L C) L (u8s (parI L e.V (e.V + n) m))) ∧ Aside0 (Mine (fun k => k = g ∨ (Value.slice (some ⟨b, 0, none⟩) (e.L + 4) C).ownBlock = some k) w w'))
  case atStart => exact ⟨0, by rw [cy_zero], by rw [add_first L (by have := hLs.out; omega)], ⟨Nat.zero_le _⟩, ⟨rfl⟩, BA, HO, HM⟩
  case round =>
    clear BA HO HM hc0
    obtain ⟨m, rfl, rfl, hm, hk, BA, HO, HM⟩ := hrel
    cases gk with
    | zero => exact absurd hk.out (by omega)
    | succ k1 =>
      have hml := hm.out
      have hLs2 := hLs.out
      by_cases hstop : m < L ∧ 0 < cy e.V n m
      · obtain ⟨hmL, hcy0⟩ := hstop
        have hget : (parI L e.V (e.V + n) m)[L - 1 - m]? = some ((dg e.V m : Nat) : Int) := by rw [parI_get _ _ _ _ _ (by omega), show L - 1 - (L - 1 - m) = m by omega, if_neg (by omega)]
        obtain ⟨hcell, hfz⟩ := own_cell HO.out (L - 1 - m) _ hget
        have hdl := dg_lt e.V m
        have hds := Aside0.mk (dg_sum e.V n m)
        have hcs := Aside0.mk (cy_succ e.V n m)
        have hps := Aside0.mk (parI_set L e.V (e.V + n) m hmL)
        have hcl := cy_lt e.V n m hn.out
        have hput := Aside0.mk (own_put HO.out (L - 1 - m) ((dg (e.V + n) m : Nat) : Int) (by omega))
        have hc0 : wr.cell? ⟨g, 0, none⟩ = some (.slice (some ⟨b, 0, none⟩) L C) := blk_cell BA.out 0
        obtain ⟨j, hj⟩ : ∃ j, L - 1 - m = j := ⟨_, rfl⟩
        rw [hj] at hcell hfz hput hps
        have e1 : (L : Int) - 1 - (m : Int) = (j : Int) := by omega
        have e2 : (L : Int) - 1 - ((m + 1 : Nat) : Int) = (j : Int) - 1 := by omega
        rw [e1]
        obtain ⟨d, hd⟩ : ∃ d, dg e.V m = d := ⟨_, rfl⟩
        obtain ⟨c, hc⟩ : ∃ c, cy e.V n m = c := ⟨_, rfl⟩
        rw [hd] at hcell hdl hds hcs
        rw [hc] at hds hcs hcl hcy0 ⊢
        obtain ⟨x, hx⟩ : ∃ x, c + d = x := ⟨_, rfl⟩
        rw [hx] at hds hcs
        have hj1 := eq_true (show (j : Int) < (L : Int) by omega)
        have hj0 := eq_true (show (0 : Int) ≤ (j : Int) by omega)
        have hg0 : decide ((c : Int) > 0) = true := decide_eq_true (by omega)
        have hg1 : decide (0 < (c : Int)) = true := decide_eq_true (by omega)
        have hwd : IntKind.u64.wrap (d : Int) = (d : Int) := wrap_u64 _ (by omega) (by omega)
        have hwx : IntKind.u64.wrap ((c : Int) + (d : Int)) = (x : Int) := by rw [IntKind.wrap_u64]; omega
        have hw8 : IntKind.u8.wrap (x : Int) = ((dg (e.V + n) m : Nat) : Int) := by rw [hds.out, IntKind.wrap_u8]; omega
        go_wp2_with fail
        have HO2 := hput.out
        rw [hps.out] at HO2
        have hHO := Aside0.mk HO2
        have hHM := Aside0.mk (Mine.set (g := b) (i := j) HM.out (Or.inl (Or.inr rfl)) (.int .u8 ((dg (e.V + n) m : Nat) : Int)))
        have hBA := Aside0.mk (blk_far BA.out (p := ⟨b, j, none⟩) (Ne.symm hbg) (.int .u8 ((dg (e.V + n) m : Nat) : Int)))
        go_roundg k1
        case measure => omega
        case rel =>
          refine ⟨m + 1, ?_, ?_, ⟨hmL⟩, ⟨by have := hk.out; omega⟩, hBA, hHO, hHM⟩
          · rw [hcs.out]; norm_cast
          · rw [e2]
      · have hlast : parI L e.V (e.V + n) m = beI L (e.V + n) := parI_stop L e.V (e.V + n) m (fun j hj hjL => by
          by_cases h : m < L
          · exact cy_none e.V n m j (by omega) hj
          · omega)
        have HO2 := HO.out
        rw [hlast] at HO2
        have hdone : CodAt wr B g ⟨e.V + n, e.L, e.R⟩ (.slice (some ⟨b, 0, none⟩) (e.L + 4) C) := ⟨by rw [hL4]; exact BA.out, by simp only [hL4]; exact HO2, by rw [hL4]; exact hfar.out⟩
        have hdm := HM.out
        by_cases hmL : m < L
        · have hz : cy e.V n m = 0 := by omega
          rw [hz]
          obtain ⟨j, hj⟩ : ∃ j, L - 1 - m = j := ⟨_, rfl⟩
          have e1 : (L : Int) - 1 - (m : Int) = (j : Int) := by omega
          rw [e1]
          go_wp2_with fail
          refine bodyPost_end (results_none rfl _ _ _) rfl ?_
          exact ⟨rfl, hdone, hdm⟩
        · have e1 : (L : Int) - 1 - (m : Int) = -1 := by omega
          rw [e1]
          go_wp2_with fail
          refine bodyPost_end (results_none rfl _ _ _) rfl ?_
          exact ⟨rfl, hdone, hdm⟩
end Go.Proofs.Ytgldblakdhalkaa
/- What the reference coder's growing comes to. Conditions: as the contract states. -/
namespace Go.Proofs.Ytgldblakdhalkaa
set_option linter.unusedVariables false
open Go.RowKit Go.Proofs.YtgldblakdhalkaaW.PrintWords Go.Proofs.YtgldblakdhalkaaW.PrintLast Go.Proofs.YtgldblakdhalkaaW.PrintMore Go.Proofs.Ytgldblakdhalkaa.PBase
/-- The same in a plain region. -/
theorem list_one {P : Program} {w : World} {ops : Array Oper} {rest : List Oper} {o : Oper} {a : Act} {Q : Exit → Act → World → Prop} (hgd : o.guard = none) (x y : Operand) (t : TypeId)
    (ho : o.op = .call { callee := .builtin .append, args := #[x, y], argTypes := #[t, t] }) (base : Nat) (e : TypeId) (i : TypeInfo) (z : Value) (bytes : Nat) (ht : P.underlying t = some (.slice e)) (hi : P.info? e = some i) (hz : i.zero = some z)
    (hsize : i.size = 1) (hby : i.bytes = bytes) (hzs : z.cells.size = 1) (v : Value) (n : Nat) (xs : List Value) (hx : a.eval x = v) (hown : w.ownsRow base e 1 v n xs) (g : Nat) (c : Value) (hy : a.eval y = .slice (some ⟨g, 0, none⟩) 1 1)
    (hnew : w.heap[g]? = some (.cells #[c] e (0, 0))) (hc1 : c.oneCell' = true) (h63 : n + 1 ≤ maxLen) (hbytes : (n + 1) * bytes ≤ 140737488355328) (hbase : base ≤ w.heap.size)
    (h : ∀ b cap w', w'.ownsRow base e 1 (.slice (some ⟨b, 0, none⟩) (n + 1) cap) (n + 1) (xs ++ [c]) → w.grownBy w' v.ownBlock → (v.ownBlock = some b ∨ b = w.heap.size) → wpList P ops Q rest (a.put o.dst (.slice (some ⟨b, 0, none⟩) (n + 1) cap)) w') :
    wpList P ops Q (o :: rest) a w :=
  wpList_append_lies w hgd x y t ho base e i z 1 bytes ht hi hz hsize hby hzs (by decide) v n xs hx hown ⟨g, 0, none⟩ 1 1 [c] hy rfl (World.news_of_block hnew) (fun u hu => by rw [List.mem_singleton] at hu; rw [hu]; exact hc1) (by decide) h63 hbytes hbase _ rfl
    (fun b cap w' h1 h2 h3 _ => h b cap w' h1 h2 h3)
theorem own_eq {b n C k : Nat} (h : (Value.slice (some ⟨b, 0, none⟩) n C).ownBlock = some k) : b = k := by simpa [Value.ownBlock] using h
theorem Below_alloc_size (w : World) (o : Obj) : (w.alloc o).heap.size = w.heap.size + 1 := by simp
attribute [local go_sem ↓] Go.wp_at_zero Go.wp_at_succ
set_option maxHeartbeats 4000000 in
set_option maxRecDepth 100000 in
theorem ref_grow.calls (e : Enc) (v : Value) (B g : Nat) (w : World) (hS : Aside0 (CodAt w B g e v)) (hp : Aside0 e.pre) (hL : Aside0 (e.L ≤ 1000000000)) (hB : Aside0 (B ≤ w.heap.size)) :
    Calls Try.prog 51 #[.pointer (some ⟨g, 0, none⟩)] w fun r w' => r = .returned (.tuple #[]) ∧ ∃ v', CodAt w' B g (growE 4 e) v' ∧ Moved g w v w' v' := by
  have hu2 := Try.underlying89
  have hR4 : Aside0 (16777216 ≤ e.R * 256 ^ 4) := ⟨by rw [p4]; have := hp.out.2.1; omega⟩
  go_enter Try.func51, Try.ntmps51
  go_wp2_with fail
  go_loopg [] 5 (fun kq w' => ∃ (k : Nat) (f : Enc) (v' : Value), Aside0 (kq = k + 1) ∧ Aside0 (growE k f = growE 4 e) ∧ Aside0 f.pre ∧ Aside0 (f.L + k ≤ e.L + 4) ∧ Aside0 (16777216 ≤ f.R * 256 ^ k) ∧ Aside0 (CodAt w' B g f v') ∧ Aside0 (Moved g w v w' v'))
  case atStart => exact ⟨4, e, v, ⟨rfl⟩, ⟨rfl⟩, hp, ⟨by omega⟩, hR4, hS, ⟨Moved.refl _ _ _⟩⟩
  case round =>
    obtain ⟨k, f, v', hk, hgr, hpf, hLf, hRk, hSf, HM⟩ := hrel
    cases gk with
    | zero => exact absurd hk.out (by omega)
    | succ k1 =>
      have BA := Aside0.mk hSf.out.blk
      have HO := Aside0.mk hSf.out.own
      obtain ⟨b, C, rfl, hbB⟩ := own_form HO.out (by omega)
      have hbg : b ≠ g := fun h => hSf.out.far (by rw [h]; rfl)
      have hc2 : wr.cell? ⟨g, 1, none⟩ = some (.int .u64 (f.R : Int)) := blk_cell BA.out 1
      have hf2 := blk_frozen BA.out 1
      obtain ⟨R, hR⟩ : ∃ R, f.R = R := ⟨_, rfl⟩
      rw [hR] at hc2
      by_cases hc : R < 16777216
      · have hcb : decide ((R : Int) < 16777216) = true := decide_eq_true (by omega)
        obtain ⟨R2, hR2⟩ : ∃ R2 : Nat, R * 256 = R2 := ⟨_, rfl⟩
        have hw2 : IntKind.u64.wrap ((R : Int) * 256) = (R2 : Int) := by rw [IntKind.wrap_u64]; omega
        have hS1 := Aside0.mk (hSf.out.size R2)
        have HM1 := Aside0.mk (HM.out.set (i := 1) (.int .u64 (R2 : Int)))
        have hc0 : wr.cell? ⟨g, 0, none⟩ = some (.slice (some ⟨b, 0, none⟩) (f.L + 4) C) := blk_cell BA.out 0
        have hfar := Aside0.mk hS1.out.far
        have BA1 : Aside0 ((wr.setCell ⟨g, 1, none⟩ (.int .u64 (R2 : Int))).heap[g]? = some (.cells (codCells (.slice (some ⟨b, 0, none⟩) (f.L + 4) C) (R2 : Int)) 89 (0, 0))) := ⟨hS1.out.blk⟩
        have HO1 : Aside0 ((wr.setCell ⟨g, 1, none⟩ (.int .u64 (R2 : Int))).ownsRow B 5 1 (.slice (some ⟨b, 0, none⟩) (f.L + 4) C) (f.L + 4) (u8s (beI (f.L + 4) f.V))) := ⟨hS1.out.own⟩
        have hszw : Aside0 ((wr.setCell ⟨g, 1, none⟩ (.int .u64 (R2 : Int))).heap.size = wr.heap.size) := ⟨by simp [World.setCell]⟩
        have hBW : Aside0 (B ≤ (wr.setCell ⟨g, 1, none⟩ (.int .u64 (R2 : Int))).heap.size) := ⟨Nat.le_trans hB.out HM1.out.mine.size⟩
        have hLs : Aside0 (f.L + 4 ≤ 1000000008) := ⟨by have := hLf.out; have := hL.out; omega⟩
        have hb0 : Aside0 (f.L + 4 + 1 ≤ maxLen) := ⟨by have := hLs.out; unfold maxLen; omega⟩
        have hb1 : Aside0 ((f.L + 4 + 1) * 1 ≤ 140737488355328) := ⟨by have := hLs.out; omega⟩
        have hgl : Aside0 (g < wr.heap.size) := ⟨by rw [← hszw.out]; exact blk_lt BA1.out⟩
        clear hSf BA HO hS1
        go_wp2_with (first | (at_builtin; generalize wr.setCell ⟨g, 1, none⟩ (.int .u64 (R2 : Int)) = W1 at *; refine list_one (by rfl) _ _ _ (by rfl) B 5 Try.t5 (.int .u8 0) 1 Try.underlying33 hi5 (by rfl) (by rfl) (by rfl) (by rfl) (.slice (some ⟨b, 0, none⟩) (f.L + 4) C) (f.L + 4) (u8s (beI (f.L + 4) f.V)) (by rfl) (World.ownsRow.alloc HO1.out _) wr.heap.size (.int .u8 0) (by rfl) (by rw [← hszw.out]; exact blk_new _ _) (by rfl) hb0.out hb1.out (by rw [Below_alloc_size]; exact Nat.le_succ_of_le hBW.out) ?_; intro b2 C2 w2 ho2 hg2 hp2; have hrow : some g ≠ (Value.slice (some ⟨b, 0, none⟩) (f.L + 4) C).ownBlock := Ne.symm hfar.out; have BA2 : Aside0 (w2.heap[g]? = some (.cells (codCells (.slice (some ⟨b, 0, none⟩) (f.L + 4) C) (R2 : Int)) 89 (0, 0))) := ⟨blk_grown (blk_alloc BA1.out (.cells #[.int .u8 0] 5)) hg2 hrow⟩; have hc02 : w2.cell? ⟨g, 0, none⟩ = some (.slice (some ⟨b, 0, none⟩) (f.L + 4) C) := blk_cell BA2.out 0; have hf02 := blk_frozen BA2.out 0))
        have hW1 : W1.heap.size = wr.heap.size := hszw.out
        have hb2 : b2 = b ∨ W1.heap.size ≤ b2 := by
          rcases hp2 with h | h
          · exact Or.inl (own_eq h).symm
          · exact Or.inr (by rw [h, Below_alloc_size]; omega)
        have hb2g : b2 ≠ g := by
          rcases hb2 with h | h
          · rw [h]; exact hbg
          · have := hgl.out; omega
        have hm2 : Moved g W1 (.slice (some ⟨b, 0, none⟩) (f.L + 4) C) w2 (.slice (some ⟨b2, 0, none⟩) (f.L + 4 + 1) C2) := ⟨Mine.grown (Mine.alloc (Mine.refl _ _) (.cells #[.int .u8 0] 5)) hg2 (fun k hk => Or.inl (Or.inr hk)), by
          rcases hb2 with h | h
          · rw [h]; exact Or.inl rfl
          · exact Or.inr ⟨b2, rfl, h⟩⟩
        have HM3 := Aside0.mk ((HM1.out.trans hm2).set (i := 0) (.slice (some ⟨b2, 0, none⟩) (f.L + 4 + 1) C2))
        have BA3 := Aside0.mk (blk_put (cs' := codCells (.slice (some ⟨b2, 0, none⟩) (f.L + 4 + 1) C2) (R2 : Int)) BA2.out 0 (.slice (some ⟨b2, 0, none⟩) (f.L + 4 + 1) C2) rfl)
        have HO3 : Aside0 ((w2.setCell ⟨g, 0, none⟩ (.slice (some ⟨b2, 0, none⟩) (f.L + 4 + 1) C2)).ownsRow B 5 1 (.slice (some ⟨b2, 0, none⟩) (f.L + 4 + 1) C2) (f.L + 4 + 1) (u8s (beI (f.L + 4) f.V) ++ [.int .u8 0])) := ⟨own_frame ho2 (fun k hk => Below.heap_setCell _ _ _ _ (fun h => hb2g ((own_eq hk).trans h)))⟩
        clear HM1 BA1 HO1 BA2 ho2 hg2 hp2 hm2
        go_roundg k1
        case measure => omega
        case rel =>
          cases k with
          | zero => exact absurd hRk.out (by rw [Nat.pow_zero, hR]; omega)
          | succ k =>
            refine ⟨k, f.up, _, ⟨by have := hk.out; omega⟩, ⟨?_⟩, ⟨up_pre hpf.out (by rw [hR]; exact hc)⟩, ⟨?_⟩, ⟨?_⟩, ⟨?_⟩, HM3⟩
            · have h := hgr.out
              unfold growE at h
              rw [if_pos (by rw [hR]; exact hc)] at h
              exact h
            · have := hLf.out; unfold Enc.up; simp only; omega
            · have h := hRk.out
              unfold Enc.up
              simp only
              rw [Nat.mul_assoc, Nat.mul_comm 256, ← Nat.pow_succ]
              exact h
            · have e3 : f.up.R = R2 := by unfold Enc.up; simp only; rw [hR]; exact hR2
              refine ⟨by rw [e3]; exact BA3.out, ?_, fun h => hb2g (own_eq h)⟩
              have e4 : u8s (beI (f.up.L + 4) f.up.V) = u8s (beI (f.L + 4) f.V) ++ [.int .u8 0] := by
                show u8s (beI (f.L + 1 + 4) (f.V * 256)) = _
                rw [show f.L + 1 + 4 = f.L + 4 + 1 by omega, show f.V * 256 = f.V * 256 + 0 by omega, beI_snoc _ _ _ (by decide)]
                unfold u8s
                rw [List.map_append]
                rfl
              rw [e4]
              have e5 : f.up.L + 4 = f.L + 4 + 1 := by show f.L + 1 + 4 = f.L + 4 + 1; omega
              rw [e5]
              exact HO3.out
      · have hcb : decide ((R : Int) < 16777216) = false := decide_eq_false (by omega)
        go_wp2_with fail
        refine bodyPost_end (results_none rfl _ _ _) rfl ?_
        have hgf : growE k f = f := by cases k with
          | zero => rfl
          | succ k => unfold growE; rw [if_neg (by omega)]
        rw [← hgr.out, hgf]
        exact ⟨rfl, _, hSf.out, HM.out⟩
end Go.Proofs.Ytgldblakdhalkaa
/- What the reference coder's Bit, Direct and Bytes come to. Conditions: as each contract states. -/
namespace Go.Proofs.Ytgldblakdhalkaa
set_option linter.unusedVariables false
open Go.RowKit Go.Proofs.YtgldblakdhalkaaW.PrintWords Go.Proofs.YtgldblakdhalkaaW.PrintLast Go.Proofs.YtgldblakdhalkaaW.PrintMore Go.Proofs.Ytgldblakdhalkaa.PBase
theorem refcut_val (p : Int) : wringerref15_chance.f p = some (cutN p : Int) := cut_val p
theorem mul_val (R : Nat) (p : Int) (h : R < 4294967296) : IntKind.u64.wrap (((R / 4096 : Nat) : Int) * (cutN p : Int)) = (shareN R p : Int) := by
  have hc := cutN_range p
  have h2 : R / 4096 * cutN p ≤ R / 4096 * 4095 := Nat.mul_le_mul_left _ hc.2
  have e : ((R / 4096 : Nat) : Int) * (cutN p : Int) = ((R / 4096 * cutN p : Nat) : Int) := by rw [Int.natCast_mul]
  rw [e, wrap_u64 ((R / 4096 * cutN p : Nat) : Int) (by omega) (by omega)]
  rfl
attribute [local go_sem ↓] Go.wp_at_zero Go.wp_at_succ
set_option maxHeartbeats 4000000 in
set_option maxRecDepth 100000 in
theorem ref_Bit.calls (e : Enc) (v : Value) (B g : Nat) (p bit : Int) (bb : Bool) (hbb : (bit != 0) = bb) (w : World) (hS : Aside0 (CodAt w B g e v)) (hok : Aside0 e.ok) (hL : Aside0 (e.L ≤ 1000000000)) (hB : Aside0 (B ≤ w.heap.size)) :
    Calls Try.prog 27 #[.pointer (some ⟨g, 0, none⟩), .int .i64 p, .int .i64 bit] w fun r w' => r = .returned (.tuple #[]) ∧ ∃ v', CodAt w' B g (bitE p bb e) v' ∧ Moved g w v w' v' := by
  have hu2 := Try.underlying89
  obtain ⟨h1, h2, h3, h4⟩ := hok.out
  have hc1 : w.cell? ⟨g, 1, none⟩ = some (.int .u64 (e.R : Int)) := blk_cell hS.out.blk 1
  have hs := shareN_range e.R p (by omega)
  have hV := Aside0.mk (refcut_val p)
  have hmul := mul_val e.R p h3
  obtain ⟨s, hss⟩ : ∃ s, shareN e.R p = s := ⟨_, rfl⟩
  rw [hss] at hs hmul
  obtain ⟨c, hcc⟩ : ∃ c, cutN p = c := ⟨_, rfl⟩
  rw [hcc] at hV hmul
  obtain ⟨q, hq⟩ : ∃ q, e.R / 4096 = q := ⟨_, rfl⟩
  rw [hq] at hmul
  have hdiv : (e.R : Int) / 4096 = (q : Int) := by omega
  go_enter Try.func27, Try.ntmps27
  go_wp2_with fail
  go_region_with (first | (go_at_call 53; refine (wringerref15_chance.calls _ _ _ hV.out).mono ?_; rintro r w1 ⟨rfl, hb⟩; have HS := Aside0.mk (CodAt.below (w := w.drew) ⟨hS.out.blk, hS.out.own, hS.out.far⟩ hb); have HM : Aside0 (Moved g w v w1 v) := ⟨⟨Mine.below (Mine.drew (Mine.refl _ w)) hb, Or.inl rfl⟩⟩; have hcw : w1.cell? ⟨g, 1, none⟩ = some (.int .u64 (e.R : Int)) := blk_cell HS.out.blk 1))
  all_goals
    clear hb hc1 hcw hdiv hmul
    cases bb
    · go_wp2_with fail
      refine (ref_add.calls e v B g s w1 HS ⟨⟨h1, hL.out⟩⟩ ⟨by omega⟩ ⟨by omega⟩).mono ?_
      rintro r w2 ⟨rfl, hS2, hm2⟩
      have HS2 := Aside0.mk hS2
      have HM2 := Aside0.mk (HM.out.trans ⟨hm2, Or.inl rfl⟩)
      have hc2 : w2.cell? ⟨g, 1, none⟩ = some (.int .u64 (e.R : Int)) := blk_cell hS2.blk 1
      have hf2 := blk_frozen hS2.blk 1
      clear hS2 hm2 HS HM
      obtain ⟨q2, hq2⟩ : ∃ q, e.R - s = q := ⟨_, rfl⟩
      have hw : IntKind.u64.wrap ((e.R : Int) - (s : Int)) = (q2 : Int) := by rw [IntKind.wrap_u64]; omega
      go_wp2_with fail
      have HS3 := Aside0.mk (HS2.out.size q2)
      have HM3 := Aside0.mk (HM2.out.set (i := 1) (.int .u64 (q2 : Int)))
      refine (ref_grow.calls ⟨e.V + s, e.L, q2⟩ v B g _ HS3 ⟨by have := bitP_pre hok.out p false; unfold bitP at this; rw [if_neg Bool.false_ne_true, hss, hq2] at this; exact this⟩ hL ⟨Nat.le_trans hB.out HM3.out.mine.size⟩).mono ?_
      rintro r w4 ⟨rfl, v2, hS4, hm4⟩
      go_wp2
      refine bodyPost_end (results_none rfl _ _ _) rfl ?_
      refine ⟨rfl, v2, ?_, HM3.out.trans hm4⟩
      unfold bitE bitP
      rw [if_neg Bool.false_ne_true, hss, hq2]
      exact hS4
    · have hf2 := blk_frozen HS.out.blk 1
      have hc2 : w1.cell? ⟨g, 1, none⟩ = some (.int .u64 (e.R : Int)) := blk_cell HS.out.blk 1
      go_wp2_with fail
      have HS2 := Aside0.mk (HS.out.size s)
      have HM2 := Aside0.mk (HM.out.set (i := 1) (.int .u64 (s : Int)))
      refine (ref_grow.calls ⟨e.V, e.L, s⟩ v B g _ HS2 ⟨by have := bitP_pre hok.out p true; unfold bitP at this; rw [if_pos rfl, hss] at this; exact this⟩ hL ⟨Nat.le_trans hB.out HM2.out.mine.size⟩).mono ?_
      rintro r w2 ⟨rfl, v2, hS2, hm2⟩
      go_wp2
      refine bodyPost_end (results_none rfl _ _ _) rfl ?_
      refine ⟨rfl, v2, ?_, HM2.out.trans hm2⟩
      unfold bitE bitP
      rw [if_pos rfl, hss]
      exact hS2
attribute [local go_sem] max2_mx min2_mn max_two min_two
set_option maxHeartbeats 4000000 in
set_option maxRecDepth 100000 in
theorem ref_Direct.calls (e : Enc) (v : Value) (B g V : Nat) (n : Int) (w : World) (hV : Aside0 (V < 18446744073709551616)) (hS : Aside0 (CodAt w B g e v)) (hok : Aside0 e.ok) (hL : Aside0 (e.L ≤ 900000000)) (hB : Aside0 (B ≤ w.heap.size)) :
    Calls Try.prog 25 #[.pointer (some ⟨g, 0, none⟩), .int .u64 (V : Int), .int .i64 n] w fun r w' => r = .returned (.tuple #[]) ∧ ∃ v', CodAt w' B g (directE V (lenN n) e) v' ∧ Moved g w v w' v' := by
  have hu2 := Try.underlying89
  have hNv := lenN_val n
  have hN64 := Aside0.mk (lenN_le n)
  obtain ⟨N, hN⟩ : ∃ N, lenN n = N := ⟨_, rfl⟩
  rw [hN] at hNv hN64 ⊢
  have hw0 : wrap64 ((N : Int) - 1) = (N : Int) - 1 := by have := hN64.out; unfold wrap64; omega
  go_enter Try.func25, Try.ntmps25
  go_wp2_with fail
  go_loopg [6] (N + 1) (fun kq v6 w' => ∃ (j : Nat) (f : Enc) (v' : Value), v6 = .int .i64 ((j : Int) - 1) ∧ Aside0 (kq = j + 1) ∧ Aside0 (j ≤ 64) ∧ Aside0 (directE V j f = directE V N e) ∧ Aside0 f.ok ∧ Aside0 (f.L + 4 * j ≤ e.L + 4 * N) ∧ Aside0 (CodAt w' B g f v') ∧ Aside0 (Moved g w v w' v'))
  case atStart => exact ⟨N, e, v, by first | rfl | rw [hw0], ⟨rfl⟩, hN64, ⟨rfl⟩, hok, ⟨Nat.le_refl _⟩, hS, ⟨Moved.refl _ _ _⟩⟩
  case round =>
    clear hw0
    obtain ⟨j, f, v', rfl, hk, hj, hd, hfo, hfL, HS, HM⟩ := hrel
    cases gk with
    | zero => exact absurd hk.out (by omega)
    | succ k1 =>
      cases j with
      | zero =>
        go_wp2_with fail
        refine bodyPost_end (results_none rfl _ _ _) rfl ?_
        refine ⟨rfl, v', ?_, HM.out⟩
        rw [← hd.out]
        exact HS.out
      | succ j =>
        have e1 : ((j + 1 : Nat) : Int) - 1 = (j : Int) := by omega
        rw [e1]
        have hj0 := eq_true (show (0 : Int) ≤ (j : Int) by omega)
        have hc2 : wr.cell? ⟨g, 1, none⟩ = some (.int .u64 (f.R : Int)) := blk_cell HS.out.blk 1
        have hf2 := blk_frozen HS.out.blk 1
        obtain ⟨x, hx⟩ : ∃ x, V / 2 ^ j = x := ⟨_, rfl⟩
        have hxl : x < 18446744073709551616 := by rw [← hx]; exact Nat.lt_of_le_of_lt (Nat.div_le_self _ _) hV.out
        have hsh : (V : Int) / 2 ^ min j 64 = (x : Int) := by
          rw [Nat.min_eq_left (by have := hj.out; omega), ← hx]
          norm_cast
        obtain ⟨h, hh⟩ : ∃ h, f.R / 2 = h := ⟨_, rfl⟩
        have hR := hfo.out.2.2.1
        have hR1 := hfo.out.2.1
        have hh1 : (f.R : Int) / 2 = (h : Int) := by omega
        have hh2 : IntKind.u64.wrap (h : Int) = (h : Int) := wrap_u64 _ (by omega) (by omega)
        have hdj : directE V (j + 1) f = directE V j (halfE (x % 2 == 1) f) := by rw [← hx]; rfl
        have hLj : f.L ≤ 900000256 := by have := hfL.out; have := hL.out; have := hN64.out; omega
        by_cases hd1 : x % 2 = 1
        · have hand : Go.bits .and .u64 (x : Int) 1 = 1 := by rw [and1 x hxl, hd1]; rfl
          have hb : (x % 2 == 1) = true := beq_iff_eq.2 hd1
          go_wp2_with fail
          have HS2 := Aside0.mk (HS.out.size h)
          have HM2 := Aside0.mk (HM.out.set (i := 1) (.int .u64 (h : Int)))
          refine (ref_add.calls ⟨f.V, f.L, h⟩ v' B g h _ HS2 ⟨⟨hfo.out.1, by simp only; omega⟩⟩ ⟨by omega⟩ ⟨by have := hfo.out.2.2.2; simp only; omega⟩).mono ?_
          rintro r w3 ⟨rfl, hS3, hm3⟩
          have HM3 := Aside0.mk (HM2.out.trans ⟨hm3, Or.inl rfl⟩)
          go_wp2_with fail
          refine (ref_grow.calls ⟨f.V + h, f.L, h⟩ v' B g _ ⟨hS3⟩ ⟨by have := halfP_pre hfo.out true; unfold halfP at this; rw [if_pos rfl, hh] at this; exact this⟩ ⟨by simp only; omega⟩ ⟨Nat.le_trans hB.out HM3.out.mine.size⟩).mono ?_
          rintro r w4 ⟨rfl, v2, hS4, hm4⟩
          have hE : growE 4 ⟨f.V + h, f.L, h⟩ = halfE (x % 2 == 1) f := by rw [hb]; unfold halfE halfP; rw [if_pos rfl, hh]
          rw [hE] at hS4
          go_wp2_with fail
          go_roundg k1
          case measure => have := hk.out; omega
          case rel => exact ⟨j, _, v2, first_wrap j (by have := hj.out; omega), ⟨by have := hk.out; omega⟩, ⟨by have := hj.out; omega⟩, ⟨hdj.symm.trans hd.out⟩, ⟨halfE_ok hfo.out _⟩, ⟨by have := halfE_L (x % 2 == 1) f; have := hfL.out; omega⟩, ⟨hS4⟩, ⟨HM3.out.trans hm4⟩⟩
        · have hand : Go.bits .and .u64 (x : Int) 1 = 0 := by rw [and1 x hxl, show x % 2 = 0 by omega]; rfl
          have hb : (x % 2 == 1) = false := beq_eq_false_iff_ne.2 hd1
          go_wp2_with fail
          have HS2 := Aside0.mk (HS.out.size h)
          have HM2 := Aside0.mk (HM.out.set (i := 1) (.int .u64 (h : Int)))
          refine (ref_grow.calls ⟨f.V, f.L, h⟩ v' B g _ HS2 ⟨by have := halfP_pre hfo.out false; unfold halfP at this; rw [if_neg Bool.false_ne_true, hh] at this; exact this⟩ ⟨by simp only; omega⟩ ⟨Nat.le_trans hB.out HM2.out.mine.size⟩).mono ?_
          rintro r w4 ⟨rfl, v2, hS4, hm4⟩
          have hE : growE 4 ⟨f.V, f.L, h⟩ = halfE (x % 2 == 1) f := by rw [hb]; unfold halfE halfP; rw [if_neg Bool.false_ne_true, hh]
          rw [hE] at hS4
          go_wp2_with fail
          go_roundg k1
          case measure => have := hk.out; omega
          case rel => exact ⟨j, _, v2, first_wrap j (by have := hj.out; omega), ⟨by have := hk.out; omega⟩, ⟨by have := hj.out; omega⟩, ⟨hdj.symm.trans hd.out⟩, ⟨halfE_ok hfo.out _⟩, ⟨by have := halfE_L (x % 2 == 1) f; have := hfL.out; omega⟩, ⟨hS4⟩, ⟨HM2.out.trans hm4⟩⟩
theorem ref_Bytes.calls (e : Enc) (v : Value) (B g : Nat) (w : World) (hS : Aside0 (CodAt w B g e v)) :
    Calls Try.prog 29 #[.pointer (some ⟨g, 0, none⟩)] w fun r w' => r = .returned (.string (strOfNums (beI (e.L + 4) e.V))) ∧ Below w.heap.size w w' := by
  have hu2 := Try.underlying89
  have hc0 : w.cell? ⟨g, 0, none⟩ = some v := blk_cell hS.out.blk 0
  obtain ⟨b, C, rfl, hbB⟩ := own_form hS.out.own (by omega)
  have hcv : (convert 33 9 (.slice (some ⟨b, 0, none⟩) (e.L + 4) C)).run Try.prog w = .ok (.string (strOfNums (beI (e.L + 4) e.V))) w :=
    conv_ints (P := Try.prog) w 33 5 9 Try.underlying33 Try.underlying5 Try.underlying9 B (.slice (some ⟨b, 0, none⟩) (e.L + 4) C) (beI (e.L + 4) e.V) (by rw [beI_length]; exact hS.out.own)
  go_enter Try.func29, Try.ntmps29
  go_wp2
  go_ret
  exact ⟨rfl, Below.refl _ _⟩
end Go.Proofs.Ytgldblakdhalkaa
