/- Rows of bytes that an object owns: what stays of them, how they grow, and the string that they make. No program in it. -/
import Derived.Test.YtgldblakdhalkaaGMin
import Derived.Lib.AppendStr
import Derived.Laws.BytesArg
import Derived.Maps.AppendAt
import Derived.Below
import Derived.Deep.AppendLies
import Derived.Deep.RegionLaw
namespace Go.Proofs.Ytgldblakdhalkaa
open Go.RowKit Go.Lib
theorem own_frame {w w' : World} {B e size n : Nat} {v : Value} {xs : List Value} (h : w.ownsRow B e size v n xs) (hk : ∀ k, v.ownBlock = some k → w'.heap[k]? = w.heap[k]?) : w'.ownsRow B e size v n xs := by
  refine ⟨h.1, ?_⟩
  rcases h.2 with hn | ⟨g, cap, cur, rfl, hb, hg, rest⟩
  · exact .inl hn
  · exact .inr ⟨g, cap, cur, rfl, hb, by rw [hk g rfl]; exact hg, rest⟩
theorem own_base {w : World} {B B' e size n : Nat} {v : Value} {xs : List Value} (h : w.ownsRow B e size v n xs) (hB : B' ≤ B) : w.ownsRow B' e size v n xs := by
  refine ⟨h.1, ?_⟩
  rcases h.2 with hn | ⟨g, cap, cur, rfl, hb, hg, rest⟩
  · exact .inl hn
  · exact .inr ⟨g, cap, cur, rfl, by omega, hg, rest⟩
/-- A string's bytes, as numbers. -/
def strInts (s : ByteArray) : List Int := s.data.toList.map fun b => (b.toNat : Int)
theorem strCells_ints (s : ByteArray) : strCells s = (strInts s).map (Value.int .u8) := by
  unfold strCells strInts
  rw [List.map_map]
  rfl
theorem strInts_length (s : ByteArray) : (strInts s).length = s.size := by
  unfold strInts
  rw [List.length_map, Array.length_toList]
  rfl
section
variable {P : Program} (w : World)
/-- The string of an owned row. -/
theorem conv_ints (src e dst : TypeId) (hs : P.underlying src = some (.slice e)) (he : P.underlying e = some (.int .u8)) (hd : P.underlying dst = some .string) (B : Nat) (v : Value) (l : List Int) (h : w.ownsRow B e 1 v l.length (l.map (Value.int .u8))) :
    (convert src dst v).run P w = .ok (.string (strOfNums l)) w := by
  rcases h.2 with ⟨rfl, h0⟩ | ⟨g, cap, cur, rfl, hb, hg, hn, hc, hs2, ht⟩
  · rw [List.eq_nil_of_length_eq_zero h0]
    exact run_convert_bytes_nil w src e hs he 0 0 dst hd
  · refine run_convert_bytes_arg w src e hs he g 0 l.length cap l rfl (fun i hi => ?_) dst hd
    rw [Nat.zero_add, cell_of_row w g i cur e (0, 0) hg]
    have h2 : (cur.toList.take (l.length * 1))[i]? = (l.map (Value.int .u8))[i]? := by rw [ht]
    rw [List.getElem?_take, if_pos (by omega), Array.getElem?_toList] at h2
    rw [h2, List.getElem?_map, List.getElem?_eq_getElem hi, List.getD_eq_getElem?_getD, List.getElem?_eq_getElem hi]
    rfl
theorem strOfNums_ints (s : ByteArray) : strOfNums (strInts s) = s := by
  obtain ⟨⟨l⟩⟩ := s
  unfold strOfNums strInts
  congr 2
  rw [List.map_map]
  conv => rhs; rw [← List.map_id l]
  refine List.map_congr_left fun b _ => ?_
  simp
theorem conv_own (src e dst : TypeId) (hs : P.underlying src = some (.slice e)) (he : P.underlying e = some (.int .u8)) (hd : P.underlying dst = some .string) (B : Nat) (v : Value) (s : ByteArray) (h : w.ownsRow B e 1 v s.size (strCells s)) :
    (convert src dst v).run P w = .ok (.string s) w := by
  have := conv_ints (P := P) w src e dst hs he hd B v (strInts s) (by rw [strInts_length, ← strCells_ints]; exact h)
  rw [strOfNums_ints] at this
  exact this
/-- Bytes of a string behind an owned row: what is owned then, and where it lies. -/
theorem app_str_at (base : Nat) (t u ty e : TypeId) (i : TypeInfo) (ht : P.underlying t = some (.slice e)) (hu : P.underlying u = some .string) (hi : P.info? e = some i) (hz : i.zero = some (.int .u8 0))
    (hsize : i.size = 1) (hby : i.bytes = 1) (v : Value) (n : Nat) (xs : List Value) (hown : w.ownsRow base e 1 v n xs) (s : ByteArray)
    (h63 : n + s.size ≤ maxLen) (hbytes : n + s.size ≤ 140737488355328) (hbase : base ≤ w.heap.size) :
    ∃ v' w', (Builtin.append_ #[t, u] ty #[v, .string s]).run P w = .ok v' w' ∧ w'.ownsRow base e 1 v' (n + s.size) (xs ++ strCells s) ∧ w.grownBy w' v.ownBlock ∧
      (v'.ownBlock = v.ownBlock ∨ v'.ownBlock = some w.heap.size) := by
  obtain ⟨v', w', hr, ho, hg, _⟩ := run_append_own_string (P := P) w base t u ty e i ht hu hi hz hsize hby v n xs hown s h63 hbytes hbase
  refine ⟨v', w', hr, ho, hg, ?_⟩
  have hxl : xs.length = n := by simpa using hown.1
  have hml : maxLen = 9223372036854775807 ∨ True := .inr trivial
  rcases hown.2 with ⟨rfl, rfl⟩ | ⟨g, cap, cur, rfl, hbg, hgg, hnc, hcm, hcs, htake⟩
  · by_cases hm : s.size = 0
    · rcases ho.2 with ⟨rfl, _⟩ | ⟨g, cap, cur, rfl, _, hgg, hn2, _, hcs, _⟩
      · exact .inl rfl
      · exfalso
        have hf := run_firstCells_string (P := P) w 1 s
        rw [hm] at hf
        simp [Builtin.append_, run_underlying ht, run_underlying hu, sizeOf, typeInfo, hi, hsize, Builtin.lenOf, hm, hf] at hr
    · have h2 := run_append_nil_string (P := P) w t u ty e i (.int .u8 0) ht hu hi hz s (by omega) (by omega) (by rw [hby]; omega)
      rw [hr] at h2
      injection h2 with h2 _
      exact .inr (by rw [h2]; rfl)
  · by_cases hroom : n + s.size ≤ cap
    · have hcs' : cur.size = cap := by simpa using hcs
      have h2 := run_append_room_string (P := P) w t u ty e i ht hu hi hsize g n cap cur hgg s hroom (by omega)
      rw [hr] at h2
      injection h2 with h2 _
      exact .inl (by rw [h2]; rfl)
    · have holds : ∀ j u, xs[j]? = some u → w.cell? ((⟨g, 0, none⟩ : Addr).add j) = some u := hown.cells (g := g) rfl
      have h2 := run_append_grow_string (P := P) w t u ty e i (.int .u8 0) ht hu hi hz ⟨g, 0, none⟩ n cap xs (by rw [hsize]; simpa using hxl) holds s (by omega) (by omega) (by rw [hby]; exact growslice_fits (by omega) (by omega))
      rw [hr] at h2
      injection h2 with h2 _
      exact .inr (by rw [h2]; rfl)
end
/-- The same at a step of a region that draws its order. -/
theorem step_str {P : Program} {w : World} {ops : Array Oper} {o : Oper} {a : Act} {K : Act → World → Prop} {Q : Exit → Act → World → Prop} {E : Prop} (hgd : o.guard = none) (x y : Operand) (t u : TypeId)
    (ho : o.op = .call { callee := .builtin .append, args := #[x, y], argTypes := #[t, u] }) (base : Nat) (e : TypeId) (i : TypeInfo) (ht : P.underlying t = some (.slice e)) (hu : P.underlying u = some .string) (hi : P.info? e = some i) (hz : i.zero = some (.int .u8 0))
    (hsize : i.size = 1) (hby : i.bytes = 1) (v : Value) (n : Nat) (xs : List Value) (hx : a.eval x = v) (hown : w.ownsRow base e 1 v n xs) (s : ByteArray) (hy : a.eval y = .string s)
    (h63 : n + s.size ≤ maxLen) (hbytes : n + s.size ≤ 140737488355328) (hbase : base ≤ w.heap.size)
    (h : ∀ v' w', w'.ownsRow base e 1 v' (n + s.size) (xs ++ strCells s) → w.grownBy w' v.ownBlock → (v'.ownBlock = v.ownBlock ∨ v'.ownBlock = some w.heap.size) → K (a.put o.dst v') w') :
    if Region.wanted o (yielded ops a.tmps) = true then Oper.wp P o a w K Q else E := by
  have hw : Region.wanted o (yielded ops a.tmps) = true := by simp [Region.wanted, hgd]
  rw [if_pos hw]
  obtain ⟨v', w', hr, h2, h3, h4⟩ := app_str_at (P := P) w base t u o.type e i ht hu hi hz hsize hby v n xs hown s h63 hbytes hbase
  unfold Oper.wp execOp
  simp only [ho, resolve, invoke, builtin, Sem.run_bind, Sem.run_pure, Result.andThen_ok, List.map_toArray, List.map_cons, List.map_nil, hx, hy, hr]
  exact h _ _ h2 h3 h4
/-- One byte more, laid into a block of its own ahead: at a step of a region that draws its order. -/
theorem step_one {P : Program} {w : World} {ops : Array Oper} {o : Oper} {a : Act} {K : Act → World → Prop} {Q : Exit → Act → World → Prop} {E : Prop} (hgd : o.guard = none) (x y : Operand) (t : TypeId)
    (ho : o.op = .call { callee := .builtin .append, args := #[x, y], argTypes := #[t, t] }) (base : Nat) (e : TypeId) (i : TypeInfo) (z : Value) (bytes : Nat) (ht : P.underlying t = some (.slice e)) (hi : P.info? e = some i) (hz : i.zero = some z)
    (hsize : i.size = 1) (hby : i.bytes = bytes) (hzs : z.cells.size = 1) (v : Value) (n : Nat) (xs : List Value) (hx : a.eval x = v) (hown : w.ownsRow base e 1 v n xs) (g : Nat) (c : Value) (hy : a.eval y = .slice (some ⟨g, 0, none⟩) 1 1)
    (hnew : w.heap[g]? = some (.cells #[c] e (0, 0))) (hc1 : c.oneCell' = true) (h63 : n + 1 ≤ maxLen) (hbytes : (n + 1) * bytes ≤ 140737488355328) (hbase : base ≤ w.heap.size)
    (h : ∀ b cap w', w'.ownsRow base e 1 (.slice (some ⟨b, 0, none⟩) (n + 1) cap) (n + 1) (xs ++ [c]) → w.grownBy w' v.ownBlock → (v.ownBlock = some b ∨ b = w.heap.size) → K (a.put o.dst (.slice (some ⟨b, 0, none⟩) (n + 1) cap)) w') :
    if Region.wanted o (yielded ops a.tmps) = true then Oper.wp P o a w K Q else E :=
  step_append_lies w hgd x y t ho base e i z 1 bytes ht hi hz hsize hby hzs (by decide) v n xs hx hown ⟨g, 0, none⟩ 1 1 [c] hy rfl (World.news_of_block hnew) (fun u hu => by rw [List.mem_singleton] at hu; rw [hu]; exact hc1) (by decide) h63 hbytes hbase _ rfl
    (fun b cap w' h1 h2 h3 _ => h b cap w' h1 h2 h3)
/-- What is cut to nothing is still owned. -/
theorem own_none {w : World} {B e n cap g : Nat} {xs : List Value} (h : w.ownsRow B e 1 (.slice (some ⟨g, 0, none⟩) n cap) n xs) : w.ownsRow B e 1 (.slice (some ⟨g, 0, none⟩) 0 cap) 0 [] := by
  refine ⟨rfl, ?_⟩
  rcases h.2 with ⟨h0, _⟩ | ⟨g', cap', cur, hv, hb, hg, hn, hc, hs2, ht⟩
  · cases h0
  · injection hv with e1 e2 e3
    injection e1 with e1
    injection e1 with e1 _ _
    subst e1 e3
    exact .inr ⟨g, cap, cur, rfl, hb, hg, Nat.zero_le _, hc, hs2, by simp⟩
/-- What a call keeps: the streams, and all blocks but those of S and what is new since. -/
structure Mine (S : Nat → Prop) (w W : World) : Prop where
  os : W.os = w.os
  tape : W.tape = w.tape
  output : W.output = w.output
  size : w.heap.size ≤ W.heap.size
  block : ∀ k, k < w.heap.size → ¬ S k → W.heap[k]? = w.heap[k]?
section
variable {S S2 : Nat → Prop} {w W W2 : World}
theorem Mine.refl (S : Nat → Prop) (w : World) : Mine S w w := ⟨rfl, rfl, rfl, Nat.le_refl _, fun _ _ _ => rfl⟩
theorem Mine.then_ (h : Mine S w W) (k : Mine S2 W W2) (hs : ∀ i, S2 i → S i ∨ w.heap.size ≤ i) : Mine S w W2 :=
  ⟨k.os.trans h.os, k.tape.trans h.tape, k.output.trans h.output, Nat.le_trans h.size k.size, fun i hi hn => (k.block i (Nat.lt_of_lt_of_le hi h.size) (fun h2 => (hs i h2).elim hn (fun h3 => by omega))).trans (h.block i hi hn)⟩
theorem Mine.mono (h : Mine S w W) (hs : ∀ i, S i → S2 i) : Mine S2 w W := ⟨h.os, h.tape, h.output, h.size, fun i hi hn => h.block i hi (fun k => hn (hs i k))⟩
theorem Mine.of_below (S : Nat → Prop) (h : Below w.heap.size w W) : Mine S w W := ⟨h.os, h.tape, h.output, h.size, fun i hi _ => h.block i hi⟩
theorem Mine.below (h : Mine S w W) (k : Below W.heap.size W W2) : Mine S w W2 := h.then_ (Mine.of_below (fun _ => False) k) (fun _ hk => hk.elim)
theorem Mine.set (h : Mine S w W) {g i : Nat} (hg : S g ∨ w.heap.size ≤ g) (u : Value) : Mine S w (W.setCell ⟨g, i, none⟩ u) :=
  h.then_ (S2 := fun k => k = g) ⟨rfl, rfl, rfl, by simp [World.setCell], fun k _ hn => Below.heap_setCell W ⟨g, i, none⟩ u k hn⟩ (fun k hk => by rw [hk]; exact hg)
theorem Mine.grown {row : Option Nat} (h : Mine S w W) (hg : W.grownBy W2 row) (hr : ∀ k, row = some k → S k ∨ w.heap.size ≤ k) : Mine S w W2 :=
  h.then_ (S2 := fun k => row = some k) ⟨hg.os, hg.tape, hg.output, hg.size, fun k hk hn => hg.block k hk (fun e => hn e.symm)⟩ hr
theorem Mine.alloc (h : Mine S w W) (o : Obj) : Mine S w (W.alloc o) := h.below ((Below.refl _ _).alloc (Nat.le_refl _) o)
theorem Mine.drew (h : Mine S w W) : Mine S w W.drew := ⟨h.os, h.tape, h.output, h.size, h.block⟩
theorem Mine.to_below {B : Nat} {w0 : World} (h : Mine S w W) (hb : Below B w0 w) (hB : B ≤ w.heap.size) (hs : ∀ k, S k → B ≤ k) : Below B w0 W :=
  ⟨h.os.trans hb.os, h.tape.trans hb.tape, h.output.trans hb.output, Nat.le_trans hb.size h.size, fun k hk => (h.block k (by omega) (fun h2 => by have := hs k h2; omega)).trans (hb.block k hk)⟩
theorem blk_mine {g : Nat} {o : Obj} (hb : w.heap[g]? = some o) (h : Mine S w W) (hg : ¬ S g) : W.heap[g]? = some o := (h.block g (Array.getElem?_eq_some_iff.1 hb).1 hg).trans hb
theorem own_mine {B e size n : Nat} {v : Value} {xs : List Value} (ho : w.ownsRow B e size v n xs) (h : Mine S w W) (hg : ∀ k, v.ownBlock = some k → ¬ S k) : W.ownsRow B e size v n xs :=
  own_frame ho (fun k hk => h.block k (ho.lt k hk).2 (hg k hk))
end
end Go.Proofs.Ytgldblakdhalkaa
