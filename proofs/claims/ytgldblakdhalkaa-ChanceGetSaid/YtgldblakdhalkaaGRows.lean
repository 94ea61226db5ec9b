/- Rows of asks that an object owns: their cells, how they are copied and stored. Conditions: as each lemma states. -/
import Derived.Test.YtgldblakdhalkaaGTwoE
import Derived.Test.YtgldblakdhalkaaGAwk
import Derived.Deep.Upon
import Derived.Maps.AppendAt
namespace Go.Proofs.Ytgldblakdhalkaa
set_option linter.unusedVariables false
open Go.RowKit Go.Proofs.YtgldblakdhalkaaW.PrintWords Go.Proofs.YtgldblakdhalkaaW.PrintLast Go.Proofs.YtgldblakdhalkaaW.PrintMore Go.Proofs.Ytgldblakdhalkaa.PBase
/-! ### Any owned row -/
theorem row_cell {w : World} {B e size n b C : Nat} {xs : List Value} (h : w.ownsRow B e size (.slice (some ⟨b, 0, none⟩) n C) n xs) (k : Nat) (x : Value) (hx : xs[k]? = some x) : w.cell? ⟨b, k, none⟩ = some x ∧ w.frozen? ⟨b, k, none⟩ = false := by
  rcases h.2 with ⟨h0, _⟩ | ⟨g', cap', cur, hv, hb, hg, hn, hc, hs2, ht⟩
  · cases h0
  · injection hv with e1 e2 e3
    injection e1 with e1
    injection e1 with e1 _ _
    subst e1 e3
    have hi : k < n * size := by rw [← h.1]; exact (List.getElem?_eq_some_iff.1 hx).1
    refine ⟨?_, blk_frozen hg k⟩
    rw [blk_cell hg k]
    have h2 : (cur.toList.take (n * size))[k]? = xs[k]? := by rw [ht]
    rw [List.getElem?_take, if_pos hi, Array.getElem?_toList] at h2
    rw [h2, hx]
theorem row_put {w : World} {B e size n b C : Nat} {xs : List Value} (h : w.ownsRow B e size (.slice (some ⟨b, 0, none⟩) n C) n xs) (k : Nat) (x : Value) : (w.setCell ⟨b, k, none⟩ x).ownsRow B e size (.slice (some ⟨b, 0, none⟩) n C) n (xs.set k x) := by
  refine ⟨?_, ?_⟩
  · rw [List.length_set]; exact h.1
  rcases h.2 with ⟨h0, _⟩ | ⟨g', cap', cur, hv, hb, hg, hn, hc, hs2, ht⟩
  · cases h0
  · injection hv with e1 e2 e3
    injection e1 with e1
    injection e1 with e1 _ _
    subst e1 e3
    refine .inr ⟨b, C, _, rfl, hb, blk_set hg k _, hn, hc, by rw [Array.size_setIfInBounds]; exact hs2, ?_⟩
    rw [Array.toList_setIfInBounds, List.take_set, ht]
theorem row_slice {w : World} {B e size n : Nat} {v : Value} {xs : List Value} (h : w.ownsRow B e size v n xs) : ∃ A C, v = .slice A n C := by
  rcases h.2 with ⟨rfl, rfl⟩ | ⟨g, cap, cur, rfl, _⟩
  · exact ⟨_, _, rfl⟩
  · exact ⟨_, _, rfl⟩
/-! ### Asks -/
structure Raw where
  p : Int
  bit : Int
  n : Int
  v : Nat
def Raw.cells (r : Raw) : List Value := [.int .i64 r.p, .int .i64 r.bit, .int .i64 r.n, .int .u64 (r.v : Int)]
def flat : List Raw → List Value
  | [] => []
  | r :: l => r.cells ++ flat l
theorem flat_length : ∀ l : List Raw, (flat l).length = l.length * 4
  | [] => rfl
  | r :: l => by
    show (r.cells ++ flat l).length = _
    rw [List.length_append, flat_length l, List.length_cons]
    show 4 + _ = _
    omega
theorem flat_get : ∀ (l : List Raw) (i j : Nat) (r : Raw), l[i]? = some r → j < 4 → (flat l)[i * 4 + j]? = r.cells[j]?
  | [], i, j, r, h, _ => by simp at h
  | r0 :: l, 0, j, r, h, hj => by
    have e : r0 = r := by simpa using h
    show (r0.cells ++ flat l)[0 * 4 + j]? = _
    rw [e, Nat.zero_mul, Nat.zero_add, List.getElem?_append_left (show j < r.cells.length from hj)]
  | r0 :: l, i + 1, j, r, h, hj => by
    have h2 : l[i]? = some r := by simpa using h
    show (r0.cells ++ flat l)[(i + 1) * 4 + j]? = _
    rw [List.getElem?_append_right (show r0.cells.length ≤ (i + 1) * 4 + j by show 4 ≤ _; omega), show (i + 1) * 4 + j - r0.cells.length = i * 4 + j by show (i + 1) * 4 + j - 4 = _; omega]
    exact flat_get l i j r h2 hj
def Raw.with (r : Raw) (x : Int) : Raw := ⟨r.p, r.bit, x, r.v⟩
theorem flat_set : ∀ (l : List Raw) (i : Nat) (r : Raw) (x : Int), l[i]? = some r → (flat l).set (i * 4 + 2) (.int .i64 x) = flat (l.set i (r.with x))
  | [], i, r, x, h => by simp at h
  | r0 :: l, 0, r, x, h => by
    have e : r0 = r := by simpa using h
    subst e
    rfl
  | r0 :: l, i + 1, r, x, h => by
    have h2 : l[i]? = some r := by simpa using h
    show (r0.cells ++ flat l).set ((i + 1) * 4 + 2) _ = r0.cells ++ flat (l.set i (r.with x))
    rw [← flat_set l i r x h2, List.set_append_right (h := show r0.cells.length ≤ (i + 1) * 4 + 2 by show 4 ≤ _; omega), show (i + 1) * 4 + 2 - r0.cells.length = i * 4 + 2 by show (i + 1) * 4 + 2 - 4 = _; omega]
/-- Asks among the arguments, as a list. -/
theorem asks_list {W : World} {A : Option Addr} : ∀ (len : Nat), IsAsks W A len → ∃ l : List Raw, l.length = len ∧ (∀ r ∈ l, r.v < 18446744073709551616) ∧ ∀ i r, l[i]? = some r → ∃ x, A = some x ∧ AskAt W x i r.p r.bit r.n r.v
  | 0, _ => ⟨[], rfl, fun r h => by simp at h, fun i r h => by simp at h⟩
  | len + 1, h => by
    obtain ⟨l, hl, hv, hi⟩ := asks_list len (fun i hi => h i (by omega))
    obtain ⟨x, p, b, n, v, hA, ha⟩ := h len (by omega)
    refine ⟨l ++ [⟨p, b, n, v⟩], by rw [List.length_append, hl]; rfl, ?_, ?_⟩
    · intro r hr
      rcases List.mem_append.1 hr with hr | hr
      · exact hv r hr
      · rw [List.mem_singleton.1 hr]; exact ha.lt
    · intro i r hr
      by_cases hil : i < l.length
      · rw [List.getElem?_append_left hil] at hr
        exact hi i r hr
      · rw [List.getElem?_append_right (by omega)] at hr
        have e : i - l.length = 0 := by
          rcases Nat.eq_zero_or_pos (i - l.length) with h0 | h0
          · exact h0
          · rw [List.getElem?_eq_none (by show 1 ≤ _; omega)] at hr; cases hr
        rw [e] at hr
        have e2 : (⟨p, b, n, v⟩ : Raw) = r := by simpa using hr
        have e3 : i = len := by omega
        subst e2 e3
        exact ⟨x, hA, ha⟩
theorem add_next (x : Addr) (k j : Nat) (hj : 0 < j) : x.add (k + j) = ⟨(x.add k).block, (x.add k).off + j, none⟩ := by
  unfold Addr.add
  rw [if_neg (by omega)]
  split
  · rename_i h
    rw [h, Nat.zero_add]
  · rw [Nat.add_assoc]
theorem AskAt.cells {W : World} {x : Addr} {i : Nat} {r : Raw} (h : AskAt W x i r.p r.bit r.n r.v) : ∀ j u, j < 4 → r.cells[j]? = some u → W.cell? (x.add (i * 4 + j)) = some u := by
  intro j u hj hu
  rcases (by omega : j = 0 ∨ j = 1 ∨ j = 2 ∨ j = 3) with e | e | e | e
  · subst e
    rw [Nat.add_zero, h.cp]
    simpa [Raw.cells] using hu
  · subst e
    rw [add_next x (i * 4) 1 (by decide), h.cbit]
    simpa [Raw.cells] using hu
  · subst e
    rw [add_next x (i * 4) 2 (by decide), h.cn]
    simpa [Raw.cells] using hu
  · subst e
    rw [add_next x (i * 4) 3 (by decide), h.cv]
    simpa [Raw.cells] using hu
theorem flat_ask (l : List Raw) (j : Nat) (u : Value) (h : (flat l)[j]? = some u) : ∃ r, l[j / 4]? = some r ∧ r.cells[j % 4]? = some u := by
  have hj : j < (flat l).length := (List.getElem?_eq_some_iff.1 h).1
  rw [flat_length] at hj
  have hi : j / 4 < l.length := by omega
  have h2 := flat_get l (j / 4) (j % 4) l[j / 4] (List.getElem?_eq_getElem hi) (by omega)
  rw [show j / 4 * 4 + j % 4 = j by omega, h] at h2
  exact ⟨l[j / 4], List.getElem?_eq_getElem hi, h2.symm⟩
theorem cells_one (r : Raw) : ∀ u ∈ r.cells, u.oneCell' = true := by
  intro u hu
  unfold Raw.cells at hu
  rcases List.mem_cons.1 hu with h | hu
  · rw [h]; rfl
  rcases List.mem_cons.1 hu with h | hu
  · rw [h]; rfl
  rcases List.mem_cons.1 hu with h | hu
  · rw [h]; rfl
  · rw [List.mem_singleton.1 hu]; rfl
theorem flat_one : ∀ (l : List Raw), ∀ u ∈ flat l, u.oneCell' = true
  | [], u, h => by simp [flat] at h
  | r :: l, u, h => by
    rcases List.mem_append.1 (show u ∈ r.cells ++ flat l from h) with h | h
    · exact cells_one r u h
    · exact flat_one l u h
theorem hi44 : (Try.prog.info? 44).map (fun i => (i.zero, i.size, i.bytes)) = some (some (.agg #[.int .i64 0, .int .i64 0, .int .i64 0, .int .u64 0]), 4, 32) := by kernel_rfl
theorem zero44 : (Value.agg #[.int .i64 0, .int .i64 0, .int .i64 0, .int .u64 0]).cells.size = 4 := by kernel_rfl
/-- All asks copied into a row of one's own. -/
theorem run_copy_asks (w : World) (B b0 : Nat) (A : Option Addr) (len cap ty : Nat) (l : List Raw) (hb0 : w.heap[b0]? = some (.cells #[] 44 (0, 0))) (hB : B ≤ b0) (hl : l.length = len) (hlen : len ≤ 1000) (h : ∀ i r, l[i]? = some r → ∃ x, A = some x ∧ AskAt w x i r.p r.bit r.n r.v) (hA : A = none → len = 0) :
    ∃ v' w', (Builtin.append_ #[37, 37] ty #[.slice (some ⟨b0, 0, none⟩) 0 0, .slice A len cap]).run Try.prog w = .ok v' w' ∧ w'.ownsRow B 44 4 v' len (flat l) ∧ w.grownBy w' (some b0) ∧ (v'.ownBlock = some b0 ∨ v'.ownBlock = some w.heap.size) := by
  obtain ⟨i, hi, hq⟩ := Option.map_eq_some_iff.1 hi44
  simp only [Prod.mk.injEq] at hq
  obtain ⟨hz, hs, hby⟩ := hq
  have hlt : b0 < w.heap.size := (Array.getElem?_eq_some_iff.1 hb0).1
  have hown : w.ownsRow B 44 4 (.slice (some ⟨b0, 0, none⟩) 0 0) 0 [] := ⟨rfl, .inr ⟨b0, 0, _, rfl, hB, hb0, Nat.le_refl _, by decide, rfl, rfl⟩⟩
  cases A with
  | none =>
    obtain rfl := hA rfl
    have hl0 : l = [] := List.eq_nil_of_length_eq_zero hl
    subst hl0
    have hr := run_append_nothing (P := Try.prog) w 37 37 ty 44 i Try.underlying37 hi (some ⟨b0, 0, none⟩) 0 0 (Nat.le_refl _) (.slice none 0 cap) (Src.ofNil w Try.underlying37 cap)
    exact ⟨_, _, hr, hown, ⟨rfl, rfl, rfl, Nat.le_refl _, fun _ _ _ => rfl⟩, Or.inl rfl⟩
  | some x =>
    obtain ⟨v', w', hr, h2, h3, _, h5⟩ := run_append_own_at (P := Try.prog) w B 37 ty 44 i _ 4 32 Try.underlying37 hi hz hs hby zero44 (by decide) _ 0 [] hown x len cap (flat l) (by rw [flat_length, hl]) (fun j u hu => by
      obtain ⟨r, hr, hru⟩ := flat_ask l j u hu
      obtain ⟨x', hx, ha⟩ := h _ r hr
      injection hx with hx
      subst hx
      have := ha.cells (j % 4) u (by omega) hru
      rwa [show j / 4 * 4 + j % 4 = j by omega] at this) (flat_one l) (Nat.le_trans (show 0 + len ≤ 1000 by omega) (by decide)) (by omega) (by omega)
    rw [Nat.zero_add, List.nil_append] at h2
    exact ⟨v', w', hr, h2, h3, h5⟩
/-- At the list of a plain region's operations. -/
theorem list_asks {w w' : World} {ops : Array Oper} {rest : List Oper} {o : Oper} {a : Act} {Q : Exit → Act → World → Prop} (hgd : o.guard = none) (x y : Operand)
    (ho : o.op = .call { callee := .builtin .append, args := #[x, y], argTypes := #[37, 37] }) (u v v' : Value) (hx : a.eval x = u) (hy : a.eval y = v) (hr : (Builtin.append_ #[37, 37] o.type #[u, v]).run Try.prog w = .ok v' w')
    (h : wpList Try.prog ops Q rest (a.put o.dst v') w') : wpList Try.prog ops Q (o :: rest) a w :=
  wpList_plain hgd fun K hK => by
    unfold Oper.wp execOp
    simp only [ho, resolve, invoke, builtin, Sem.run_bind, Sem.run_pure, Result.andThen_ok, List.map_toArray, List.map_cons, List.map_nil, hx, hy, hr]
    exact hK _ _ h
end Go.Proofs.Ytgldblakdhalkaa
