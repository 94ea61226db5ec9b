/- Proved: the plain statement behind TreeAll: for every class, chance, bit, shift, all classes, bytes and number the law's Lean function answers true, given enough rounds. Conditions: the arguments are of their Go kinds. -/
import Derived.Test.YtgldblakdhalkaaPTreeAllx2
import Derived.Test.YtgldblakdhalkaaTreep
namespace Go.Proofs.Ytgldblakdhalkaa.Pure
open Go.RowKit Go.Proofs.Ytgldblakdhalkaa.PTreeAll Go.Proofs.YtgldblakdhalkaaW.PrintWords Go.Proofs.YtgldblakdhalkaaW.PrintLast Go.Proofs.Ytgldblakdhalkaa.PBase
theorem getC_length (s : ByteArray) (sh : Int) : ∀ (n : Nat) (l : List Int) (t : TS), (getC s sh n l t).2.1.length ≤ l.length + n
  | 0, l, t => Nat.le_refl _
  | n + 1, l, t => by
    by_cases h0 : (getB s sh 7 1 t).1 = 0
    · by_cases hm : (getB s sh 7 1 t).2.1 < 193
      · rw [getC_ok s sh n l t (getB s sh 7 1 t).2.1 (getB s sh 7 1 t).2.2 (by rw [← h0]) hm]
        have := getC_length s sh n (l ++ [((getB s sh 7 1 t).2.1 : Int) - 128]) (getB s sh 7 1 t).2.2
        rw [List.length_append] at this
        have h1 : [((getB s sh 7 1 t).2.1 : Int) - 128].length = 1 := rfl
        omega
      · rw [getC_form s sh n l t (getB s sh 7 1 t).2.1 (getB s sh 7 1 t).2.2 (by rw [← h0]) (by omega)]
        exact Nat.zero_le _
    · rw [getC_err s sh n l t (getB s sh 7 1 t).1 (getB s sh 7 1 t).2.1 (getB s sh 7 1 t).2.2 rfl h0]
      exact Nat.zero_le _
theorem getS_length (s : ByteArray) (n : Nat) (sh : Int) : (getS s n sh).1.length ≤ n := by
  have h := getC_length s sh n [] TS.new
  have h0 : ([] : List Int).length = 0 := rfl
  unfold getS
  split
  · split
    · show (getC s sh n [] TS.new).2.1.length ≤ n
      omega
    · exact Nat.zero_le _
  · exact Nat.zero_le _
theorem get_any (s : ByteArray) (n sh : Int) (hs : s.size ≤ 200) (hn : n ≤ 100) : ∃ r : List Int × Int, tree_Get.f s n sh = some r ∧ wringerref15_GetTree.f s n sh = some r ∧ r.1.length ≤ 100 := by
  unfold tree_Get.f wringerref15_GetTree.f
  by_cases hb : n < 0 ∨ 4096 < n ∨ mayS sh = false
  · exact ⟨([], 1), if_pos hb, if_pos hb, Nat.zero_le _⟩
  · have hz : s.size ≤ 1000000000 ∧ n ≤ 1000 := ⟨by omega, by omega⟩
    exact ⟨((getS s n.toNat sh).1, ((getS s n.toNat sh).2 : Int)), (if_neg hb).trans (if_pos hz), (if_neg hb).trans (if_pos hz), by have := getS_length s n.toNat sh; show (getS s n.toNat sh).1.length ≤ 100; omega⟩
theorem put_any (l : List Int) (sh : Int) (hl : l.length ≤ 60) : ∃ r : ByteArray × Int, tree_Put.f l sh = some r ∧ wringerref15_PutTree.f l sh = some r := by
  unfold tree_Put.f wringerref15_PutTree.f
  exact ⟨((putS sh l).1, ((putS sh l).2 : Int)), if_pos (by omega), if_pos (by omega)⟩
theorem TreeAll : wringerlaw16_TreeAll.Pure := by
  intro a0 a1 a2 a3 l4 a5 a6 _ _ _ _ _ _ _ _ _
  refine ⟨3001, ?_⟩
  have hj : ∀ b : Bool, (b = false → l4.length ≤ 60 ∧ a5.size ≤ 200) → wringerlaw16_TreeAll.j0 (3000 + 1) a0 a1 a2 a3 l4 a5 a6 b = some true := by
    intro b hb
    rw [wringerlaw16_TreeAll.j0]
    cases b
    · obtain ⟨h1, h2⟩ := hb rfl
      rw [if_neg Bool.false_ne_true]
      obtain ⟨r, e1, e2, l1, l2⟩ := nodes_any a0 3000 (by decide)
      obtain ⟨p, e3, e4⟩ := put_any l4 a3 h1
      obtain ⟨q, e5, e6, l3⟩ := get_any a5 (mn a6 100) a3 h2 (by unfold mn; split <;> omega)
      have hE : ∀ a : Int, wringerlaw1_Err.f a = some a := fun _ => rfl
      rw [e1, Option.bind_some, e2, Option.bind_some, e3, Option.bind_some, e4, Option.bind_some, e5, Option.bind_some, e6, Option.bind_some, same_self r.1 (by omega) 3000 (by omega), Option.bind_some, if_pos rfl, same_self r.2 (by omega) 3000 (by omega), Option.bind_some, if_pos rfl, move_f, Option.bind_some, rmove_f, Option.bind_some, if_pos rfl, if_pos rfl, hE, Option.bind_some, if_pos rfl, same_self q.1 (by omega) 3000 (by omega), Option.bind_some, if_pos rfl, hE, Option.bind_some, if_pos rfl, awake16 3000 (by decide)]
      rfl
    · rw [if_pos rfl, awake16 3000 (by decide)]
      rfl
  unfold wringerlaw16_TreeAll.f
  by_cases c : (l4.length : Int) > 60
  · rw [if_pos c]
    exact hj true (fun h => by cases h)
  · rw [if_neg c]
    refine hj _ (fun h => ⟨by omega, ?_⟩)
    have := of_decide_eq_false h
    omega
end Go.Proofs.Ytgldblakdhalkaa.Pure
