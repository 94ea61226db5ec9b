/-
  Proved: the plain statement behind TreeMoves: for every chance p, every shift and any two classes the law's Lean function answers true, given enough rounds. Conditions: the arguments are of their Go kinds.
-/
import Derived.Test.YtnhfkkffmlfkbaaPTreeMovesx2
namespace Go.Proofs.Ytnhfkkffmlfkbaa.Pure
open Go.RowKit Go.Proofs.Ytnhfkkffmlfkbaa.PTreeMoves Go.Proofs.YtnhfkkffmlfkbaaW.PrintWords Go.Proofs.YtnhfkkffmlfkbaaW.PrintLast Go.Proofs.YtnhfkkffmlfkbaaW.PrintMore

/-- What the nodes and bits of two classes come to in the rest of the law. -/
def pairOk (x y : Nat) : Bool :=
  match tree_Nodes.f 30 (x : Int), tree_Nodes.f 30 (y : Int) with
  | some n, some m => n.1.length == 7 && n.2.length == 7 && m.1.length == 7 && m.2.length == 7 && (wringerlaw16_TreeMoves.j0 30 (x : Int) (y : Int) n.1 n.2 m.1 m.2 false == some true)
  | _, _ => false
def allOk : Bool := (List.range 65).all fun x => (List.range 65).all fun y => pairOk x y
theorem allOk_true : allOk = true := by decide +kernel
theorem pairOk_true (x y : Nat) (hx : x < 65) (hy : y < 65) : pairOk x y = true := by
  have h := allOk_true
  unfold allOk at h
  rw [List.all_eq_true] at h
  have h1 := h x (List.mem_range.2 hx)
  rw [List.all_eq_true] at h1
  exact h1 y (List.mem_range.2 hy)
theorem move_up (q : Int) (k : Nat) (h0 : 0 ≤ q) (h1 : q ≤ 4096) : 0 ≤ (4096 - q) / 2 ^ k ∧ (4096 - q) / 2 ^ k ≤ 4096 - q := by
  have hp : (0 : Int) < 2 ^ k := Int.pow_pos (by omega)
  exact ⟨Int.ediv_nonneg (by omega) (by omega), Int.ediv_le_self _ (by omega)⟩
theorem move_down (q : Int) (k : Nat) (h0 : 0 ≤ q) : 0 ≤ q / 2 ^ k ∧ q / 2 ^ k ≤ q := by
  have hp : (0 : Int) < 2 ^ k := Int.pow_pos (by omega)
  exact ⟨Int.ediv_nonneg (by omega) (by omega), Int.ediv_le_self _ (by omega)⟩
theorem u8_bounds (a : Int) (h : (Lit.int .u8 a).wf = true) : 0 ≤ a ∧ a ≤ 255 := by
  simp only [Lit.wf, Bool.and_eq_true, decide_eq_true_eq] at h
  exact h
theorem class_of (a : Int) (h : (Lit.int .u8 a).wf = true) : ∃ x : Nat, x < 65 ∧ Int.tmod (wrap64 a) 65 = (x : Int) := by
  obtain ⟨h0, h1⟩ := u8_bounds a h
  have e : wrap64 a = a := by unfold wrap64; omega
  rw [e, Int.tmod_eq_emod_of_nonneg h0]
  exact ⟨(a % 65).toNat, by omega, by omega⟩

theorem TreeMoves : wringerlaw16_TreeMoves.Pure := by
  intro a0 a1 a2 a3 h0 h1 h2 h3
  obtain ⟨x, hx, ex⟩ := class_of a2 h2
  obtain ⟨y, hy, ey⟩ := class_of a3 h3
  have hp := pairOk_true x y hx hy
  refine ⟨30, ?_⟩
  unfold wringerlaw16_TreeMoves.f
  rw [ex, ey]
  have hq : 0 ≤ mx 0 (mn a0 4096) ∧ mx 0 (mn a0 4096) ≤ 4096 := by unfold mx mn; split <;> split <;> omega
  generalize hk : wrap64 (1 + Int.tmod (wrap64 a1) 12) = s
  have hu := move_up (mx 0 (mn a0 4096)) (mx 1 (mn s 12)).toNat hq.1 hq.2
  have hd := move_down (mx 0 (mn a0 4096)) (mx 1 (mn s 12)).toNat hq.1
  generalize hqq : mx 0 (mn a0 4096) = q at *
  have eu : tree_Move.f a0 1 s = some (q + (4096 - q) / 2 ^ (mx 1 (mn s 12)).toNat) := by
    unfold tree_Move.f
    rw [if_neg (by omega), hqq]
    congr 1
    unfold wrap64
    omega
  have ed : tree_Move.f a0 0 s = some (q - q / 2 ^ (mx 1 (mn s 12)).toNat) := by
    unfold tree_Move.f
    rw [if_pos rfl, hqq]
    congr 1
    unfold wrap64
    omega
  rw [eu, ed]
  simp only [Option.bind_some]
  unfold pairOk at hp
  split at hp
  · rename_i n m en em
    rw [en, em]
    simp only [Option.bind_some]
    simp only [Bool.and_eq_true, beq_iff_eq] at hp
    obtain ⟨⟨⟨⟨l1, l2⟩, l3⟩, l4⟩, hj⟩ := hp
    rw [if_neg (by omega), if_neg (by omega), if_neg (by omega), if_neg (by omega), if_pos (by omega), if_pos (by omega), if_pos (by omega)]
    have e7 : ((m.2.length : Int) != 7) = false := by rw [l4]; rfl
    rw [e7]
    exact hj
  · simp at hp
end Go.Proofs.Ytnhfkkffmlfkbaa.Pure
