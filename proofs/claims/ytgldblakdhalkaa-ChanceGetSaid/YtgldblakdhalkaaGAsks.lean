/- Asks in memory; an encoder and the reference's coder side by side. Conditions: as stated. -/
import Derived.Test.YtgldblakdhalkaaGAwk
import Derived.Test.YtgldblakdhalkaaGRbit
namespace Go.Proofs.Ytgldblakdhalkaa
set_option linter.unusedVariables false
open Go.RowKit Go.Proofs.YtgldblakdhalkaaW.PrintWords Go.Proofs.YtgldblakdhalkaaW.PrintLast Go.Proofs.YtgldblakdhalkaaW.PrintMore Go.Proofs.Ytgldblakdhalkaa.PBase
/-- One of the asks in memory: the chance, the bit, how many bits, the number. -/
structure AskAt (w : World) (x : Addr) (i : Nat) (p bit n : Int) (v : Nat) : Prop where
  cp : w.cell? (x.add (i * 4)) = some (.int .i64 p)
  cbit : w.cell? ⟨(x.add (i * 4)).block, (x.add (i * 4)).off + 1, none⟩ = some (.int .i64 bit)
  cn : w.cell? ⟨(x.add (i * 4)).block, (x.add (i * 4)).off + 2, none⟩ = some (.int .i64 n)
  cv : w.cell? ⟨(x.add (i * 4)).block, (x.add (i * 4)).off + 3, none⟩ = some (.int .u64 (v : Int))
  lt : v < 18446744073709551616
/-- A slice of asks in memory. -/
def IsAsks (w : World) (a : Option Addr) (len : Nat) : Prop := ∀ i, i < len → ∃ x p bit n v, a = some x ∧ AskAt w x i p bit n v
theorem AskAt.below {w w' : World} {x : Addr} {i : Nat} {p bit n : Int} {v : Nat} (h : AskAt w x i p bit n v) (hb : Below w.heap.size w w') : AskAt w' x i p bit n v :=
  ⟨by rw [hb.cell (World.block_lt_of_cell? _ _ h.cp)]; exact h.cp, by rw [hb.cell (World.block_lt_of_cell? _ _ h.cbit)]; exact h.cbit, by rw [hb.cell (World.block_lt_of_cell? _ _ h.cn)]; exact h.cn, by rw [hb.cell (World.block_lt_of_cell? _ _ h.cv)]; exact h.cv, h.lt⟩
/-- What an object stands on: its block and its row. -/
def foot (g : Nat) (v : Value) (k : Nat) : Prop := k = g ∨ v.ownBlock = some k
/-- Two objects stand apart. -/
def Apart (g1 : Nat) (v1 : Value) (g2 : Nat) (v2 : Value) : Prop := ∀ k, foot g1 v1 k → ¬ foot g2 v2 k
theorem Apart.symm {g1 g2 : Nat} {v1 v2 : Value} (h : Apart g1 v1 g2 v2) : Apart g2 v2 g1 v1 := fun k h1 h2 => h k h2 h1
theorem Apart.moved {g1 g2 : Nat} {v1 v2 v3 : Value} {w w' : World} (h : Apart g1 v1 g2 v2) (hl : ∀ k, foot g1 v1 k → k < w.heap.size) (hm : Moved g2 w v2 w' v3) : Apart g1 v1 g2 v3 := by
  intro k h1 h2
  rcases h2 with h2 | h2
  · exact h k h1 (Or.inl h2)
  · rcases hm.own with h3 | ⟨k', h3, h4⟩
    · exact h k h1 (Or.inr (h3.symm.trans h2))
    · rw [h3] at h2; injection h2 with h2; have := hl k h1; omega
theorem Moved.keep {g1 g2 : Nat} {v1 v2 v3 : Value} {w w' : World} (h : Apart g1 v1 g2 v2) (hm : Moved g2 w v2 w' v3) : ¬ (g1 = g2 ∨ v2.ownBlock = some g1) ∧ ∀ k, v1.ownBlock = some k → ¬ (k = g2 ∨ v2.ownBlock = some k) :=
  ⟨fun hk => h g1 (Or.inl rfl) hk, fun k hk h2 => h k (Or.inr hk) h2⟩
theorem EncAt.lt2 {w : World} {B g : Nat} {e : Enc} {v : Value} (h : EncAt w B g e v) : ∀ k, foot g v k → k < w.heap.size := fun k hk => by
  rcases hk with rfl | hk
  · exact blk_lt h.blk
  · exact (h.own.lt k hk).2
theorem CodAt.lt2 {w : World} {B g : Nat} {e : Enc} {v : Value} (h : CodAt w B g e v) : ∀ k, foot g v k → k < w.heap.size := fun k hk => by
  rcases hk with rfl | hk
  · exact blk_lt h.blk
  · exact (h.own.lt k hk).2
theorem EncAt.other {w w' : World} {B g g2 : Nat} {e : Enc} {v v2 v3 : Value} (h : EncAt w B g e v) (ha : Apart g v g2 v2) (hm : Moved g2 w v2 w' v3) : EncAt w' B g e v := h.mine hm.mine (Moved.keep ha hm).1 (Moved.keep ha hm).2
theorem CodAt.other {w w' : World} {B g g2 : Nat} {e : Enc} {v v2 v3 : Value} (h : CodAt w B g e v) (ha : Apart g v g2 v2) (hm : Moved g2 w v2 w' v3) : CodAt w' B g e v := h.mine hm.mine (Moved.keep ha hm).1 (Moved.keep ha hm).2
/-- An encoder and the reference's coder, at one state. -/
structure Pair (w : World) (B g1 g2 : Nat) (e : Enc) (v1 v2 : Value) : Prop where
  a : EncAt w B g1 e v1
  b : CodAt w B g2 e v2
  ab : Apart g1 v1 g2 v2
theorem EncAt.drew {w : World} {B g : Nat} {e : Enc} {v : Value} (h : EncAt w B g e v) : EncAt w.drew B g e v := ⟨h.blk, h.own, h.far⟩
theorem CodAt.drew {w : World} {B g : Nat} {e : Enc} {v : Value} (h : CodAt w B g e v) : CodAt w.drew B g e v := ⟨h.blk, h.own, h.far⟩
theorem Pair.drew {w : World} {B g1 g2 : Nat} {e : Enc} {v1 v2 : Value} (h : Pair w B g1 g2 e v1 v2) : Pair w.drew B g1 g2 e v1 v2 := ⟨h.a.drew, h.b.drew, h.ab⟩
/-- First the one takes a step, then the other. -/
structure Half (w : World) (B g1 g2 : Nat) (f e : Enc) (v1 v2 : Value) : Prop where
  a : EncAt w B g1 f v1
  b : CodAt w B g2 e v2
  ab : Apart g1 v1 g2 v2
theorem Pair.first {w w' : World} {B g1 g2 : Nat} {e f : Enc} {v1 v2 v3 : Value} (h : Pair w B g1 g2 e v1 v2) (hs : EncAt w' B g1 f v3) (hm : Moved g1 w v1 w' v3) : Half w' B g1 g2 f e v3 v2 :=
  ⟨hs, h.b.other h.ab.symm hm, (h.ab.symm.moved h.b.lt2 hm).symm⟩
theorem Half.drew {w : World} {B g1 g2 : Nat} {f e : Enc} {v1 v2 : Value} (h : Half w B g1 g2 f e v1 v2) : Half w.drew B g1 g2 f e v1 v2 := ⟨h.a.drew, h.b.drew, h.ab⟩
theorem Half.second {w w' : World} {B g1 g2 : Nat} {e f : Enc} {v1 v2 v3 : Value} (h : Half w B g1 g2 f e v1 v2) (hs : CodAt w' B g2 f v3) (hm : Moved g2 w v2 w' v3) : Pair w' B g1 g2 f v1 v3 :=
  ⟨h.a.other h.ab hm, hs, h.ab.moved h.a.lt2 hm⟩
theorem Pair.below {w w' : World} {B g1 g2 : Nat} {e : Enc} {v1 v2 : Value} (h : Pair w B g1 g2 e v1 v2) (hb : Below w.heap.size w w') : Pair w' B g1 g2 e v1 v2 := ⟨h.a.below hb, h.b.below hb, h.ab⟩
theorem directE_L (v : Nat) : ∀ (i : Nat) (e : Enc), (directE v i e).L ≤ e.L + 4 * i
  | 0, e => Nat.le_refl _
  | i + 1, e => by
    have h1 := directE_L v i (halfE (v / 2 ^ i % 2 == 1) e)
    have h2 := halfE_L (v / 2 ^ i % 2 == 1) e
    unfold directE
    omega
end Go.Proofs.Ytgldblakdhalkaa
