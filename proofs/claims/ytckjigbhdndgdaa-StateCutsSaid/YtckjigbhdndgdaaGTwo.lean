/- Two states or more: what one does leaves the other. Conditions: as stated. -/
import Derived.Test.YtckjigbhdndgdaaGSlaw
namespace Go.Proofs.Ytckjigbhdndgdaa
set_option linter.unusedVariables false
open Go.RowKit Go.Proofs.YtckjigbhdndgdaaW.PrintWords Go.Proofs.YtckjigbhdndgdaaW.PrintLast Go.Proofs.YtckjigbhdndgdaaW.PrintMore Go.Proofs.Ytckjigbhdndgdaa.PBits Go.Proofs.Ytckjigbhdndgdaa.PReader Go.Proofs.Ytckjigbhdndgdaa.PRef
/-- An object's own step: of what was there its block and its row alone turn; its row stays, or is new. -/
structure Moved (g : Nat) (w : World) (v : Value) (w' : World) (v' : Value) : Prop where
  mine : Mine (fun k => k = g ∨ v.ownBlock = some k) w w'
  own : v'.ownBlock = v.ownBlock ∨ ∃ k, v'.ownBlock = some k ∧ w.heap.size ≤ k
theorem Moved.to_below {g B : Nat} {w0 w w1 : World} {v v1 : Value} (h : Moved g w v w1 v1) (hb : Below B w0 w) (hB : B ≤ w.heap.size) (hg : B ≤ g) (hv : ∀ k, v.ownBlock = some k → B ≤ k) : Below B w0 w1 :=
  Mine.to_below h.mine hb hB (fun k hk => by rcases hk with rfl | hk; exact hg; exact hv k hk)
/-- What an object stands on: its block and its row. -/
def foot (g : Nat) (v : Value) (k : Nat) : Prop := k = g ∨ v.ownBlock = some k
/-- Two objects stand apart. -/
def Apart (g1 : Nat) (v1 : Value) (g2 : Nat) (v2 : Value) : Prop := ∀ k, foot g1 v1 k → ¬ foot g2 v2 k
theorem Apart.symm {g1 g2 : Nat} {v1 v2 : Value} (h : Apart g1 v1 g2 v2) : Apart g2 v2 g1 v1 := fun k h1 h2 => h k h2 h1
theorem Apart.moved {g1 g2 : Nat} {v1 v2 v3 : Value} {w w' : World} (h : Apart g1 v1 g2 v2) (hl : ∀ k, foot g1 v1 k → k < w.heap.size) (hm : Moved g2 w v2 w' v3) : Apart g1 v1 g2 v3 := by
  intro k h1 h2
  rcases h2 with h2 | h2
  · exact h k h1 (Or.inl h2)
  · rcases hm.own with h3 | ⟨k', h3, h4⟩
    · exact h k h1 (Or.inr (h3.symm.trans h2))
    · rw [h3] at h2; injection h2 with h2; have := hl k h1; omega
theorem Moved.keep {g1 g2 : Nat} {v1 v2 v3 : Value} {w w' : World} (h : Apart g1 v1 g2 v2) (hm : Moved g2 w v2 w' v3) : ¬ (g1 = g2 ∨ v2.ownBlock = some g1) ∧ ∀ k, v1.ownBlock = some k → ¬ (k = g2 ∨ v2.ownBlock = some k) :=
  ⟨fun hk => h g1 (Or.inl rfl) hk, fun k hk h2 => h k (Or.inr hk) h2⟩
theorem StAt.lt {w : World} {B g seed : Nat} {T : ByteArray} {n : Int} {v : Value} (h : StAt w B g seed T n v) : ∀ k, foot g v k → k < w.heap.size := fun k hk => by
  rcases hk with rfl | hk
  · exact blk_lt h.blk
  · exact (h.own.lt k hk).2
theorem StAt.ge {w : World} {B g seed : Nat} {T : ByteArray} {n : Int} {v : Value} (h : StAt w B g seed T n v) : ∀ k, v.ownBlock = some k → B ≤ k := fun k hk => (h.own.lt k hk).1
theorem StAt.other {w w' : World} {B g seed g2 : Nat} {T : ByteArray} {n : Int} {v v2 v3 : Value} (h : StAt w B g seed T n v) (ha : Apart g v g2 v2) (hm : Moved g2 w v2 w' v3) : StAt w' B g seed T n v :=
  ⟨blk_mine h.blk hm.mine (Moved.keep ha hm).1, own_mine h.own hm.mine (Moved.keep ha hm).2, h.far⟩
/-- Writing, in these words. -/
theorem state_Write.of (seed : Nat) (T s : ByteArray) (v : Value) (B g : Nat) (w : World) (hS : StAt w B g seed T (T.size : Int) v) (hB : B ≤ w.heap.size) (hg : B ≤ g) (hsz : T.size + s.size ≤ 1000000000) :
    Calls Try.prog 20 #[.pointer (some ⟨g, 0, none⟩), .string s] w fun e w' => e = .returned (.tuple #[]) ∧ ∃ v', StAt w' B g seed (T ++ s) ((T ++ s).size : Int) v' ∧ Moved g w v w' v' :=
  (state_Write.calls seed T s v B g w ⟨hS⟩ ⟨hB⟩ ⟨hg⟩ ⟨hsz⟩).mono (fun e w' ⟨h1, v', h2, h3, h4⟩ => ⟨h1, v', h2, h3, h4⟩)
theorem apart_new {w w1 : World} (h : w.heap.size < w1.heap.size) : Apart w.heap.size (.slice none 0 0) w1.heap.size (.slice none 0 0) := by
  intro k h1 h2
  rcases h1 with h1 | h1
  · rcases h2 with h2 | h2
    · omega
    · simp [Value.ownBlock] at h2
  · simp [Value.ownBlock] at h1
end Go.Proofs.Ytckjigbhdndgdaa
