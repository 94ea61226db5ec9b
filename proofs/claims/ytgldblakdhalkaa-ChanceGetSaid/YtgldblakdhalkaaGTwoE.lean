/- Two encoders that stand apart. Conditions: as each lemma states. -/
import Derived.Test.YtgldblakdhalkaaGAsks
import Derived.Test.YtgldblakdhalkaaBack
namespace Go.Proofs.Ytgldblakdhalkaa
set_option linter.unusedVariables false
open Go.RowKit Go.Proofs.YtgldblakdhalkaaW.PrintWords Go.Proofs.YtgldblakdhalkaaW.PrintLast Go.Proofs.YtgldblakdhalkaaW.PrintMore Go.Proofs.Ytgldblakdhalkaa.PBase
theorem u8_bounds (a : Int) (h : (Lit.int .u8 a).wf = true) : 0 ≤ a ∧ a ≤ 255 := by
  simp only [Lit.wf, Bool.and_eq_true, decide_eq_true_eq] at h
  exact h
theorem u64_bounds (a : Int) (h : (Lit.int .u64 a).wf = true) : 0 ≤ a ∧ a ≤ 18446744073709551615 := by
  simp only [Lit.wf, Bool.and_eq_true, decide_eq_true_eq] at h
  exact h
theorem u16_bounds (a : Int) (h : (Lit.int .u16 a).wf = true) : 0 ≤ a ∧ a ≤ 65535 := by
  simp only [Lit.wf, Bool.and_eq_true, decide_eq_true_eq] at h
  exact h
/-- Two encoders at two states. -/
structure TwoE (w : World) (B g1 g2 : Nat) (e f : Enc) (v1 v2 : Value) : Prop where
  a : EncAt w B g1 e v1
  b : EncAt w B g2 f v2
  ab : Apart g1 v1 g2 v2
theorem TwoE.drew {w : World} {B g1 g2 : Nat} {e f : Enc} {v1 v2 : Value} (h : TwoE w B g1 g2 e f v1 v2) : TwoE w.drew B g1 g2 e f v1 v2 := ⟨h.a.drew, h.b.drew, h.ab⟩
theorem TwoE.first {w w' : World} {B g1 g2 : Nat} {e f e' : Enc} {v1 v2 v3 : Value} (h : TwoE w B g1 g2 e f v1 v2) (hs : EncAt w' B g1 e' v3) (hm : Moved g1 w v1 w' v3) : TwoE w' B g1 g2 e' f v3 v2 :=
  ⟨hs, h.b.other h.ab.symm hm, (h.ab.symm.moved h.b.lt2 hm).symm⟩
theorem TwoE.second {w w' : World} {B g1 g2 : Nat} {e f f' : Enc} {v1 v2 v3 : Value} (h : TwoE w B g1 g2 e f v1 v2) (hs : EncAt w' B g2 f' v3) (hm : Moved g2 w v2 w' v3) : TwoE w' B g1 g2 e f' v1 v3 :=
  ⟨h.a.other h.ab hm, hs, h.ab.moved h.a.lt2 hm⟩
theorem TwoE.below {w w' : World} {B g1 g2 : Nat} {e f : Enc} {v1 v2 : Value} (h : TwoE w B g1 g2 e f v1 v2) (hb : Below w.heap.size w w') : TwoE w' B g1 g2 e f v1 v2 := ⟨h.a.below hb, h.b.below hb, h.ab⟩
/-- What an object does that came later. -/
theorem EncAt.past {w w0 w' : World} {B g gd : Nat} {e : Enc} {v : Value} (h : EncAt w B g e v) (h0 : EncAt w0 B g e v) (hd : w0.heap.size ≤ gd) (hm : Mine (· = gd) w w') : EncAt w' B g e v :=
  h.mine hm (fun hg => by have := h0.lt2 g (Or.inl rfl); omega) (fun k hk hg => by have := h0.lt2 k (Or.inr hk); omega)
theorem TwoE.past {w w0 w' : World} {B g1 g2 gd : Nat} {e f : Enc} {v1 v2 : Value} (h : TwoE w B g1 g2 e f v1 v2) (h0 : TwoE w0 B g1 g2 e f v1 v2) (hd : w0.heap.size ≤ gd) (hm : Mine (· = gd) w w') : TwoE w' B g1 g2 e f v1 v2 :=
  ⟨h.a.past h0.a hd hm, h.b.past h0.b hd hm, h.ab⟩
/-- Two encoders that are new. -/
theorem TwoE.made {W w1 w2 : World} {g1 g2 : Nat} {v1 v2 : Value} (hS : EncAt w1 W.heap.size g1 Enc.new v1) (hb1 : Below W.heap.size W w1) (hT : EncAt w2 w1.heap.size g2 Enc.new v2) (hg : w1.heap.size ≤ g2) (hb : Below w1.heap.size w1 w2) : TwoE w2 W.heap.size g1 g2 Enc.new Enc.new v1 v2 := by
  refine ⟨hS.below hb, ⟨hT.blk, own_base hT.own hb1.size, hT.far⟩, ?_⟩
  intro k h1 h2
  have h3 := hS.lt2 k h1
  rcases h2 with h2 | h2
  · omega
  · have := hT.ge k h2; omega
theorem lenN_nat (k : Nat) (h : k ≤ 64) : lenN (k : Int) = k := by
  unfold lenN mx mn
  split <;> split <;> omega
end Go.Proofs.Ytgldblakdhalkaa
