/- A slice of asks among the arguments, opened. Conditions: as stated. -/
import Derived.Test.YtgldblakdhalkaaGAsks
import Derived.Deep.Slices
import Derived.ChangeArms
namespace Go.Proofs.Ytgldblakdhalkaa
set_option linter.unusedVariables false
open Go.RowKit Go.ChangeShapes
theorem cells44 : Try.prog.cellsOf 44 = 4 := by kernel_rfl
theorem cells3 : Try.prog.cellsOf 3 = 1 := by kernel_rfl
theorem cells42 : Try.prog.cellsOf 42 = 1 := by kernel_rfl
theorem one_of {cs : List Value} {j : Nat} {v : Value} (h : (cs.drop j).take 1 = [v]) : cs[j]? = some v := by
  have h2 : ((cs.drop j).take 1)[0]? = some v := by rw [h]; rfl
  rw [List.getElem?_take, if_pos (by decide), List.getElem?_drop, Nat.add_zero] at h2
  exact h2
theorem open_asks {H : Type} {enc : TypeId × Value → H} {W : World} {base : Nat} {spare : Nat → Bool} {held : Bool} {A : Option Addr} {len cap : Nat} {d : DataW H} {p : List MemPlace} (h : DataW.Trod enc Try.prog W base spare held 37 (.slice A len cap) d p) : IsAsks W A len := by
  obtain ⟨fuel, hf⟩ := h
  rcases Go.Deep.open_slice Try.underlying37 hf with ⟨hcs, _⟩ | ⟨x, l, c, m, n, D, Pl, hcs, hb, hl, hm, hmm, hx, hi⟩
  · simp [Value.cells] at hcs
    obtain ⟨rfl, rfl, rfl⟩ := hcs
    intro i hi
    omega
  · simp [Value.cells] at hcs
    obtain ⟨rfl, rfl, rfl⟩ := hcs
    intro i hil
    obtain ⟨cs', hc, ht⟩ := hi i (by rw [hmm]; split <;> omega)
    rw [cells44] at hc
    obtain ⟨ys, n', _, hy, hlen, hyl, hfld⟩ := DataW.trod_struct Try.underlying44 ht
    obtain ⟨_, hcl, hat⟩ := World.cells?_some hc
    have hy4 : ys.length = 4 := hyl
    have f0 : DataW.trod enc Try.prog W base spare held n' 3 ((cs'.drop 0).take (Try.prog.cellsOf 3)) = ys[0]? := hfld 0 _ rfl
    rw [cells3, List.getElem?_eq_getElem (by omega)] at f0
    have f1 : DataW.trod enc Try.prog W base spare held n' 3 ((cs'.drop 1).take (Try.prog.cellsOf 3)) = ys[1]? := hfld 1 _ rfl
    rw [cells3, List.getElem?_eq_getElem (by omega)] at f1
    have f2 : DataW.trod enc Try.prog W base spare held n' 3 ((cs'.drop 2).take (Try.prog.cellsOf 3)) = ys[2]? := hfld 2 _ rfl
    rw [cells3, List.getElem?_eq_getElem (by omega)] at f2
    have f3 : DataW.trod enc Try.prog W base spare held n' 42 ((cs'.drop 3).take (Try.prog.cellsOf 42)) = ys[3]? := hfld 3 _ rfl
    rw [cells42, List.getElem?_eq_getElem (by omega)] at f3
    obtain ⟨p, hp, _, _⟩ := DataW.trod_int Try.underlying3 f0
    obtain ⟨b, hbb, _, _⟩ := DataW.trod_int Try.underlying3 f1
    obtain ⟨k, hk, _, _⟩ := DataW.trod_int Try.underlying3 f2
    obtain ⟨v, hv, _, hvw⟩ := DataW.trod_int Try.underlying42 f3
    simp only [Lit.wf, Bool.and_eq_true, decide_eq_true_eq] at hvw
    have hv0 : 0 ≤ v := hvw.1
    have hv1 : v ≤ 18446744073709551615 := hvw.2
    refine ⟨x, p, b, k, v.toNat, rfl, ⟨?_, ?_, ?_, ?_, by omega⟩⟩
    · exact (hat 0 (by decide)).trans (one_of hp)
    · exact (hat 1 (by decide)).trans (one_of hbb)
    · exact (hat 2 (by decide)).trans (one_of hk)
    · rw [show ((v.toNat : Nat) : Int) = v by omega]
      exact (hat 3 (by decide)).trans (one_of hv)
end Go.Proofs.Ytgldblakdhalkaa
