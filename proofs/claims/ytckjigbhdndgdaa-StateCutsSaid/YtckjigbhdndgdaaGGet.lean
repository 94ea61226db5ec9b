/- vint.GetWord comes to what its reader comes to behind the place asked for; the memory that was there stays. Conditions: as each contract states. -/
import Derived.Test.YtckjigbhdndgdaaPReaderx1
namespace Go.Proofs.Ytckjigbhdndgdaa
open Go.RowKit Go.Proofs.YtckjigbhdndgdaaW.PrintWords Go.Proofs.YtckjigbhdndgdaaW.PrintLast Go.Proofs.YtckjigbhdndgdaaW.PrintMore
open Go.Proofs.Ytckjigbhdndgdaa.PReader
/-- What 'read' answers, by what the reader answers. -/
def vint_read.ans (a1 : Int) (t : Int × Int × Int) : Int × Int × Int := if t.2.2 = 0 then (t.1, wrap64 (a1 + t.2.1), 0) else (0, 0, t.2.2)
def vint_GetWord.f (k : Nat) (a0 : ByteArray) (a1 : Int) : Option (Int × Int × Int) :=
  if a1 < 0 then some (0, 0, 1) else if a1 > (a0.size : Int) then some (0, 0, 1) else
  (vint_reader_word.f k (a0.extract a1.toNat a0.size)).bind fun t => some (vint_read.ans a1 t)
set_option maxHeartbeats 1000000 in
set_option maxRecDepth 100000 in
theorem vint_read.GetWord (k : Nat) (a0 : ByteArray) (a1 : Int) (r1 : Int) (r2 : Int) (r3 : Int) (w : World) (h : vint_GetWord.f k a0 a1 = some (r1, r2, r3)) :
    Calls Try.prog 33 #[.string a0, .int .i64 a1, .func (Fn.func 34) #[] #[]] w fun e w' => e = .returned (.tuple #[.int .u64 r1, .int .i64 r2, .int .i64 r3]) ∧ Below w.heap.size w w' := by
  unfold vint_GetWord.f at h
  by_cases c1 : a1 < 0
  · rw [if_pos c1] at h
    obtain ⟨rfl, rfl, rfl⟩ : 0 = r1 ∧ 0 = r2 ∧ 1 = r3 := by simpa using h
    clear h
    have c1b : decide (a1 < 0) = true := decide_eq_true c1
    clear c1
    go_enter Try.func33, Try.ntmps33
    go_wp2
    go_ret3
    exact ⟨rfl, Below.refl _ _⟩
  · rw [if_neg c1] at h
    have c1b : decide (a1 < 0) = false := decide_eq_false c1
    by_cases c2 : a1 > (a0.size : Int)
    · rw [if_pos c2] at h
      obtain ⟨rfl, rfl, rfl⟩ : 0 = r1 ∧ 0 = r2 ∧ 1 = r3 := by simpa using h
      clear h
      have c2b : decide ((a0.size : Int) < a1) = true := decide_eq_true c2
      clear c1 c2
      go_enter Try.func33, Try.ntmps33
      go_wp2
      go_ret3
      exact ⟨rfl, Below.refl _ _⟩
    · rw [if_neg c2] at h
      have c2b : decide ((a0.size : Int) < a1) = false := decide_eq_false c2
      obtain ⟨t, ht, he⟩ := Option.bind_eq_some_iff.1 h
      obtain ⟨n, size, e⟩ := t
      clear h
      have HT := Aside0.mk ht
      clear ht
      have HE := Aside0.mk (Option.some.inj he)
      clear he
      have hlo : 0 ≤ a1 := by omega
      have hhi : a1 ≤ (a0.size : Int) := by omega
      by_cases c3 : e = 0
      · subst c3
        go_enter Try.func33, Try.ntmps33
        go_wp2_with (first | (go_at_call 34; refine (vint_reader_word.calls k _ n size 0 _ HT.out).mono ?_; rintro e w' ⟨rfl, hb⟩) | go_in)
        go_ret3
        refine ⟨?_, by assumption⟩
        have E := HE.out
        simp only [vint_read.ans, if_true] at E
        injection E with E1 E2
        injection E2 with E2 E3
        subst E1 E2 E3
        rfl
      · have c3b : (e != 0) = true := bne_iff_ne.2 c3
        go_enter Try.func33, Try.ntmps33
        go_wp2_with (first | (go_at_call 34; refine (vint_reader_word.calls k _ n size e _ HT.out).mono ?_; rintro e w' ⟨rfl, hb⟩) | go_in)
        go_ret3
        refine ⟨?_, by assumption⟩
        have E := HE.out
        simp only [vint_read.ans, if_neg c3] at E
        injection E with E1 E2
        injection E2 with E2 E3
        subst E1 E2 E3
        rfl
set_option maxHeartbeats 1000000 in
set_option maxRecDepth 100000 in
theorem vint_GetWord.calls (k : Nat) (a0 : ByteArray) (a1 : Int) (r1 : Int) (r2 : Int) (r3 : Int) (w : World) (h : vint_GetWord.f k a0 a1 = some (r1, r2, r3)) :
    Calls Try.prog 32 #[.string a0, .int .i64 a1] w fun e w' => e = .returned (.tuple #[.int .u64 r1, .int .i64 r2, .int .i64 r3]) ∧ Below w.heap.size w w' := by
  have H := Aside0.mk h
  clear h
  go_enter Try.func32, Try.ntmps32
  go_wp2_with (go_at_call 33; refine (vint_read.GetWord k a0 a1 r1 r2 r3 _ H.out).mono ?_; rintro e w' ⟨rfl, hb⟩)
  go_ret3
  exact ⟨rfl, by assumption⟩
theorem vint_GetWord.mono : ∀ a0 a1 k, LeO (vint_GetWord.f k a0 a1) (vint_GetWord.f (k + 1) a0 a1) := by
  intro a0 a1 k
  unfold vint_GetWord.f
  exact LeO.ite (LeO.refl _) (LeO.ite (LeO.refl _) (LeO.bind (vint_reader_word.mono _ _) (fun _ => LeO.refl _)))
end Go.Proofs.Ytckjigbhdndgdaa
