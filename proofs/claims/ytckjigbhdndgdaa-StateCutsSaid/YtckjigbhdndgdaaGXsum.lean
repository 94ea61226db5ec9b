/- What xxh.Sum comes to; the memory that was there stays. Conditions: as the contract states. -/
import Derived.Test.YtckjigbhdndgdaaGXxh
namespace Go.Proofs.Ytckjigbhdndgdaa
open Go.RowKit Go.Proofs.YtckjigbhdndgdaaW.PrintWords Go.Proofs.YtckjigbhdndgdaaW.PrintLast Go.Proofs.YtckjigbhdndgdaaW.PrintMore Go.Proofs.Ytckjigbhdndgdaa.PBits
/-- Four lanes behind 32 bytes. -/
def step4 (k : Nat) (s : ByteArray) (a b c d : Int) : Option (Int × Int × Int × Int) :=
  (vint_GetWord.f k s 0).bind fun g0 => (vint_GetWord.f k s 8).bind fun g1 => (vint_GetWord.f k s 16).bind fun g2 => (vint_GetWord.f k s 24).bind fun g3 =>
  (xxh_Round.f a g0.1).bind fun r0 => (xxh_Round.f b g1.1).bind fun r1 => (xxh_Round.f c g2.1).bind fun r2 => (xxh_Round.f d g3.1).bind fun r3 => some (r0, r1, r2, r3)
/-- The sum of four lanes. -/
def join4 (a b c d : Int) : Option Int :=
  (bits_RotateLeft64.f a 1).bind fun q0 => (bits_RotateLeft64.f b 7).bind fun q1 => (bits_RotateLeft64.f c 12).bind fun q2 => (bits_RotateLeft64.f d 18).bind fun q3 =>
  (xxh_Round.f 0 a).bind fun p0 => (xxh_Round.f 0 b).bind fun p1 => (xxh_Round.f 0 c).bind fun p2 => (xxh_Round.f 0 d).bind fun p3 => some (laneV (laneV (laneV (laneV (joinedV q0 q1 q2 q3) p0) p1) p2) p3)
def xxh_Sum.fin (k : Nat) (z h : Int) (s : ByteArray) : Option Int := (xxh_tail.f k (IntKind.u64.wrap (h + z)) s).bind fun t => xxh_Mix.f t
def xxh_Sum.l0 : Nat → Int → Int → Int → Int → Int → ByteArray → Option Int
  | 0, _, _, _, _, _, _ => none
  | k + 1, z, a, b, c, d, s => if 32 ≤ s.size then (step4 k s a b c d).bind fun t => xxh_Sum.l0 k z t.1 t.2.1 t.2.2.1 t.2.2.2 (s.extract 32 s.size) else (join4 a b c d).bind fun h => xxh_Sum.fin k z h s
def xxh_Sum.f (k : Nat) (a : Int) (s : ByteArray) : Option Int :=
  if s.size < 32 then xxh_Sum.fin k (s.size : Int) (IntKind.u64.wrap (a + 2870177450012600261)) s
  else xxh_Sum.l0 k (IntKind.u64.wrap (s.size : Int)) (IntKind.u64.wrap (IntKind.u64.wrap (a + 11400714785074694791) + 14029467366897019727)) (IntKind.u64.wrap (a + 14029467366897019727)) a (IntKind.u64.wrap (a - 11400714785074694791)) s
theorem step4_mono (k : Nat) (s : ByteArray) (a b c d : Int) : LeO (step4 k s a b c d) (step4 (k + 1) s a b c d) :=
  LeO.bind (vint_GetWord.mono _ _ _) (fun _ => LeO.bind (vint_GetWord.mono _ _ _) (fun _ => LeO.bind (vint_GetWord.mono _ _ _) (fun _ => LeO.bind (vint_GetWord.mono _ _ _) (fun _ => LeO.refl _))))
theorem xxh_Sum.mono_fin (k : Nat) (z h : Int) (s : ByteArray) : LeO (xxh_Sum.fin k z h s) (xxh_Sum.fin (k + 1) z h s) := LeO.bind (xxh_tail.mono _ _ _) (fun _ => LeO.refl _)
theorem xxh_Sum.mono_0 : ∀ k z a b c d s, LeO (xxh_Sum.l0 k z a b c d s) (xxh_Sum.l0 (k + 1) z a b c d s)
  | 0 => fun _ _ _ _ _ _ r h => by simp [xxh_Sum.l0] at h
  | k + 1 => by
    have ih := xxh_Sum.mono_0 k
    intro z a b c d s
    unfold xxh_Sum.l0
    exact LeO.ite (LeO.bind (step4_mono _ _ _ _ _ _) (fun _ => ih _ _ _ _ _ _)) (LeO.bind (LeO.refl _) (fun _ => xxh_Sum.mono_fin _ _ _ _))
theorem xxh_Sum.mono : ∀ a s k, LeO (xxh_Sum.f k a s) (xxh_Sum.f (k + 1) a s) := fun _ _ _ => LeO.ite (xxh_Sum.mono_fin _ _ _ _) (xxh_Sum.mono_0 _ _ _ _ _ _ _)
theorem xxh_step.of (k : Nat) (s : ByteArray) (a b c d : Int) (t : Int × Int × Int × Int) (w : World) (h : step4 k s a b c d = some t) :
    Calls Try.prog 24 #[.agg (u4 a b c d), .string s] w fun e w' => e = .returned (.agg (u4 t.1 t.2.1 t.2.2.1 t.2.2.2)) ∧ Below w.heap.size w w' := by
  unfold step4 at h
  obtain ⟨⟨n0, x0, y0⟩, A0, h⟩ := Option.bind_eq_some_iff.mp h
  obtain ⟨⟨n1, x1, y1⟩, A1, h⟩ := Option.bind_eq_some_iff.mp h
  obtain ⟨⟨n2, x2, y2⟩, A2, h⟩ := Option.bind_eq_some_iff.mp h
  obtain ⟨⟨n3, x3, y3⟩, A3, h⟩ := Option.bind_eq_some_iff.mp h
  obtain ⟨r0, B0, h⟩ := Option.bind_eq_some_iff.mp h
  obtain ⟨r1, B1, h⟩ := Option.bind_eq_some_iff.mp h
  obtain ⟨r2, B2, h⟩ := Option.bind_eq_some_iff.mp h
  obtain ⟨r3, B3, h⟩ := Option.bind_eq_some_iff.mp h
  obtain rfl := Option.some.inj h
  exact xxh_step.calls k s a b c d n0 n1 n2 n3 r0 r1 r2 r3 x0 x1 x2 x3 y0 y1 y2 y3 w ⟨A0⟩ ⟨A1⟩ ⟨A2⟩ ⟨A3⟩ ⟨B0⟩ ⟨B1⟩ ⟨B2⟩ ⟨B3⟩
theorem xxh_joined.of (a b c d r : Int) (w : World) (h : join4 a b c d = some r) :
    Calls Try.prog 25 #[.agg (u4 a b c d)] w fun e w' => e = .returned (.int .u64 r) ∧ Below w.heap.size w w' := by
  unfold join4 at h
  obtain ⟨q0, A0, h⟩ := Option.bind_eq_some_iff.mp h
  obtain ⟨q1, A1, h⟩ := Option.bind_eq_some_iff.mp h
  obtain ⟨q2, A2, h⟩ := Option.bind_eq_some_iff.mp h
  obtain ⟨q3, A3, h⟩ := Option.bind_eq_some_iff.mp h
  obtain ⟨r0, B0, h⟩ := Option.bind_eq_some_iff.mp h
  obtain ⟨r1, B1, h⟩ := Option.bind_eq_some_iff.mp h
  obtain ⟨r2, B2, h⟩ := Option.bind_eq_some_iff.mp h
  obtain ⟨r3, B3, h⟩ := Option.bind_eq_some_iff.mp h
  obtain rfl := Option.some.inj h
  exact xxh_joined.calls a b c d q0 q1 q2 q3 r0 r1 r2 r3 w ⟨A0⟩ ⟨A1⟩ ⟨A2⟩ ⟨A3⟩ ⟨B0⟩ ⟨B1⟩ ⟨B2⟩ ⟨B3⟩
attribute [local go_sem] u4
set_option maxHeartbeats 4000000 in
set_option maxRecDepth 100000 in
theorem xxh_Sum.calls (k : Nat) (a0 : Int) (a1 : ByteArray) (r : Int) (w : World) (h : xxh_Sum.f k a0 a1 = some r) :
    Calls Try.prog 12 #[.int .u64 a0, .string a1] w fun e w' => e = .returned (.int .u64 r) ∧ Below w.heap.size w w' := by
  have HB := Aside0.mk (Below.refl w.heap.size w)
  have hu := Try.underlying43
  unfold xxh_Sum.f at h
  by_cases c : a1.size < 32
  · rw [if_pos c] at h
    have ca : decide (a1.size < 32) = true := decide_eq_true c
    have cb : decide ((a1.size : Int) < 32) = true := decide_eq_true (by omega)
    obtain ⟨tt, A1, h⟩ := Option.bind_eq_some_iff.mp h
    have A1 := Aside0.mk A1
    have A2 := Aside0.mk h
    clear h
    go_enter Try.func12, Try.ntmps12
    go_wp2_with (first | (go_at_call 26; with_reducible refine (xxh_tail.calls k _ a1 tt _ A1.out).mono ?_; rintro e w1 ⟨rfl, hb⟩; have HB1 := Aside0.mk (below_step HB.out hb); clear HB hb; have HB := HB1; clear HB1) | (go_at_call 16; with_reducible refine (xxh_Mix.calls tt r _ A2.out).mono ?_; rintro e w2 ⟨rfl, hd⟩; have HB1 := Aside0.mk (below_step HB.out hd.below); clear HB hd; have HB := HB1; clear HB1))
    go_ret
    exact ⟨rfl, HB.out⟩
  · rw [if_neg c] at h
    have ca : decide (a1.size < 32) = false := decide_eq_false c
    have cb : decide ((a1.size : Int) < 32) = false := decide_eq_false (by omega)
    have H' := Aside0.mk h
    clear h
    go_enter Try.func12, Try.ntmps12
    go_wp2_with (go_at_call 23; refine (xxh_begun.calls a0 _).mono ?_; rintro e w1 ⟨rfl, hb⟩; have HB1 := Aside0.mk (below_step HB.out hb); clear HB hb)
    have BA : Aside0 ((w1.alloc (Obj.cells #[Value.int IntKind.u64 (IntKind.u64.wrap (IntKind.u64.wrap (a0 + 11400714785074694791) + 14029467366897019727)), Value.int IntKind.u64 (IntKind.u64.wrap (a0 + 14029467366897019727)), Value.int IntKind.u64 a0, Value.int IntKind.u64 (IntKind.u64.wrap (a0 - 11400714785074694791))] 43)).heap[w1.heap.size]? = some (.cells #[Value.int IntKind.u64 (IntKind.u64.wrap (IntKind.u64.wrap (a0 + 11400714785074694791) + 14029467366897019727)), Value.int IntKind.u64 (IntKind.u64.wrap (a0 + 14029467366897019727)), Value.int IntKind.u64 a0, Value.int IntKind.u64 (IntKind.u64.wrap (a0 - 11400714785074694791))] 43 (0, 0))) := ⟨blk_new _ _⟩
    have HB : Aside0 (Below w.heap.size w (w1.alloc (Obj.cells #[Value.int IntKind.u64 (IntKind.u64.wrap (IntKind.u64.wrap (a0 + 11400714785074694791) + 14029467366897019727)), Value.int IntKind.u64 (IntKind.u64.wrap (a0 + 14029467366897019727)), Value.int IntKind.u64 a0, Value.int IntKind.u64 (IntKind.u64.wrap (a0 - 11400714785074694791))] 43))) := ⟨below_alloc HB1.out _⟩
    have hgg : Aside0 (w.heap.size ≤ w1.heap.size) := ⟨HB1.out.size⟩
    clear HB1
    generalize w1.alloc (Obj.cells #[Value.int IntKind.u64 (IntKind.u64.wrap (IntKind.u64.wrap (a0 + 11400714785074694791) + 14029467366897019727)), Value.int IntKind.u64 (IntKind.u64.wrap (a0 + 14029467366897019727)), Value.int IntKind.u64 a0, Value.int IntKind.u64 (IntKind.u64.wrap (a0 - 11400714785074694791))] 43) = W at *
    generalize w1.heap.size = g at *
    generalize IntKind.u64.wrap (a1.size : Int) = z at *
    have BA1 : Aside0 (W.heap[g]? = some (.cells (u4 (IntKind.u64.wrap (IntKind.u64.wrap (a0 + 11400714785074694791) + 14029467366897019727)) (IntKind.u64.wrap (a0 + 14029467366897019727)) a0 (IntKind.u64.wrap (a0 - 11400714785074694791))) 43 (0, 0))) := BA
    clear BA
    go_loopg [1] k (fun kq v1 w' => ∃ (a b c d : Int) (s : ByteArray), v1 = .string s ∧ Aside0 (xxh_Sum.l0 kq z a b c d s = some r) ∧ Aside0 (kq ≤ k) ∧ Aside0 (w'.heap[g]? = some (.cells (u4 a b c d) 43 (0, 0))) ∧ Aside0 (Below w.heap.size w w'))
    case atStart => exact ⟨_, _, _, _, _, rfl, H', ⟨Nat.le_refl _⟩, BA1, HB⟩
    case round =>
      clear H' HB BA1
      obtain ⟨a, b, c, d, s, rfl, HA, HK1, BA, HB⟩ := hrel
      cases gk with
      | zero => exact absurd HA.out (by simp [xxh_Sum.l0])
      | succ k1 =>
        have H := HA.out
        clear HA
        simp only [xxh_Sum.l0] at H
        have hc0 : wr.cell? ⟨g, 0, none⟩ = some (.int .u64 a) := blk_cell BA.out 0
        have hc1 : wr.cell? ⟨g, 1, none⟩ = some (.int .u64 b) := blk_cell BA.out 1
        have hc2 : wr.cell? ⟨g, 2, none⟩ = some (.int .u64 c) := blk_cell BA.out 2
        have hc3 : wr.cell? ⟨g, 3, none⟩ = some (.int .u64 d) := blk_cell BA.out 3
        by_cases c8 : 32 ≤ s.size
        · rw [if_pos c8] at H
          obtain ⟨⟨r0, r1, r2, r3⟩, A0, H⟩ := Option.bind_eq_some_iff.mp H
          have B0 := Aside0.mk A0
          have H' := Aside0.mk H
          clear H A0
          have c8a : decide ((s.size : Int) ≥ 32) = true := decide_eq_true (by omega)
          have c8b : decide (32 ≤ s.size) = true := decide_eq_true c8
          have c8c := eq_true (show (32 : Int) ≤ (s.size : Int) by omega)
          go_wp2_with (go_at_call 24; refine (xxh_step.of k1 s a b c d (r0, r1, r2, r3) _ B0.out).mono ?_; rintro e w2 ⟨rfl, hb⟩; have HB1 := Aside0.mk (below_step HB.out hb); have BA1 := Aside0.mk (blk_below BA.out hb); clear HB BA hb hc0 hc1 hc2 hc3; have hc0 : w2.cell? ⟨g, 0, none⟩ = some (.int .u64 a) := blk_cell BA1.out 0; have hc1 : w2.cell? ⟨g, 1, none⟩ = some (.int .u64 b) := blk_cell BA1.out 1; have hc2 : w2.cell? ⟨g, 2, none⟩ = some (.int .u64 c) := blk_cell BA1.out 2; have hc3 : w2.cell? ⟨g, 3, none⟩ = some (.int .u64 d) := blk_cell BA1.out 3; have hf0 := blk_frozen BA1.out 0; have hf1 := blk_frozen BA1.out 1; have hf2 := blk_frozen BA1.out 2; have hf3 := blk_frozen BA1.out 3)
          go_roundg k1
          case measure => have := HK1.out; omega
          case rel => exact ⟨_, _, _, _, _, rfl, H', ⟨by have := HK1.out; omega⟩, ⟨blk_put (cs := u4 r0 r1 r2 d) (blk_put (cs := u4 r0 r1 c d) (blk_put (cs := u4 r0 b c d) (blk_put BA1.out 0 _ rfl) 1 _ rfl) 2 _ rfl) 3 _ rfl⟩, ⟨below_set (below_set (below_set (below_set HB1.out hgg.out) hgg.out) hgg.out) hgg.out⟩⟩
        · rw [if_neg c8] at H
          have c8a : decide ((s.size : Int) ≥ 32) = false := decide_eq_false (by omega)
          have c8b : decide (32 ≤ s.size) = false := decide_eq_false c8
          obtain ⟨hh, A0, H⟩ := Option.bind_eq_some_iff.mp H
          obtain ⟨tt, A1, H⟩ := Option.bind_eq_some_iff.mp H
          have A0 := Aside0.mk A0
          have A1 := Aside0.mk A1
          have A2 := Aside0.mk H
          clear H
          go_wp2_with (first | (go_at_call 25; refine (xxh_joined.of a b c d hh _ A0.out).mono ?_; rintro e w1 ⟨rfl, hb⟩; have HB1 := Aside0.mk (below_step HB.out hb); clear HB hb; have HB := HB1; clear HB1) | (first | (go_at_call 26; with_reducible refine (xxh_tail.calls k1 _ s tt _ A1.out).mono ?_; rintro e w1 ⟨rfl, hb⟩; have HB1 := Aside0.mk (below_step HB.out hb); clear HB hb; have HB := HB1; clear HB1) | (go_at_call 16; with_reducible refine (xxh_Mix.calls tt r _ A2.out).mono ?_; rintro e w2 ⟨rfl, hd⟩; have HB1 := Aside0.mk (below_step HB.out hd.below); clear HB hd; have HB := HB1; clear HB1)))
          go_ret
          exact ⟨rfl, HB.out⟩
end Go.Proofs.Ytckjigbhdndgdaa
