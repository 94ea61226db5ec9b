/- What xxh's inner functions and Sum come to; the memory that was there stays. Conditions: as each contract states. -/
import Derived.Test.YtckjigbhdndgdaaPBitsx1
import Derived.Test.YtckjigbhdndgdaaGGet
import Derived.WalkLawsBesides
import Derived.LoopN
import Derived.Lib.ConvBytes
import Derived.KernelRfl
namespace Go.Proofs.Ytckjigbhdndgdaa
open Go.RowKit Go.Proofs.YtckjigbhdndgdaaW.PrintWords Go.Proofs.YtckjigbhdndgdaaW.PrintLast Go.Proofs.YtckjigbhdndgdaaW.PrintMore Go.Proofs.Ytckjigbhdndgdaa.PBits
/-- Four numbers, as an array's cells. -/
def u4 (a b c d : Int) : Array Value := #[.int .u64 a, .int .u64 b, .int .u64 c, .int .u64 d]
set_option maxHeartbeats 2000000 in
set_option maxRecDepth 100000 in
theorem xxh_begun.calls (a : Int) (w : World) :
    Calls Try.prog 23 #[.int .u64 a] w fun e w' => e = .returned (.agg (u4 (IntKind.u64.wrap (IntKind.u64.wrap (a + 11400714785074694791) + 14029467366897019727)) (IntKind.u64.wrap (a + 14029467366897019727)) a (IntKind.u64.wrap (a - 11400714785074694791)))) ∧ Below w.heap.size w w' := by
  have hu := Try.underlying43
  go_enter Try.func23, Try.ntmps23
  go_wp2
  refine bodyPost_ret (results_cell_row rfl _ _ w.heap.size 43 _ (0, 0) _ rfl (heap_alloc_new _ _) Try.underlying43 rfl (by kernel_rfl)) rfl ?_
  exact ⟨rfl, (Below.refl _ _).alloc (Nat.le_refl _) _⟩
/-- The number of four bytes, as the code lays it together. -/
abbrev fourV (a b c d : Int) : Int := Go.bits .or .u64 (Go.bits .or .u64 (Go.bits .or .u64 (IntKind.u64.wrap a) (IntKind.u64.wrap (IntKind.u64.wrap b * 256))) (IntKind.u64.wrap (IntKind.u64.wrap c * 65536))) (IntKind.u64.wrap (IntKind.u64.wrap d * 16777216))
def xxh_tail.l1 : Nat → Int → ByteArray → Int → Option Int
  | 0, _, _, _ => none
  | k + 1, h, s, i => if i < (s.size : Int) then (bits_RotateLeft64.f (Go.bits .xor .u64 h (IntKind.u64.wrap (IntKind.u64.wrap (bt s i) * 2870177450012600261))) 11).bind fun t => xxh_tail.l1 k (IntKind.u64.wrap (t * 11400714785074694791)) s (i + 1) else some h
def xxh_tail.l0 : Nat → Int → ByteArray → Option Int
  | 0, _, _ => none
  | k + 1, h, s => if 8 ≤ s.size then (vint_GetWord.f k s 0).bind fun g => (xxh_Round.f 0 g.1).bind fun r => (bits_RotateLeft64.f (Go.bits .xor .u64 h r) 27).bind fun t => xxh_tail.l0 k (IntKind.u64.wrap (IntKind.u64.wrap (t * 11400714785074694791) + 9650029242287828579)) (s.extract 8 s.size)
    else if 4 ≤ s.size then (bits_RotateLeft64.f (Go.bits .xor .u64 h (IntKind.u64.wrap (fourV (bt s 0) (bt s 1) (bt s 2) (bt s 3) * 11400714785074694791))) 23).bind fun t => xxh_tail.l1 k (IntKind.u64.wrap (IntKind.u64.wrap (t * 14029467366897019727) + 1609587929392839161)) (s.extract 4 s.size) 0
    else xxh_tail.l1 k h s 0
def xxh_tail.f (k : Nat) (h : Int) (s : ByteArray) : Option Int := xxh_tail.l0 k h s
theorem xxh_tail.mono_1 : ∀ k h s i, LeO (xxh_tail.l1 k h s i) (xxh_tail.l1 (k + 1) h s i)
  | 0 => fun _ _ _ r h => by simp [xxh_tail.l1] at h
  | k + 1 => by
    have ih := xxh_tail.mono_1 k
    intro h s i
    unfold xxh_tail.l1
    exact LeO.ite (LeO.bind (LeO.refl _) (fun _ => ih _ _ _)) (LeO.refl _)
theorem xxh_tail.mono_0 : ∀ k h s, LeO (xxh_tail.l0 k h s) (xxh_tail.l0 (k + 1) h s)
  | 0 => fun _ _ r h => by simp [xxh_tail.l0] at h
  | k + 1 => by
    have ih := xxh_tail.mono_0 k
    have ih1 := xxh_tail.mono_1 k
    intro h s
    unfold xxh_tail.l0
    exact LeO.ite (LeO.bind (vint_GetWord.mono _ _ _) (fun _ => LeO.bind (LeO.refl _) (fun _ => LeO.bind (LeO.refl _) (fun _ => ih _ _)))) (LeO.ite (LeO.bind (LeO.refl _) (fun _ => ih1 _ _ _)) (ih1 _ _ _))
theorem xxh_tail.mono : ∀ h s k, LeO (xxh_tail.f k h s) (xxh_tail.f (k + 1) h s) := fun h s k => xxh_tail.mono_0 k h s
/-- Where the bytes of a string stand behind '[]byte(s)'. -/
theorem bytes_cell (w : World) (s : ByteArray) (i : Int) (h0 : 0 ≤ i) (h1 : i < (s.size : Int)) : (Lib.bytesWorld w 5 s).cell? ⟨w.heap.size, i.toNat, none⟩ = some (.int .u8 (bt s i)) := by
  have hi : i.toNat < s.size := by omega
  rw [Lib.bytesWorld_cell w 5 s i.toNat hi, ← bt_at s i hi]
  congr 2
  rw [List.getD_eq_getElem?_getD, List.getElem?_eq_getElem (by rw [Array.length_toList]; exact hi)]
  rfl
set_option maxHeartbeats 4000000 in
set_option maxRecDepth 100000 in
theorem xxh_tail.calls (k : Nat) (a0 : Int) (a1 : ByteArray) (r : Int) (w : World) (h : xxh_tail.f k a0 a1 = some r) :
    Calls Try.prog 26 #[.int .u64 a0, .string a1] w fun e w' => e = .returned (.int .u64 r) ∧ Below w.heap.size w w' := by
  have HB := Aside0.mk (Below.refl w.heap.size w)
  have H' := Aside0.mk h
  clear h
  go_enter Try.func26, Try.ntmps26
  go_wp2
  go_loopg [0, 1] k (fun kq v0 v1 w' => ∃ (x0 : Int) (x1 : ByteArray), v0 = .int .u64 x0 ∧ v1 = .string x1 ∧ Aside0 (xxh_tail.l0 kq x0 x1 = some r) ∧ Aside0 (kq ≤ k) ∧ Aside0 (Below w.heap.size w w'))
  case atStart => exact ⟨_, _, rfl, rfl, H', ⟨Nat.le_refl _⟩, HB⟩
  case round =>
    clear H' HB
    obtain ⟨x0, x1, rfl, rfl, HA, HK1, HB⟩ := hrel
    cases gk with
    | zero => exact absurd HA.out (by simp [xxh_tail.l0])
    | succ k1 =>
      have H := HA.out
      clear HA
      simp only [xxh_tail.l0] at H
      by_cases c8 : 8 ≤ x1.size
      · rw [if_pos c8] at H
        obtain ⟨⟨n, x, y⟩, A0, H⟩ := Option.bind_eq_some_iff.mp H
        obtain ⟨r1, A1, H⟩ := Option.bind_eq_some_iff.mp H
        obtain ⟨t, A2, H⟩ := Option.bind_eq_some_iff.mp H
        have B0 := Aside0.mk A0
        have B1 := Aside0.mk A1
        have B2 := Aside0.mk A2
        have H' := Aside0.mk H
        clear H A0 A1 A2
        have c8a : decide ((x1.size : Int) ≥ 8) = true := decide_eq_true (by omega)
        have c8b : decide (8 ≤ x1.size) = true := decide_eq_true c8
        have c8c : (8 : Int) ≤ (x1.size : Int) := by omega
        go_wp2_with (first | (go_at_call 32; refine (vint_GetWord.calls k1 x1 0 n x y _ B0.out).mono ?_; rintro e w1 ⟨rfl, hb⟩; have HB1 := Aside0.mk (below_step HB.out hb); clear HB hb; have HB := HB1; clear HB1) | (go_at_call 14; refine (xxh_Round.calls 0 n r1 _ B1.out).mono ?_; rintro e w2 ⟨rfl, hd⟩; have hb := hd.below; have HB1 := Aside0.mk (below_step HB.out hb); clear HB hb hd; have HB := HB1; clear HB1) | (go_at_call 29; refine (bits_RotateLeft64.calls (Go.bits .xor .u64 x0 r1) 27 t _ B2.out).mono ?_; rintro e w3 ⟨rfl, hd⟩; have hb := hd.below; have HB1 := Aside0.mk (below_step HB.out hb); clear HB hb hd; have HB := HB1; clear HB1))
        go_roundg k1
        case measure => have := HK1.out; omega
        case rel => exact ⟨_, _, rfl, rfl, H', ⟨by have := HK1.out; omega⟩, HB⟩
      · rw [if_neg c8] at H
        have c8a : decide ((x1.size : Int) ≥ 8) = false := decide_eq_false (by omega)
        have c8b : decide (8 ≤ x1.size) = false := decide_eq_false c8
        by_cases c4 : 4 ≤ x1.size
        · rw [if_pos c4] at H
          obtain ⟨t, A2, H⟩ := Option.bind_eq_some_iff.mp H
          have B2 := Aside0.mk A2
          have H' := Aside0.mk H
          clear H A2
          have c4a : decide (4 ≤ (x1.size : Int)) = true := decide_eq_true (by omega)
          have c4b : decide (4 ≤ x1.size) = true := decide_eq_true c4
          have c4c := eq_true (show (4 : Int) ≤ (x1.size : Int) by omega)
          have d0a : decide (0 < (x1.size : Int)) = true := decide_eq_true (by omega)
          have d0b : decide (0 < x1.size) = true := decide_eq_true (by omega)
          have q0 := eq_true (show 0 < x1.size by omega)
          have hx0 : ∀ h : 0 < x1.size, ((x1[0]'h).toNat : Int) = bt x1 0 := bt_at x1 0
          have qi0 := eq_true (show (0 : Int) < (x1.size : Int) by omega)
          have d1a : decide (1 < (x1.size : Int)) = true := decide_eq_true (by omega)
          have d1b : decide (1 < x1.size) = true := decide_eq_true (by omega)
          have q1 := eq_true (show 1 < x1.size by omega)
          have hx1 : ∀ h : 1 < x1.size, ((x1[1]'h).toNat : Int) = bt x1 1 := bt_at x1 1
          have qi1 := eq_true (show (1 : Int) < (x1.size : Int) by omega)
          have d2a : decide (2 < (x1.size : Int)) = true := decide_eq_true (by omega)
          have d2b : decide (2 < x1.size) = true := decide_eq_true (by omega)
          have q2 := eq_true (show 2 < x1.size by omega)
          have hx2 : ∀ h : 2 < x1.size, ((x1[2]'h).toNat : Int) = bt x1 2 := bt_at x1 2
          have qi2 := eq_true (show (2 : Int) < (x1.size : Int) by omega)
          have d3a : decide (3 < (x1.size : Int)) = true := decide_eq_true (by omega)
          have d3b : decide (3 < x1.size) = true := decide_eq_true (by omega)
          have q3 := eq_true (show 3 < x1.size by omega)
          have hx3 : ∀ h : 3 < x1.size, ((x1[3]'h).toNat : Int) = bt x1 3 := bt_at x1 3
          have qi3 := eq_true (show (3 : Int) < (x1.size : Int) by omega)
          go_wp2
          go_quiet (fail)
          have HBq : Aside0 (Below w.heap.size w (wr.drewN nq)) := ⟨pw_below_drewN HB.out _⟩
          clear HB
          have HB := HBq
          clear HBq
          generalize wr.drewN nq = wq at *
          go_wp2_with (go_at_call 29; (with_reducible refine (bits_RotateLeft64.calls (Go.bits .xor .u64 x0 (IntKind.u64.wrap (fourV (bt x1 0) (bt x1 1) (bt x1 2) (bt x1 3) * 11400714785074694791))) 23 t _ B2.out).mono ?_); rintro e wr2 ⟨rfl, hd⟩; have hcv := Lib.run_convert_string_bytes (P := Try.prog) wr2 9 32 5 (x1.extract 4 x1.size) Try.underlying9 Try.underlying32 Try.underlying5; have hcells : Aside0 (∀ i : Int, 0 ≤ i → i < ((x1.extract 4 x1.size).size : Int) → (Lib.bytesWorld wr2 5 (x1.extract 4 x1.size)).cell? ⟨wr2.heap.size, i.toNat, none⟩ = some (.int .u8 (bt (x1.extract 4 x1.size) i))) := ⟨fun i h0 h1 => bytes_cell wr2 _ i h0 h1⟩; have HB2 := below_step HB.out hd.below; have HB1 := Aside0.mk (bytes_below HB2 HB2.size 5 (x1.extract 4 x1.size)); clear HB HB2 hd)
          have hsz : (x1.extract 4 x1.size).size = x1.size - 4 := by rw [ByteArray.size_extract]; omega
          generalize hsv : (x1.extract 4 x1.size) = sv at *
          generalize Lib.bytesWorld wr2 5 sv = wc at *
          generalize grownCap wr2 sv.size 0 5 = cap at *
          generalize wr2.heap.size = gb at *
          go_loopg [0, 62] k1 (fun kq v0 v62 w' => ∃ (x3 : Int) (i3 : Int), v0 = .int .u64 x3 ∧ v62 = .int .i64 i3 ∧ Aside0 (0 ≤ i3) ∧ Aside0 (xxh_tail.l1 kq x3 sv i3 = some r) ∧ Aside0 (kq ≤ k1) ∧ Aside0 (∀ i : Int, 0 ≤ i → i < (sv.size : Int) → w'.cell? ⟨gb, i.toNat, none⟩ = some (.int .u8 (bt sv i))) ∧ Aside0 (Below w.heap.size w w'))
          case atStart => exact ⟨_, _, rfl, rfl, ⟨Int.le_refl _⟩, H', ⟨Nat.le_refl _⟩, hcells, HB1⟩
          case round =>
            clear H' HB1 hcells
            obtain ⟨x3, i3, rfl, rfl, HI, HA, HK3, HC, HB⟩ := hrel
            cases gk with
            | zero => exact absurd HA.out (by simp [xxh_tail.l1])
            | succ k3 =>
              have H := HA.out
              clear HA
              simp only [xxh_tail.l1] at H
              by_cases ci : i3 < (sv.size : Int)
              · rw [if_pos ci] at H
                obtain ⟨t3, A3, H⟩ := Option.bind_eq_some_iff.mp H
                have B3 := Aside0.mk A3
                have H' := Aside0.mk H
                clear H A3
                have cia : decide (i3 < (sv.size : Int)) = true := decide_eq_true ci
                have cib : decide (i3 < ((x1.size - 4 : Nat) : Int)) = true := decide_eq_true (by omega)
                have cic := eq_true (show i3 < ((x1.size - 4 : Nat) : Int) by omega)
                have hi0 : 0 ≤ i3 := HI.out
                have hcell := HC.out i3 hi0 ci
                go_wp2_with (go_at_call 29; refine (bits_RotateLeft64.calls _ 11 t3 _ B3.out).mono ?_; rintro e w3 ⟨rfl, hd⟩; have hb := hd.below; have HB1 := Aside0.mk (below_step HB.out hb); have HC1 : Aside0 (∀ i : Int, 0 ≤ i → i < (sv.size : Int) → w3.cell? ⟨gb, i.toNat, none⟩ = some (.int .u8 (bt sv i))) := ⟨by obtain ⟨nd, rfl⟩ := hd.out; exact HC.out⟩; clear HB HC hb hd; have HB := HB1; have HC := HC1; clear HB1 HC1)
                go_roundg k3
                case measure => have := HK3.out; omega
                case rel => exact ⟨_, _, rfl, rfl, ⟨by omega⟩, H', ⟨by have := HK3.out; omega⟩, HC, HB⟩
              · rw [if_neg ci] at H
                have cia : decide (i3 < (sv.size : Int)) = false := decide_eq_false ci
                have cib : decide (i3 < ((x1.size - 4 : Nat) : Int)) = false := decide_eq_false (by omega)
                have cic := eq_true (show ((x1.size - 4 : Nat) : Int) ≤ i3 by omega)
                obtain rfl := Option.some.inj H
                go_wp2
                go_ret
                exact ⟨rfl, HB.out⟩
        · rw [if_neg c4] at H
          have H' := Aside0.mk H
          clear H
          have c4a : decide ((x1.size : Int) ≥ 4) = false := decide_eq_false (by omega)
          have c4b : decide (4 ≤ x1.size) = false := decide_eq_false c4
          have hcv := Lib.run_convert_string_bytes (P := Try.prog) wr 9 32 5 x1 Try.underlying9 Try.underlying32 Try.underlying5
          have hcells : Aside0 (∀ i : Int, 0 ≤ i → i < ((x1).size : Int) → (Lib.bytesWorld wr 5 x1).cell? ⟨wr.heap.size, i.toNat, none⟩ = some (.int .u8 (bt x1 i))) := ⟨fun i h0 h1 => bytes_cell wr x1 i h0 h1⟩
          have HB1 := Aside0.mk (bytes_below HB.out HB.out.size 5 x1)
          clear HB
          go_wp2
          obtain ⟨sv, rfl⟩ : ∃ s, s = x1 := ⟨_, rfl⟩
          generalize Lib.bytesWorld wr 5 sv = wc at *
          generalize grownCap wr sv.size 0 5 = cap at *
          generalize wr.heap.size = gb at *
          go_loopg [0, 62] k1 (fun kq v0 v62 w' => ∃ (x3 : Int) (i3 : Int), v0 = .int .u64 x3 ∧ v62 = .int .i64 i3 ∧ Aside0 (0 ≤ i3) ∧ Aside0 (xxh_tail.l1 kq x3 sv i3 = some r) ∧ Aside0 (kq ≤ k1) ∧ Aside0 (∀ i : Int, 0 ≤ i → i < (sv.size : Int) → w'.cell? ⟨gb, i.toNat, none⟩ = some (.int .u8 (bt sv i))) ∧ Aside0 (Below w.heap.size w w'))
          case atStart => exact ⟨_, _, rfl, rfl, ⟨Int.le_refl _⟩, H', ⟨Nat.le_refl _⟩, hcells, HB1⟩
          case round =>
            clear H' HB1 hcells
            obtain ⟨x3, i3, rfl, rfl, HI, HA, HK3, HC, HB⟩ := hrel
            cases gk with
            | zero => exact absurd HA.out (by simp [xxh_tail.l1])
            | succ k3 =>
              have H := HA.out
              clear HA
              simp only [xxh_tail.l1] at H
              by_cases ci : i3 < (sv.size : Int)
              · rw [if_pos ci] at H
                obtain ⟨t3, A3, H⟩ := Option.bind_eq_some_iff.mp H
                have B3 := Aside0.mk A3
                have H' := Aside0.mk H
                clear H A3
                have cia : decide (i3 < (sv.size : Int)) = true := decide_eq_true ci
                have hi0 : 0 ≤ i3 := HI.out
                have hcell := HC.out i3 hi0 ci
                go_wp2_with (go_at_call 29; refine (bits_RotateLeft64.calls _ 11 t3 _ B3.out).mono ?_; rintro e w3 ⟨rfl, hd⟩; have hb := hd.below; have HB1 := Aside0.mk (below_step HB.out hb); have HC1 : Aside0 (∀ i : Int, 0 ≤ i → i < (sv.size : Int) → w3.cell? ⟨gb, i.toNat, none⟩ = some (.int .u8 (bt sv i))) := ⟨by obtain ⟨nd, rfl⟩ := hd.out; exact HC.out⟩; clear HB HC hb hd; have HB := HB1; have HC := HC1; clear HB1 HC1)
                go_roundg k3
                case measure => have := HK3.out; omega
                case rel => exact ⟨_, _, rfl, rfl, ⟨by omega⟩, H', ⟨by have := HK3.out; omega⟩, HC, HB⟩
              · rw [if_neg ci] at H
                have cia : decide (i3 < (sv.size : Int)) = false := decide_eq_false ci
                obtain rfl := Option.some.inj H
                go_wp2
                go_ret
                exact ⟨rfl, HB.out⟩
set_option maxHeartbeats 2000000 in
set_option maxRecDepth 100000 in
theorem xxh_step.calls (k : Nat) (s : ByteArray) (a b c d n0 n1 n2 n3 r0 r1 r2 r3 x0 x1 x2 x3 y0 y1 y2 y3 : Int) (w : World)
   (h0 : Aside0 (vint_GetWord.f k s 0 = some (n0, x0, y0))) (h1 : Aside0 (vint_GetWord.f k s 8 = some (n1, x1, y1))) (h2 : Aside0 (vint_GetWord.f k s 16 = some (n2, x2, y2))) (h3 : Aside0 (vint_GetWord.f k s 24 = some (n3, x3, y3)))
   (g0 : Aside0 (xxh_Round.f a n0 = some r0)) (g1 : Aside0 (xxh_Round.f b n1 = some r1)) (g2 : Aside0 (xxh_Round.f c n2 = some r2)) (g3 : Aside0 (xxh_Round.f d n3 = some r3)) :
    Calls Try.prog 24 #[.agg (u4 a b c d), .string s] w fun e w' => e = .returned (.agg (u4 r0 r1 r2 r3)) ∧ Below w.heap.size w w' := by
  have hu := Try.underlying43
  go_enter Try.func24, Try.ntmps24
  go_wp2
  have BA : Aside0 (((w.alloc (Obj.cells (u4 a b c d) 43)).alloc (Obj.cells #[Value.int IntKind.u64 0, Value.int IntKind.u64 0, Value.int IntKind.u64 0, Value.int IntKind.u64 0] 43)).heap[w.heap.size]? = some (.cells (u4 a b c d) 43 (0, 0))) := ⟨blk_alloc (blk_new _ _) _⟩
  have BB : Aside0 (((w.alloc (Obj.cells (u4 a b c d) 43)).alloc (Obj.cells #[Value.int IntKind.u64 0, Value.int IntKind.u64 0, Value.int IntKind.u64 0, Value.int IntKind.u64 0] 43)).heap[w.heap.size + 1]? = some (.cells (u4 0 0 0 0) 43 (0, 0))) := ⟨heap_alloc2_new _ _ _⟩
  have HB : Aside0 (Below w.heap.size w ((w.alloc (Obj.cells (u4 a b c d) 43)).alloc (Obj.cells #[Value.int IntKind.u64 0, Value.int IntKind.u64 0, Value.int IntKind.u64 0, Value.int IntKind.u64 0] 43))) := ⟨by repeat (first | exact Below.refl _ _ | apply below_alloc)⟩
  generalize ((w.alloc (Obj.cells (u4 a b c d) 43)).alloc (Obj.cells #[Value.int IntKind.u64 0, Value.int IntKind.u64 0, Value.int IntKind.u64 0, Value.int IntKind.u64 0] 43)) = W at *
  generalize hg0 : w.heap.size = g at BA BB ⊢
  have hgg : Aside0 (w.heap.size ≤ g) := ⟨by omega⟩
  have hgg1 : Aside0 (w.heap.size ≤ g + 1) := ⟨by omega⟩
  clear hg0
  refine wp_loop_rounds 5 ?_
  rw [rounds_succ]
  go_wp2_with (first | (go_at_call 32; refine (vint_GetWord.calls k s 0 n0 x0 y0 _ h0.out).mono ?_; rintro e w1 ⟨rfl, hb⟩; have BA1 := Aside0.mk (blk_below BA.out hb); have BB1 := Aside0.mk (blk_below BB.out hb); have HB1 := Aside0.mk (below_step HB.out hb); clear BA BB HB hb; have hc : w1.cell? ⟨g, 0, none⟩ = some (.int .u64 a) := blk_cell BA1.out 0) | (go_at_call 14; refine (xxh_Round.calls a n0 r0 _ g0.out).mono ?_; rintro e w2 ⟨rfl, hd⟩; have hb := hd.below; have BA := Aside0.mk (blk_below BA1.out hb); have BB := Aside0.mk (blk_below BB1.out hb); have HB := Aside0.mk (below_step HB1.out hb); clear BA1 BB1 HB1 hb hd hc; have hf := blk_frozen BA.out 0; have hc : w2.cell? ⟨g, 0, none⟩ = some (.int .u64 a) := blk_cell BA.out 0))
  have BA1 := Aside0.mk (blk_put (cs' := u4 r0 b c d) BA.out 0 (.int .u64 r0) rfl)
  have BB1 := Aside0.mk (blk_far BB.out (p := ⟨g, 0, none⟩) (by simp) (.int .u64 r0))
  have HB1 := Aside0.mk (below_set (j := 0) (v := .int .u64 r0) HB.out hgg.out)
  clear BA BB HB hc hf
  have BA := BA1
  have BB := BB1
  have HB := HB1
  clear BA1 BB1 HB1
  generalize World.setCell _ ⟨g, 0, none⟩ (.int .u64 r0) = W at *
  rw [rounds_succ]
  go_wp2_with (first | (go_at_call 32; refine (vint_GetWord.calls k s 8 n1 x1 y1 _ h1.out).mono ?_; rintro e w1 ⟨rfl, hb⟩; have BA1 := Aside0.mk (blk_below BA.out hb); have BB1 := Aside0.mk (blk_below BB.out hb); have HB1 := Aside0.mk (below_step HB.out hb); clear BA BB HB hb; have hc : w1.cell? ⟨g, 1, none⟩ = some (.int .u64 b) := blk_cell BA1.out 1) | (go_at_call 14; refine (xxh_Round.calls b n1 r1 _ g1.out).mono ?_; rintro e w2 ⟨rfl, hd⟩; have hb := hd.below; have BA := Aside0.mk (blk_below BA1.out hb); have BB := Aside0.mk (blk_below BB1.out hb); have HB := Aside0.mk (below_step HB1.out hb); clear BA1 BB1 HB1 hb hd hc; have hf := blk_frozen BA.out 1; have hc : w2.cell? ⟨g, 1, none⟩ = some (.int .u64 b) := blk_cell BA.out 1))
  have BA1 := Aside0.mk (blk_put (cs' := u4 r0 r1 c d) BA.out 1 (.int .u64 r1) rfl)
  have BB1 := Aside0.mk (blk_far BB.out (p := ⟨g, 1, none⟩) (by simp) (.int .u64 r1))
  have HB1 := Aside0.mk (below_set (j := 1) (v := .int .u64 r1) HB.out hgg.out)
  clear BA BB HB hc hf
  have BA := BA1
  have BB := BB1
  have HB := HB1
  clear BA1 BB1 HB1
  generalize World.setCell _ ⟨g, 1, none⟩ (.int .u64 r1) = W at *
  rw [rounds_succ]
  go_wp2_with (first | (go_at_call 32; refine (vint_GetWord.calls k s 16 n2 x2 y2 _ h2.out).mono ?_; rintro e w1 ⟨rfl, hb⟩; have BA1 := Aside0.mk (blk_below BA.out hb); have BB1 := Aside0.mk (blk_below BB.out hb); have HB1 := Aside0.mk (below_step HB.out hb); clear BA BB HB hb; have hc : w1.cell? ⟨g, 2, none⟩ = some (.int .u64 c) := blk_cell BA1.out 2) | (go_at_call 14; refine (xxh_Round.calls c n2 r2 _ g2.out).mono ?_; rintro e w2 ⟨rfl, hd⟩; have hb := hd.below; have BA := Aside0.mk (blk_below BA1.out hb); have BB := Aside0.mk (blk_below BB1.out hb); have HB := Aside0.mk (below_step HB1.out hb); clear BA1 BB1 HB1 hb hd hc; have hf := blk_frozen BA.out 2; have hc : w2.cell? ⟨g, 2, none⟩ = some (.int .u64 c) := blk_cell BA.out 2))
  have BA1 := Aside0.mk (blk_put (cs' := u4 r0 r1 r2 d) BA.out 2 (.int .u64 r2) rfl)
  have BB1 := Aside0.mk (blk_far BB.out (p := ⟨g, 2, none⟩) (by simp) (.int .u64 r2))
  have HB1 := Aside0.mk (below_set (j := 2) (v := .int .u64 r2) HB.out hgg.out)
  clear BA BB HB hc hf
  have BA := BA1
  have BB := BB1
  have HB := HB1
  clear BA1 BB1 HB1
  generalize World.setCell _ ⟨g, 2, none⟩ (.int .u64 r2) = W at *
  rw [rounds_succ]
  go_wp2_with (first | (go_at_call 32; refine (vint_GetWord.calls k s 24 n3 x3 y3 _ h3.out).mono ?_; rintro e w1 ⟨rfl, hb⟩; have BA1 := Aside0.mk (blk_below BA.out hb); have BB1 := Aside0.mk (blk_below BB.out hb); have HB1 := Aside0.mk (below_step HB.out hb); clear BA BB HB hb; have hc : w1.cell? ⟨g, 3, none⟩ = some (.int .u64 d) := blk_cell BA1.out 3) | (go_at_call 14; refine (xxh_Round.calls d n3 r3 _ g3.out).mono ?_; rintro e w2 ⟨rfl, hd⟩; have hb := hd.below; have BA := Aside0.mk (blk_below BA1.out hb); have BB := Aside0.mk (blk_below BB1.out hb); have HB := Aside0.mk (below_step HB1.out hb); clear BA1 BB1 HB1 hb hd hc; have hf := blk_frozen BA.out 3; have hc : w2.cell? ⟨g, 3, none⟩ = some (.int .u64 d) := blk_cell BA.out 3))
  have BA1 := Aside0.mk (blk_put (cs' := u4 r0 r1 r2 r3) BA.out 3 (.int .u64 r3) rfl)
  have BB1 := Aside0.mk (blk_far BB.out (p := ⟨g, 3, none⟩) (by simp) (.int .u64 r3))
  have HB1 := Aside0.mk (below_set (j := 3) (v := .int .u64 r3) HB.out hgg.out)
  clear BA BB HB hc hf
  have BA := BA1
  have BB := BB1
  have HB := HB1
  clear BA1 BB1 HB1
  generalize World.setCell _ ⟨g, 3, none⟩ (.int .u64 r3) = W at *
  rw [rounds_succ]
  have hc0 : W.cell? ⟨g, 0, none⟩ = some (.int .u64 r0) := blk_cell BA.out 0
  have hd0 : W.cell? ⟨g + 1, 0, none⟩ = some (.int .u64 0) := blk_cell BB.out 0
  have hf0 := blk_frozen BB.out 0
  have hc1 : W.cell? ⟨g, 1, none⟩ = some (.int .u64 r1) := blk_cell BA.out 1
  have hd1 : W.cell? ⟨g + 1, 1, none⟩ = some (.int .u64 0) := blk_cell BB.out 1
  have hf1 := blk_frozen BB.out 1
  have hc2 : W.cell? ⟨g, 2, none⟩ = some (.int .u64 r2) := blk_cell BA.out 2
  have hd2 : W.cell? ⟨g + 1, 2, none⟩ = some (.int .u64 0) := blk_cell BB.out 2
  have hf2 := blk_frozen BB.out 2
  have hc3 : W.cell? ⟨g, 3, none⟩ = some (.int .u64 r3) := blk_cell BA.out 3
  have hd3 : W.cell? ⟨g + 1, 3, none⟩ = some (.int .u64 0) := blk_cell BB.out 3
  have hf3 := blk_frozen BB.out 3
  go_wp2
  refine bodyPost_ret (results_cell_row rfl _ _ (g + 1) 43 (u4 r0 r1 r2 r3) (0, 0) _ rfl (blk_put (cs := u4 r0 r1 r2 0) (blk_put (cs := u4 r0 r1 0 0) (blk_put (cs := u4 r0 0 0 0) (blk_put BB.out 0 _ rfl) 1 _ rfl) 2 _ rfl) 3 _ rfl) Try.underlying43 rfl (by kernel_rfl)) rfl ?_
  exact ⟨rfl, below_set (below_set (below_set (below_set HB.out hgg1.out) hgg1.out) hgg1.out) hgg1.out⟩
/-- The sum of four lanes, of what the rotations and rounds tell. -/
def joinedV (q0 q1 q2 q3 : Int) : Int := IntKind.u64.wrap (IntKind.u64.wrap (IntKind.u64.wrap (IntKind.u64.wrap q0 + q1) + q2) + q3)
theorem idx0 (W : World) : (Instr.index 54 (.agg #[.int .i64 1, .int .i64 7, .int .i64 12, .int .i64 18]) (.int .i64 0)).run Try.prog W = .ok (.int .i64 1) W := by kernel_rfl
theorem idx1 (W : World) : (Instr.index 54 (.agg #[.int .i64 1, .int .i64 7, .int .i64 12, .int .i64 18]) (.int .i64 1)).run Try.prog W = .ok (.int .i64 7) W := by kernel_rfl
theorem idx2 (W : World) : (Instr.index 54 (.agg #[.int .i64 1, .int .i64 7, .int .i64 12, .int .i64 18]) (.int .i64 2)).run Try.prog W = .ok (.int .i64 12) W := by kernel_rfl
theorem idx3 (W : World) : (Instr.index 54 (.agg #[.int .i64 1, .int .i64 7, .int .i64 12, .int .i64 18]) (.int .i64 3)).run Try.prog W = .ok (.int .i64 18) W := by kernel_rfl
theorem jdx0 (a b c d : Int) (W : World) : (Instr.index 43 (.agg #[.int .u64 a, .int .u64 b, .int .u64 c, .int .u64 d]) (.int .i64 0)).run Try.prog W = .ok (.int .u64 a) W := by kernel_rfl
theorem jdx1 (a b c d : Int) (W : World) : (Instr.index 43 (.agg #[.int .u64 a, .int .u64 b, .int .u64 c, .int .u64 d]) (.int .i64 1)).run Try.prog W = .ok (.int .u64 b) W := by kernel_rfl
theorem jdx2 (a b c d : Int) (W : World) : (Instr.index 43 (.agg #[.int .u64 a, .int .u64 b, .int .u64 c, .int .u64 d]) (.int .i64 2)).run Try.prog W = .ok (.int .u64 c) W := by kernel_rfl
theorem jdx3 (a b c d : Int) (W : World) : (Instr.index 43 (.agg #[.int .u64 a, .int .u64 b, .int .u64 c, .int .u64 d]) (.int .i64 3)).run Try.prog W = .ok (.int .u64 d) W := by kernel_rfl
attribute [local go_sem] idx0 idx1 idx2 idx3 jdx0 jdx1 jdx2 jdx3
def laneV (h p : Int) : Int := IntKind.u64.wrap (IntKind.u64.wrap (Go.bits .xor .u64 h p * 11400714785074694791) + 9650029242287828579)
set_option maxHeartbeats 2000000 in
set_option maxRecDepth 100000 in
theorem xxh_joined.calls (a b c d q0 q1 q2 q3 p0 p1 p2 p3 : Int) (w : World)
   (h0 : Aside0 (bits_RotateLeft64.f a 1 = some q0)) (h1 : Aside0 (bits_RotateLeft64.f b 7 = some q1)) (h2 : Aside0 (bits_RotateLeft64.f c 12 = some q2)) (h3 : Aside0 (bits_RotateLeft64.f d 18 = some q3))
   (g0 : Aside0 (xxh_Round.f 0 a = some p0)) (g1 : Aside0 (xxh_Round.f 0 b = some p1)) (g2 : Aside0 (xxh_Round.f 0 c = some p2)) (g3 : Aside0 (xxh_Round.f 0 d = some p3)) :
    Calls Try.prog 25 #[.agg (u4 a b c d)] w fun e w' => e = .returned (.int .u64 (laneV (laneV (laneV (laneV (joinedV q0 q1 q2 q3) p0) p1) p2) p3)) ∧ Below w.heap.size w w' := by
  have hu := Try.underlying43
  go_enter Try.func25, Try.ntmps25
  go_wp2
  have BA : Aside0 ((w.alloc (Obj.cells (u4 a b c d) 43)).heap[w.heap.size]? = some (.cells (u4 a b c d) 43 (0, 0))) := ⟨blk_new _ _⟩
  have HB : Aside0 (Below w.heap.size w (w.alloc (Obj.cells (u4 a b c d) 43))) := ⟨below_alloc (Below.refl _ _) _⟩
  generalize (w.alloc (Obj.cells (u4 a b c d) 43)) = W at *
  generalize hg0 : w.heap.size = g at BA ⊢
  clear hg0
  refine wp_loop_rounds 5 ?_
  rw [rounds_succ]
  have hc : World.cell? _ ⟨g, 0, none⟩ = some (.int .u64 a) := blk_cell BA.out 0
  go_wp2_with (go_at_call 29; refine (bits_RotateLeft64.calls a 1 q0 _ h0.out).mono ?_; rintro e w2 ⟨rfl, hd⟩; have hb := hd.below; have BA1 := Aside0.mk (blk_below BA.out hb); have HB1 := Aside0.mk (below_step HB.out hb); clear BA HB hb hd hc; have BA := BA1; have HB := HB1; clear BA1 HB1)
  rw [rounds_succ]
  have hc : World.cell? _ ⟨g, 1, none⟩ = some (.int .u64 b) := blk_cell BA.out 1
  go_wp2_with (go_at_call 29; refine (bits_RotateLeft64.calls b 7 q1 _ h1.out).mono ?_; rintro e w2 ⟨rfl, hd⟩; have hb := hd.below; have BA1 := Aside0.mk (blk_below BA.out hb); have HB1 := Aside0.mk (below_step HB.out hb); clear BA HB hb hd hc; have BA := BA1; have HB := HB1; clear BA1 HB1)
  rw [rounds_succ]
  have hc : World.cell? _ ⟨g, 2, none⟩ = some (.int .u64 c) := blk_cell BA.out 2
  go_wp2_with (go_at_call 29; refine (bits_RotateLeft64.calls c 12 q2 _ h2.out).mono ?_; rintro e w2 ⟨rfl, hd⟩; have hb := hd.below; have BA1 := Aside0.mk (blk_below BA.out hb); have HB1 := Aside0.mk (below_step HB.out hb); clear BA HB hb hd hc; have BA := BA1; have HB := HB1; clear BA1 HB1)
  rw [rounds_succ]
  have hc : World.cell? _ ⟨g, 3, none⟩ = some (.int .u64 d) := blk_cell BA.out 3
  go_wp2_with (go_at_call 29; refine (bits_RotateLeft64.calls d 18 q3 _ h3.out).mono ?_; rintro e w2 ⟨rfl, hd⟩; have hb := hd.below; have BA1 := Aside0.mk (blk_below BA.out hb); have HB1 := Aside0.mk (below_step HB.out hb); clear BA HB hb hd hc; have BA := BA1; have HB := HB1; clear BA1 HB1)
  rw [rounds_succ]
  have hc0 : World.cell? _ ⟨g, 0, none⟩ = some (.int .u64 a) := blk_cell BA.out 0
  have hc1 : World.cell? _ ⟨g, 1, none⟩ = some (.int .u64 b) := blk_cell BA.out 1
  have hc2 : World.cell? _ ⟨g, 2, none⟩ = some (.int .u64 c) := blk_cell BA.out 2
  have hc3 : World.cell? _ ⟨g, 3, none⟩ = some (.int .u64 d) := blk_cell BA.out 3
  go_wp2
  refine wp_loop_rounds 5 ?_
  rw [rounds_succ]
  go_wp2_with (go_at_call 14; refine (xxh_Round.calls 0 a p0 _ g0.out).mono ?_; rintro e w2 ⟨rfl, hd⟩; have hb := hd.below; have HB1 := Aside0.mk (below_step HB.out hb); clear HB hb hd; have HB := HB1; clear HB1)
  rw [rounds_succ]
  go_wp2_with (go_at_call 14; refine (xxh_Round.calls 0 b p1 _ g1.out).mono ?_; rintro e w2 ⟨rfl, hd⟩; have hb := hd.below; have HB1 := Aside0.mk (below_step HB.out hb); clear HB hb hd; have HB := HB1; clear HB1)
  rw [rounds_succ]
  go_wp2_with (go_at_call 14; refine (xxh_Round.calls 0 c p2 _ g2.out).mono ?_; rintro e w2 ⟨rfl, hd⟩; have hb := hd.below; have HB1 := Aside0.mk (below_step HB.out hb); clear HB hb hd; have HB := HB1; clear HB1)
  rw [rounds_succ]
  go_wp2_with (go_at_call 14; refine (xxh_Round.calls 0 d p3 _ g3.out).mono ?_; rintro e w2 ⟨rfl, hd⟩; have hb := hd.below; have HB1 := Aside0.mk (below_step HB.out hb); clear HB hb hd; have HB := HB1; clear HB1)
  rw [rounds_succ]
  go_wp2
  go_ret
  exact ⟨rfl, HB.out⟩
end Go.Proofs.Ytckjigbhdndgdaa
