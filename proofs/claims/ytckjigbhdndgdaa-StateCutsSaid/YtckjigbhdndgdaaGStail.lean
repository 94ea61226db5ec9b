/- What the state's tail comes to: xxh's tail, by another number. Conditions: as the contract states. -/
import Derived.Test.YtckjigbhdndgdaaGXxh
namespace Go.Proofs.Ytckjigbhdndgdaa
open Go.RowKit Go.Proofs.YtckjigbhdndgdaaW.PrintWords Go.Proofs.YtckjigbhdndgdaaW.PrintLast Go.Proofs.YtckjigbhdndgdaaW.PrintMore Go.Proofs.Ytckjigbhdndgdaa.PBits
set_option maxHeartbeats 4000000 in
set_option maxRecDepth 100000 in
theorem state_tail.calls (k : Nat) (a0 : Int) (a1 : ByteArray) (r : Int) (w : World) (h : xxh_tail.f k a0 a1 = some r) :
    Calls Try.prog 31 #[.int .u64 a0, .string a1] w fun e w' => e = .returned (.int .u64 r) ∧ Below w.heap.size w w' := by
  have HB := Aside0.mk (Below.refl w.heap.size w)
  have H' := Aside0.mk h
  clear h
  go_enter Try.func31, Try.ntmps31
  go_wp2
  go_loopg [0, 1] k (fun kq v0 v1 w' => ∃ (x0 : Int) (x1 : ByteArray), v0 = .int .u64 x0 ∧ v1 = .string x1 ∧ Aside0 (xxh_tail.l0 kq x0 x1 = some r) ∧ Aside0 (kq ≤ k) ∧ Aside0 (Below w.heap.size w w'))
  case atStart => exact ⟨_, _, rfl, rfl, H', ⟨Nat.le_refl _⟩, HB⟩
  case round =>
    clear H' HB
    obtain ⟨x0, x1, rfl, rfl, HA, HK1, HB⟩ := hrel
    cases gk with
    | zero => exact absurd HA.out (by simp [xxh_tail.l0])
    | succ k1 =>
      have H := HA.out
      clear HA
      simp only [xxh_tail.l0] at H
      by_cases c8 : 8 ≤ x1.size
      · rw [if_pos c8] at H
        obtain ⟨⟨n, x, y⟩, A0, H⟩ := Option.bind_eq_some_iff.mp H
        obtain ⟨r1, A1, H⟩ := Option.bind_eq_some_iff.mp H
        obtain ⟨t, A2, H⟩ := Option.bind_eq_some_iff.mp H
        have B0 := Aside0.mk A0
        have B1 := Aside0.mk A1
        have B2 := Aside0.mk A2
        have H' := Aside0.mk H
        clear H A0 A1 A2
        have c8a : decide ((x1.size : Int) ≥ 8) = true := decide_eq_true (by omega)
        have c8b : decide (8 ≤ x1.size) = true := decide_eq_true c8
        have c8c : (8 : Int) ≤ (x1.size : Int) := by omega
        go_wp2_with (first | (go_at_call 32; refine (vint_GetWord.calls k1 x1 0 n x y _ B0.out).mono ?_; rintro e w1 ⟨rfl, hb⟩; have HB1 := Aside0.mk (below_step HB.out hb); clear HB hb; have HB := HB1; clear HB1) | (go_at_call 14; refine (xxh_Round.calls 0 n r1 _ B1.out).mono ?_; rintro e w2 ⟨rfl, hd⟩; have hb := hd.below; have HB1 := Aside0.mk (below_step HB.out hb); clear HB hb hd; have HB := HB1; clear HB1) | (go_at_call 29; refine (bits_RotateLeft64.calls (Go.bits .xor .u64 x0 r1) 27 t _ B2.out).mono ?_; rintro e w3 ⟨rfl, hd⟩; have hb := hd.below; have HB1 := Aside0.mk (below_step HB.out hb); clear HB hb hd; have HB := HB1; clear HB1))
        go_roundg k1
        case measure => have := HK1.out; omega
        case rel => exact ⟨_, _, rfl, rfl, H', ⟨by have := HK1.out; omega⟩, HB⟩
      · rw [if_neg c8] at H
        have c8a : decide ((x1.size : Int) ≥ 8) = false := decide_eq_false (by omega)
        have c8b : decide (8 ≤ x1.size) = false := decide_eq_false c8
        by_cases c4 : 4 ≤ x1.size
        · rw [if_pos c4] at H
          obtain ⟨t, A2, H⟩ := Option.bind_eq_some_iff.mp H
          have B2 := Aside0.mk A2
          have H' := Aside0.mk H
          clear H A2
          have c4a : decide (4 ≤ (x1.size : Int)) = true := decide_eq_true (by omega)
          have c4b : decide (4 ≤ x1.size) = true := decide_eq_true c4
          have c4c := eq_true (show (4 : Int) ≤ (x1.size : Int) by omega)
          have d0a : decide (0 < (x1.size : Int)) = true := decide_eq_true (by omega)
          have d0b : decide (0 < x1.size) = true := decide_eq_true (by omega)
          have q0 := eq_true (show 0 < x1.size by omega)
          have hx0 : ∀ h : 0 < x1.size, ((x1[0]'h).toNat : Int) = bt x1 0 := bt_at x1 0
          have qi0 := eq_true (show (0 : Int) < (x1.size : Int) by omega)
          have d1a : decide (1 < (x1.size : Int)) = true := decide_eq_true (by omega)
          have d1b : decide (1 < x1.size) = true := decide_eq_true (by omega)
          have q1 := eq_true (show 1 < x1.size by omega)
          have hx1 : ∀ h : 1 < x1.size, ((x1[1]'h).toNat : Int) = bt x1 1 := bt_at x1 1
          have qi1 := eq_true (show (1 : Int) < (x1.size : Int) by omega)
          have d2a : decide (2 < (x1.size : Int)) = true := decide_eq_true (by omega)
          have d2b : decide (2 < x1.size) = true := decide_eq_true (by omega)
          have q2 := eq_true (show 2 < x1.size by omega)
          have hx2 : ∀ h : 2 < x1.size, ((x1[2]'h).toNat : Int) = bt x1 2 := bt_at x1 2
          have qi2 := eq_true (show (2 : Int) < (x1.size : Int) by omega)
          have d3a : decide (3 < (x1.size : Int)) = true := decide_eq_true (by omega)
          have d3b : decide (3 < x1.size) = true := decide_eq_true (by omega)
          have q3 := eq_true (show 3 < x1.size by omega)
          have hx3 : ∀ h : 3 < x1.size, ((x1[3]'h).toNat : Int) = bt x1 3 := bt_at x1 3
          have qi3 := eq_true (show (3 : Int) < (x1.size : Int) by omega)
          go_wp2
          go_quiet (fail)
          have HBq : Aside0 (Below w.heap.size w (wr.drewN nq)) := ⟨pw_below_drewN HB.out _⟩
          clear HB
          have HB := HBq
          clear HBq
          generalize wr.drewN nq = wq at *
          go_wp2_with (go_at_call 29; (with_reducible refine (bits_RotateLeft64.calls (Go.bits .xor .u64 x0 (IntKind.u64.wrap (fourV (bt x1 0) (bt x1 1) (bt x1 2) (bt x1 3) * 11400714785074694791))) 23 t _ B2.out).mono ?_); rintro e wr2 ⟨rfl, hd⟩; have hcv := Lib.run_convert_string_bytes (P := Try.prog) wr2 9 32 5 (x1.extract 4 x1.size) Try.underlying9 Try.underlying32 Try.underlying5; have hcells : Aside0 (∀ i : Int, 0 ≤ i → i < ((x1.extract 4 x1.size).size : Int) → (Lib.bytesWorld wr2 5 (x1.extract 4 x1.size)).cell? ⟨wr2.heap.size, i.toNat, none⟩ = some (.int .u8 (bt (x1.extract 4 x1.size) i))) := ⟨fun i h0 h1 => bytes_cell wr2 _ i h0 h1⟩; have HB2 := below_step HB.out hd.below; have HB1 := Aside0.mk (bytes_below HB2 HB2.size 5 (x1.extract 4 x1.size)); clear HB HB2 hd)
          have hsz : (x1.extract 4 x1.size).size = x1.size - 4 := by rw [ByteArray.size_extract]; omega
          generalize hsv : (x1.extract 4 x1.size) = sv at *
          generalize Lib.bytesWorld wr2 5 sv = wc at *
          generalize grownCap wr2 sv.size 0 5 = cap at *
          generalize wr2.heap.size = gb at *
          go_loopg [0, 62] k1 (fun kq v0 v62 w' => ∃ (x3 : Int) (i3 : Int), v0 = .int .u64 x3 ∧ v62 = .int .i64 i3 ∧ Aside0 (0 ≤ i3) ∧ Aside0 (xxh_tail.l1 kq x3 sv i3 = some r) ∧ Aside0 (kq ≤ k1) ∧ Aside0 (∀ i : Int, 0 ≤ i → i < (sv.size : Int) → w'.cell? ⟨gb, i.toNat, none⟩ = some (.int .u8 (bt sv i))) ∧ Aside0 (Below w.heap.size w w'))
          case atStart => exact ⟨_, _, rfl, rfl, ⟨Int.le_refl _⟩, H', ⟨Nat.le_refl _⟩, hcells, HB1⟩
          case round =>
            clear H' HB1 hcells
            obtain ⟨x3, i3, rfl, rfl, HI, HA, HK3, HC, HB⟩ := hrel
            cases gk with
            | zero => exact absurd HA.out (by simp [xxh_tail.l1])
            | succ k3 =>
              have H := HA.out
              clear HA
              simp only [xxh_tail.l1] at H
              by_cases ci : i3 < (sv.size : Int)
              · rw [if_pos ci] at H
                obtain ⟨t3, A3, H⟩ := Option.bind_eq_some_iff.mp H
                have B3 := Aside0.mk A3
                have H' := Aside0.mk H
                clear H A3
                have cia : decide (i3 < (sv.size : Int)) = true := decide_eq_true ci
                have cib : decide (i3 < ((x1.size - 4 : Nat) : Int)) = true := decide_eq_true (by omega)
                have cic := eq_true (show i3 < ((x1.size - 4 : Nat) : Int) by omega)
                have hi0 : 0 ≤ i3 := HI.out
                have hcell := HC.out i3 hi0 ci
                go_wp2_with (go_at_call 29; refine (bits_RotateLeft64.calls _ 11 t3 _ B3.out).mono ?_; rintro e w3 ⟨rfl, hd⟩; have hb := hd.below; have HB1 := Aside0.mk (below_step HB.out hb); have HC1 : Aside0 (∀ i : Int, 0 ≤ i → i < (sv.size : Int) → w3.cell? ⟨gb, i.toNat, none⟩ = some (.int .u8 (bt sv i))) := ⟨by obtain ⟨nd, rfl⟩ := hd.out; exact HC.out⟩; clear HB HC hb hd; have HB := HB1; have HC := HC1; clear HB1 HC1)
                go_roundg k3
                case measure => have := HK3.out; omega
                case rel => exact ⟨_, _, rfl, rfl, ⟨by omega⟩, H', ⟨by have := HK3.out; omega⟩, HC, HB⟩
              · rw [if_neg ci] at H
                have cia : decide (i3 < (sv.size : Int)) = false := decide_eq_false ci
                have cib : decide (i3 < ((x1.size - 4 : Nat) : Int)) = false := decide_eq_false (by omega)
                have cic := eq_true (show ((x1.size - 4 : Nat) : Int) ≤ i3 by omega)
                obtain rfl := Option.some.inj H
                go_wp2
                go_ret
                exact ⟨rfl, HB.out⟩
        · rw [if_neg c4] at H
          have H' := Aside0.mk H
          clear H
          have c4a : decide ((x1.size : Int) ≥ 4) = false := decide_eq_false (by omega)
          have c4b : decide (4 ≤ x1.size) = false := decide_eq_false c4
          have hcv := Lib.run_convert_string_bytes (P := Try.prog) wr 9 32 5 x1 Try.underlying9 Try.underlying32 Try.underlying5
          have hcells : Aside0 (∀ i : Int, 0 ≤ i → i < ((x1).size : Int) → (Lib.bytesWorld wr 5 x1).cell? ⟨wr.heap.size, i.toNat, none⟩ = some (.int .u8 (bt x1 i))) := ⟨fun i h0 h1 => bytes_cell wr x1 i h0 h1⟩
          have HB1 := Aside0.mk (bytes_below HB.out HB.out.size 5 x1)
          clear HB
          go_wp2
          obtain ⟨sv, rfl⟩ : ∃ s, s = x1 := ⟨_, rfl⟩
          generalize Lib.bytesWorld wr 5 sv = wc at *
          generalize grownCap wr sv.size 0 5 = cap at *
          generalize wr.heap.size = gb at *
          go_loopg [0, 62] k1 (fun kq v0 v62 w' => ∃ (x3 : Int) (i3 : Int), v0 = .int .u64 x3 ∧ v62 = .int .i64 i3 ∧ Aside0 (0 ≤ i3) ∧ Aside0 (xxh_tail.l1 kq x3 sv i3 = some r) ∧ Aside0 (kq ≤ k1) ∧ Aside0 (∀ i : Int, 0 ≤ i → i < (sv.size : Int) → w'.cell? ⟨gb, i.toNat, none⟩ = some (.int .u8 (bt sv i))) ∧ Aside0 (Below w.heap.size w w'))
          case atStart => exact ⟨_, _, rfl, rfl, ⟨Int.le_refl _⟩, H', ⟨Nat.le_refl _⟩, hcells, HB1⟩
          case round =>
            clear H' HB1 hcells
            obtain ⟨x3, i3, rfl, rfl, HI, HA, HK3, HC, HB⟩ := hrel
            cases gk with
            | zero => exact absurd HA.out (by simp [xxh_tail.l1])
            | succ k3 =>
              have H := HA.out
              clear HA
              simp only [xxh_tail.l1] at H
              by_cases ci : i3 < (sv.size : Int)
              · rw [if_pos ci] at H
                obtain ⟨t3, A3, H⟩ := Option.bind_eq_some_iff.mp H
                have B3 := Aside0.mk A3
                have H' := Aside0.mk H
                clear H A3
                have cia : decide (i3 < (sv.size : Int)) = true := decide_eq_true ci
                have hi0 : 0 ≤ i3 := HI.out
                have hcell := HC.out i3 hi0 ci
                go_wp2_with (go_at_call 29; refine (bits_RotateLeft64.calls _ 11 t3 _ B3.out).mono ?_; rintro e w3 ⟨rfl, hd⟩; have hb := hd.below; have HB1 := Aside0.mk (below_step HB.out hb); have HC1 : Aside0 (∀ i : Int, 0 ≤ i → i < (sv.size : Int) → w3.cell? ⟨gb, i.toNat, none⟩ = some (.int .u8 (bt sv i))) := ⟨by obtain ⟨nd, rfl⟩ := hd.out; exact HC.out⟩; clear HB HC hb hd; have HB := HB1; have HC := HC1; clear HB1 HC1)
                go_roundg k3
                case measure => have := HK3.out; omega
                case rel => exact ⟨_, _, rfl, rfl, ⟨by omega⟩, H', ⟨by have := HK3.out; omega⟩, HC, HB⟩
              · rw [if_neg ci] at H
                have cia : decide (i3 < (sv.size : Int)) = false := decide_eq_false ci
                obtain rfl := Option.some.inj H
                go_wp2
                go_ret
                exact ⟨rfl, HB.out⟩
end Go.Proofs.Ytckjigbhdndgdaa
