/- What the encoder's Bytes come to: all bytes of low. Conditions: as the contract states. -/
import Derived.Test.YtgldblakdhalkaaGBit
import Derived.Deep.RegionHeld3
namespace Go.Proofs.Ytgldblakdhalkaa
set_option linter.unusedVariables false
set_option linter.unusedSimpArgs false
open Go.RowKit Go.Proofs.YtgldblakdhalkaaW.PrintWords Go.Proofs.YtgldblakdhalkaaW.PrintLast Go.Proofs.YtgldblakdhalkaaW.PrintMore Go.Proofs.Ytgldblakdhalkaa.PBase
theorem strOfNums_app (a b : List Int) : strOfNums (a ++ b) = strOfNums a ++ strOfNums b := by
  apply lst_inj
  rw [lst_append, lst_nums, lst_nums, lst_nums]
  unfold nat8
  rw [List.map_append]
theorem four_bytes (V lo c3 c2 c1 c0 : Nat) (h : V % 4294967296 = lo) (h3 : lo / 16777216 = c3) (h2 : lo / 65536 % 256 = c2) (h1 : lo / 256 % 256 = c1) (h0 : lo % 256 = c0) : [(c3 : Int), (c2 : Int), (c1 : Int), (c0 : Int)] = beI 4 V := by
  have e : beI 4 V = [((dg V 3 : Nat) : Int), ((dg V 2 : Nat) : Int), ((dg V 1 : Nat) : Int), ((dg V 0 : Nat) : Int)] := rfl
  have d3 : dg V 3 = c3 := by unfold dg; rw [show (256 : Nat) ^ 3 = 16777216 from by decide]; omega
  have d2 : dg V 2 = c2 := by unfold dg; rw [show (256 : Nat) ^ 2 = 65536 from by decide]; omega
  have d1 : dg V 1 = c1 := by unfold dg; rw [Nat.pow_one]; omega
  have d0 : dg V 0 = c0 := by unfold dg; rw [Nat.pow_zero, Nat.div_one]; omega
  rw [e, d3, d2, d1, d0]
attribute [local go_sem ↓] Go.wp_at_zero Go.wp_at_succ
set_option maxHeartbeats 4000000 in
set_option maxRecDepth 100000 in
theorem enc_Bytes.calls (e : Enc) (v : Value) (B g : Nat) (w : World) (hS : Aside0 (EncAt w B g e v)) (hL1 : Aside0 (1 ≤ e.L ∧ e.L ≤ 1000000000)) :
    Calls Try.prog 28 #[.pointer (some ⟨g, 0, none⟩)] w fun r w' => r = .returned (.string (strOfNums (beI (e.L + 4) e.V))) ∧ Below w.heap.size w w' := by
  have hu2 := Try.underlying87
  obtain ⟨lo, D, hlo, hD, hlt, hblk, hown⟩ := hS.out.lowlt
  obtain ⟨b, C, rfl, hbB⟩ := own_form hown hL1.out.1
  have hc0 : w.cell? ⟨g, 0, none⟩ = some (.slice (some ⟨b, 0, none⟩) e.L C) := blk_cell hblk 0
  have hc1 : w.cell? ⟨g, 1, none⟩ = some (.int .u64 (lo : Int)) := blk_cell hblk 1
  have hne : w.heap.size ≠ g := by have := blk_lt hblk; omega
  obtain ⟨c3, h3⟩ : ∃ c : Nat, lo / 16777216 = c := ⟨_, rfl⟩
  obtain ⟨c2, h2⟩ : ∃ c : Nat, lo / 65536 % 256 = c := ⟨_, rfl⟩
  obtain ⟨c1, h1⟩ : ∃ c : Nat, lo / 256 % 256 = c := ⟨_, rfl⟩
  obtain ⟨c0, h0⟩ : ∃ c : Nat, lo % 256 = c := ⟨_, rfl⟩
  have q3 : IntKind.u8.wrap ((lo : Int) / 16777216) = (c3 : Int) := by rw [IntKind.wrap_u8]; omega
  have q2 : IntKind.u8.wrap ((lo : Int) / 65536) = (c2 : Int) := by rw [IntKind.wrap_u8]; omega
  have q1 : IntKind.u8.wrap ((lo : Int) / 256) = (c1 : Int) := by rw [IntKind.wrap_u8]; omega
  have q0 : IntKind.u8.wrap (lo : Int) = (c0 : Int) := by rw [IntKind.wrap_u8]; omega
  have hcv1 : (convert 33 9 (.slice (some ⟨b, 0, none⟩) e.L C)).run Try.prog w.drew = .ok (.string (strOfNums (beI e.L D))) w.drew := by
    have h := conv_ints (P := Try.prog) w.drew 33 5 9 Try.underlying33 Try.underlying5 Try.underlying9 B (.slice (some ⟨b, 0, none⟩) e.L C) (beI e.L D) (by rw [beI_length]; exact hown)
    exact h
  have hcv2 : (convert 33 9 (.slice (some ⟨b, 0, none⟩) e.L C)).run Try.prog (w.alloc (.cells #[.int .u8 (c3 : Int), .int .u8 (c2 : Int), .int .u8 (c1 : Int), .int .u8 (c0 : Int)] 5)).drew = .ok (.string (strOfNums (beI e.L D))) (w.alloc (.cells #[.int .u8 (c3 : Int), .int .u8 (c2 : Int), .int .u8 (c1 : Int), .int .u8 (c0 : Int)] 5)).drew := by
    have h := conv_ints (P := Try.prog) (w.alloc (.cells #[.int .u8 (c3 : Int), .int .u8 (c2 : Int), .int .u8 (c1 : Int), .int .u8 (c0 : Int)] 5)).drew 33 5 9 Try.underlying33 Try.underlying5 Try.underlying9 B (.slice (some ⟨b, 0, none⟩) e.L C) (beI e.L D) (by rw [beI_length]; exact World.ownsRow.alloc (w := w) hown _)
    exact h
  have hcv3 : (convert 33 9 (.slice (some ⟨w.heap.size, 0, none⟩) 4 4)).run Try.prog (w.alloc (.cells #[.int .u8 (c3 : Int), .int .u8 (c2 : Int), .int .u8 (c1 : Int), .int .u8 (c0 : Int)] 5)).drew = .ok (.string (strOfNums [(c3 : Int), (c2 : Int), (c1 : Int), (c0 : Int)])) (w.alloc (.cells #[.int .u8 (c3 : Int), .int .u8 (c2 : Int), .int .u8 (c1 : Int), .int .u8 (c0 : Int)] 5)).drew := by
    have h := conv_ints (P := Try.prog) (w.alloc (.cells #[.int .u8 (c3 : Int), .int .u8 (c2 : Int), .int .u8 (c1 : Int), .int .u8 (c0 : Int)] 5)).drew 33 5 9 Try.underlying33 Try.underlying5 Try.underlying9 0 (.slice (some ⟨w.heap.size, 0, none⟩) 4 4) [(c3 : Int), (c2 : Int), (c1 : Int), (c0 : Int)] ⟨rfl, .inr ⟨w.heap.size, 4, _, rfl, Nat.zero_le _, blk_new w _, Nat.le_refl _, by decide, rfl, rfl⟩⟩
    exact h
  obtain ⟨S1, hS1⟩ : ∃ S1, strOfNums (beI e.L D) = S1 := ⟨_, rfl⟩
  obtain ⟨S2, hS2⟩ : ∃ S2, strOfNums [(c3 : Int), (c2 : Int), (c1 : Int), (c0 : Int)] = S2 := ⟨_, rfl⟩
  rw [hS1] at hcv1 hcv2
  rw [hS2] at hcv3
  have hs : (9223372036854775807 < S1.size + S2.size) = False := eq_false (by
    rw [← hS1, ← hS2, strOfNums_size, strOfNums_size, beI_length]
    have := hL1.out
    simp only [List.length_cons, List.length_nil]
    omega)
  have HS1 := Aside0.mk hS1
  have HS2 := Aside0.mk hS2
  clear hS1 hS2
  have HO := Aside0.mk hown
  have HBL := Aside0.mk hblk
  clear hown hblk
  go_enter Try.func28, Try.ntmps28
  go_wp2_with fail
  refine wp_region_held_drew (S := fun w' => w'.cell? ⟨g, 0, none⟩ = some (.slice (some ⟨b, 0, none⟩) e.L C) ∧ w'.cell? ⟨g, 1, none⟩ = some (.int .u64 (lo : Int)) ∧ (convert 33 9 (.slice (some ⟨b, 0, none⟩) e.L C)).run Try.prog w' = .ok (.string S1) w') (by kernel_rfl) ⟨hc0, hc1, hcv1⟩ (fun hHeld => ?_)
  refine wpAnyH_take (i := 0) (oi := _) (v := ?_) rfl (by kernel_rfl) (by kernel_rfl) (by kernel_rfl) (fun _ _ _ h => h) (Or.inl ⟨by rfl, ?_⟩) (by assumption) ?_
  rotate_left 1
  · intro w hSw
    (try dsimp only at hSw)
    go_split_ands
    go_simp
    (try with_reducible rfl)
  (try simp only [Act.put, List.setIfInBounds_toArray, List.set_cons_zero, List.set_cons_succ])
  refine wpAnyH_take (i := 1) (oi := _) (v := ?_) rfl (by kernel_rfl) (by kernel_rfl) (by kernel_rfl) (fun _ _ _ h => h) (Or.inl ⟨by rfl, ?_⟩) (by assumption) ?_
  rotate_left 1
  · intro w hSw
    (try dsimp only at hSw)
    go_split_ands
    go_simp
    (try with_reducible rfl)
  (try simp only [Act.put, List.setIfInBounds_toArray, List.set_cons_zero, List.set_cons_succ])
  refine wpAnyH_take (i := 2) (oi := _) (v := ?_) rfl (by kernel_rfl) (by kernel_rfl) (by kernel_rfl) (fun _ _ _ h => h) (Or.inl ⟨by rfl, ?_⟩) (by assumption) ?_
  rotate_left 1
  · intro w hSw
    (try dsimp only at hSw)
    go_split_ands
    go_simp
    (try with_reducible rfl)
  (try simp only [Act.put, List.setIfInBounds_toArray, List.set_cons_zero, List.set_cons_succ])
  refine wpAnyH_take (i := 3) (oi := _) (v := ?_) rfl (by kernel_rfl) (by kernel_rfl) (by kernel_rfl) (fun _ _ _ h => h) (Or.inl ⟨by rfl, ?_⟩) (by assumption) ?_
  rotate_left 1
  · intro w hSw
    (try dsimp only at hSw)
    go_split_ands
    go_simp
    (try with_reducible rfl)
  (try simp only [Act.put, List.setIfInBounds_toArray, List.set_cons_zero, List.set_cons_succ])
  refine wpAnyH_take (i := 4) (oi := _) (v := ?_) rfl (by kernel_rfl) (by kernel_rfl) (by kernel_rfl) (fun _ _ _ h => h) (Or.inl ⟨by rfl, ?_⟩) (by assumption) ?_
  rotate_left 1
  · intro w hSw
    (try dsimp only at hSw)
    go_split_ands
    go_simp
    (try with_reducible rfl)
  (try simp only [Act.put, List.setIfInBounds_toArray, List.set_cons_zero, List.set_cons_succ])
  refine wpAnyH_take (i := 5) (oi := _) (v := ?_) rfl (by kernel_rfl) (by kernel_rfl) (by kernel_rfl) (fun _ _ _ h => h) (Or.inl ⟨by rfl, ?_⟩) (by assumption) ?_
  rotate_left 1
  · intro w hSw
    (try dsimp only at hSw)
    go_split_ands
    go_simp
    (try with_reducible rfl)
  (try simp only [Act.put, List.setIfInBounds_toArray, List.set_cons_zero, List.set_cons_succ])
  refine wpAnyH_take (i := 6) (oi := _) (v := ?_) rfl (by kernel_rfl) (by kernel_rfl) (by kernel_rfl) (fun _ _ _ h => h) (Or.inl ⟨by rfl, ?_⟩) (by assumption) ?_
  rotate_left 1
  · intro w hSw
    (try dsimp only at hSw)
    go_split_ands
    go_simp
    (try with_reducible rfl)
  (try simp only [Act.put, List.setIfInBounds_toArray, List.set_cons_zero, List.set_cons_succ])
  refine wpAnyH_take (i := 7) (oi := _) (v := ?_) rfl (by kernel_rfl) (by kernel_rfl) (by kernel_rfl) (fun _ _ _ h => h) (Or.inl ⟨by rfl, ?_⟩) (by assumption) ?_
  rotate_left 1
  · intro w hSw
    (try dsimp only at hSw)
    go_split_ands
    go_simp
    (try with_reducible rfl)
  (try simp only [Act.put, List.setIfInBounds_toArray, List.set_cons_zero, List.set_cons_succ])
  refine wpAnyH_take (i := 8) (oi := _) (v := ?_) rfl (by kernel_rfl) (by kernel_rfl) (by kernel_rfl) (fun _ _ _ h => h) (Or.inl ⟨by rfl, ?_⟩) (by assumption) ?_
  rotate_left 1
  · intro w hSw
    (try dsimp only at hSw)
    go_split_ands
    go_simp
    (try with_reducible rfl)
  (try simp only [Act.put, List.setIfInBounds_toArray, List.set_cons_zero, List.set_cons_succ])
  refine wpAnyH_take (i := 9) (oi := _) (v := ?_) rfl (by kernel_rfl) (by kernel_rfl) (by kernel_rfl) (fun _ _ _ h => h) (Or.inl ⟨by rfl, ?_⟩) (by assumption) ?_
  rotate_left 1
  · intro w hSw
    (try dsimp only at hSw)
    go_split_ands
    go_simp
    (try with_reducible rfl)
  (try simp only [Act.put, List.setIfInBounds_toArray, List.set_cons_zero, List.set_cons_succ])
  refine wpAnyH_take (i := 10) (oi := _) (v := ?_) rfl (by kernel_rfl) (by kernel_rfl) (by kernel_rfl) (fun _ _ _ h => h) (Or.inl ⟨by rfl, ?_⟩) (by assumption) ?_
  rotate_left 1
  · intro w hSw
    (try dsimp only at hSw)
    go_split_ands
    go_simp
    (try with_reducible rfl)
  (try simp only [Act.put, List.setIfInBounds_toArray, List.set_cons_zero, List.set_cons_succ])
  refine wpAnyH_take (i := 11) (oi := _) (v := ?_) rfl (by kernel_rfl) (by kernel_rfl) (by kernel_rfl) (fun _ _ _ h => h) (Or.inl ⟨by rfl, ?_⟩) (by assumption) ?_
  rotate_left 1
  · intro w hSw
    (try dsimp only at hSw)
    go_split_ands
    go_simp
    (try with_reducible rfl)
  (try simp only [Act.put, List.setIfInBounds_toArray, List.set_cons_zero, List.set_cons_succ])
  refine wpAnyH_take (i := 12) (oi := _) (v := ?_) rfl (by kernel_rfl) (by kernel_rfl) (by kernel_rfl) (fun _ _ _ h => h) (Or.inl ⟨by rfl, ?_⟩) (by assumption) ?_
  rotate_left 1
  · intro w hSw
    (try dsimp only at hSw)
    go_split_ands
    go_simp
    (try with_reducible rfl)
  (try simp only [Act.put, List.setIfInBounds_toArray, List.set_cons_zero, List.set_cons_succ])
  refine wpAnyH_take (i := 13) (oi := _) (v := ?_) rfl (by kernel_rfl) (by kernel_rfl) (by kernel_rfl) (fun _ _ _ h => h) (Or.inl ⟨by rfl, ?_⟩) (by assumption) ?_
  rotate_left 1
  · intro w hSw
    (try dsimp only at hSw)
    go_split_ands
    go_simp
    (try with_reducible rfl)
  (try simp only [Act.put, List.setIfInBounds_toArray, List.set_cons_zero, List.set_cons_succ])
  refine wpAnyH_take (i := 14) (oi := _) (v := ?_) rfl (by kernel_rfl) (by kernel_rfl) (by kernel_rfl) (fun _ _ _ h => h) (Or.inl ⟨by rfl, ?_⟩) (by assumption) ?_
  rotate_left 1
  · intro w hSw
    (try dsimp only at hSw)
    go_split_ands
    go_simp
    (try with_reducible rfl)
  (try simp only [Act.put, List.setIfInBounds_toArray, List.set_cons_zero, List.set_cons_succ])
  refine wpAnyH_take (i := 15) (oi := _) (v := ?_) rfl (by kernel_rfl) (by kernel_rfl) (by kernel_rfl) (fun _ _ _ h => h) (Or.inl ⟨by rfl, ?_⟩) (by assumption) ?_
  rotate_left 1
  · intro w hSw
    (try dsimp only at hSw)
    go_split_ands
    go_simp
    (try with_reducible rfl)
  (try simp only [Act.put, List.setIfInBounds_toArray, List.set_cons_zero, List.set_cons_succ])
  refine wpAnyH_take (i := 16) (oi := _) (v := ?_) rfl (by kernel_rfl) (by kernel_rfl) (by kernel_rfl) (fun _ _ _ h => h) (Or.inl ⟨by rfl, ?_⟩) (by assumption) ?_
  rotate_left 1
  · intro w hSw
    (try dsimp only at hSw)
    go_split_ands
    go_simp
    (try with_reducible rfl)
  (try simp only [Act.put, List.setIfInBounds_toArray, List.set_cons_zero, List.set_cons_succ])
  refine wpAnyH_take (i := 17) (oi := _) (v := ?_) rfl (by kernel_rfl) (by kernel_rfl) (by kernel_rfl) (fun _ _ _ h => h) (Or.inl ⟨by rfl, ?_⟩) (by assumption) ?_
  rotate_left 1
  · intro w hSw
    (try dsimp only at hSw)
    go_split_ands
    go_simp
    (try with_reducible rfl)
  (try simp only [Act.put, List.setIfInBounds_toArray, List.set_cons_zero, List.set_cons_succ])
  refine wpAnyH_take (i := 18) (oi := _) (v := ?_) rfl (by kernel_rfl) (by kernel_rfl) (by kernel_rfl) (fun _ _ _ h => h) (Or.inl ⟨by rfl, ?_⟩) (by assumption) ?_
  rotate_left 1
  · intro w hSw
    (try dsimp only at hSw)
    go_split_ands
    go_simp
    (try with_reducible rfl)
  (try simp only [Act.put, List.setIfInBounds_toArray, List.set_cons_zero, List.set_cons_succ])
  refine wpAnyH_take (i := 19) (oi := _) (v := ?_) rfl (by kernel_rfl) (by kernel_rfl) (by kernel_rfl) (fun _ _ _ h => h) (Or.inl ⟨by rfl, ?_⟩) (by assumption) ?_
  rotate_left 1
  · intro w hSw
    (try dsimp only at hSw)
    go_split_ands
    go_simp
    (try with_reducible rfl)
  (try simp only [Act.put, List.setIfInBounds_toArray, List.set_cons_zero, List.set_cons_succ])
  refine wpAnyH_take (i := 20) (oi := _) (v := ?_) rfl (by kernel_rfl) (by kernel_rfl) (by kernel_rfl) (fun _ _ _ h => h) (Or.inl ⟨by rfl, ?_⟩) (by assumption) ?_
  rotate_left 1
  · intro w hSw
    (try dsimp only at hSw)
    go_split_ands
    go_simp
    (try with_reducible rfl)
  (try simp only [Act.put, List.setIfInBounds_toArray, List.set_cons_zero, List.set_cons_succ])
  refine wpAnyH_take (i := 21) (oi := _) (v := ?_) rfl (by kernel_rfl) (by kernel_rfl) (by kernel_rfl) (fun _ _ _ h => h) (Or.inl ⟨by rfl, ?_⟩) (by assumption) ?_
  rotate_left 1
  · intro w hSw
    (try dsimp only at hSw)
    go_split_ands
    go_simp
    (try with_reducible rfl)
  (try simp only [Act.put, List.setIfInBounds_toArray, List.set_cons_zero, List.set_cons_succ])
  refine wpAnyH_take (i := 22) (oi := _) (v := ?_) rfl (by kernel_rfl) (by kernel_rfl) (by kernel_rfl) (fun _ _ _ h => h) (Or.inl ⟨by rfl, ?_⟩) (by assumption) ?_
  rotate_left 1
  · intro w hSw
    (try dsimp only at hSw)
    go_split_ands
    go_simp
    (try with_reducible rfl)
  (try simp only [Act.put, List.setIfInBounds_toArray, List.set_cons_zero, List.set_cons_succ])
  refine wpAnyH_take (i := 23) (oi := _) (v := ?_) rfl (by kernel_rfl) (by kernel_rfl) (by kernel_rfl) (fun _ _ _ h => h) (Or.inl ⟨by rfl, ?_⟩) (by assumption) ?_
  rotate_left 1
  · intro w hSw
    (try dsimp only at hSw)
    go_split_ands
    go_simp
    (try with_reducible rfl)
  (try simp only [Act.put, List.setIfInBounds_toArray, List.set_cons_zero, List.set_cons_succ])
  refine wpAnyH_take (i := 24) (oi := _) (v := ?_) rfl (by kernel_rfl) (by kernel_rfl) (by kernel_rfl) (fun _ _ _ h => h) (Or.inl ⟨by rfl, ?_⟩) (by assumption) ?_
  rotate_left 1
  · intro w hSw
    (try dsimp only at hSw)
    go_split_ands
    go_simp
    (try with_reducible rfl)
  (try simp only [Act.put, List.setIfInBounds_toArray, List.set_cons_zero, List.set_cons_succ])
  refine wpAnyH_take (i := 25) (oi := _) (v := ?_) rfl (by kernel_rfl) (by kernel_rfl) (by kernel_rfl) (fun _ _ _ h => h) (Or.inl ⟨by rfl, ?_⟩) (by assumption) ?_
  rotate_left 1
  · intro w hSw
    (try dsimp only at hSw)
    go_split_ands
    go_simp
    (try with_reducible rfl)
  (try simp only [Act.put, List.setIfInBounds_toArray, List.set_cons_zero, List.set_cons_succ])
  refine wpAnyH_take (i := 26) (oi := _) (v := ?_) rfl (by kernel_rfl) (by kernel_rfl) (by kernel_rfl) (fun _ _ _ h => h) (Or.inl ⟨by rfl, ?_⟩) (by assumption) ?_
  rotate_left 1
  · intro w hSw
    (try dsimp only at hSw)
    go_split_ands
    go_simp
    (try with_reducible rfl)
  (try simp only [Act.put, List.setIfInBounds_toArray, List.set_cons_zero, List.set_cons_succ])
  refine wpAnyH_take (i := 27) (oi := _) (v := ?_) rfl (by kernel_rfl) (by kernel_rfl) (by kernel_rfl) (fun _ _ _ h => h) (Or.inl ⟨by rfl, ?_⟩) (by assumption) ?_
  rotate_left 1
  · intro w hSw
    (try dsimp only at hSw)
    go_split_ands
    go_simp
    (try with_reducible rfl)
  (try simp only [Act.put, List.setIfInBounds_toArray, List.set_cons_zero, List.set_cons_succ])
  refine wpAnyH_ready (rs := [28]) (by kernel_rfl) (by simp) (AllReadyH.cons (o := _) rfl (fun K hK => ?_) AllReadyH.nil)
  go_simp
  refine hK.out _ _ ?_ (fun hHeld => ?_)
  · exact ⟨blk_cell (blk_alloc HBL.out _) 0, blk_cell (blk_alloc HBL.out _) 1, hcv2⟩
  clear hK K
  (try simp only [Act.put, List.setIfInBounds_toArray, List.set_cons_zero, List.set_cons_succ])
  refine wpAnyH_ready (rs := [29]) (by kernel_rfl) (by simp) (AllReadyH.cons (o := _) rfl (fun K hK => ?_) AllReadyH.nil)
  go_simp
  refine hK.out _ _ ?_ (fun hHeld => ?_)
  · exact ⟨blk_cell (blk_alloc HBL.out _) 0, blk_cell (blk_alloc HBL.out _) 1, hcv2⟩
  clear hK K
  (try simp only [Act.put, List.setIfInBounds_toArray, List.set_cons_zero, List.set_cons_succ])
  refine wpAnyH_ready (rs := [30]) (by kernel_rfl) (by simp) (AllReadyH.cons (o := _) rfl (fun K hK => ?_) AllReadyH.nil)
  go_simp
  refine hK.out _ _ ?_ (fun hHeld => ?_)
  · exact ⟨blk_cell (blk_alloc HBL.out _) 0, blk_cell (blk_alloc HBL.out _) 1, hcv2⟩
  clear hK K
  (try simp only [Act.put, List.setIfInBounds_toArray, List.set_cons_zero, List.set_cons_succ])
  refine wpAnyH_ready (rs := [31]) (by kernel_rfl) (by simp) (AllReadyH.cons (o := _) rfl (fun K hK => ?_) AllReadyH.nil)
  go_simp
  refine hK.out _ _ ?_ (fun hHeld => ?_)
  · exact ⟨blk_cell (blk_alloc HBL.out _) 0, blk_cell (blk_alloc HBL.out _) 1, hcv2⟩
  clear hK K
  (try simp only [Act.put, List.setIfInBounds_toArray, List.set_cons_zero, List.set_cons_succ])
  refine wpAnyH_done (by kernel_rfl) ?_ _
  all_goals go_wp2
  all_goals (go_ret; refine ⟨?_, (((Below.refl _ _).alloc (Nat.le_refl _) _).drew)⟩)
  all_goals
    have e1 : S1 ++ S2 = strOfNums (beI (e.L + 4) e.V) := by
      rw [← HS1.out, ← HS2.out, beI_app, p4, hD, ← strOfNums_app]
      congr 2
      exact four_bytes e.V lo c3 c2 c1 c0 hlo h3 h2 h1 h0
    rw [e1]
    rfl
end Go.Proofs.Ytgldblakdhalkaa
