/- What the reference's reader comes to (From, ahead): an error, or the number that stands. Conditions: as each contract states. -/
import Derived.Test.YtgldblakdhalkaaRnum
import Derived.Test.YtgldblakdhalkaaGOpen
namespace Go.Proofs.Ytgldblakdhalkaa
set_option linter.unusedVariables false
open Go.RowKit Go.Proofs.YtgldblakdhalkaaW.PrintWords Go.Proofs.YtgldblakdhalkaaW.PrintLast Go.Proofs.YtgldblakdhalkaaW.PrintMore Go.Proofs.Ytgldblakdhalkaa.PBase
def rdCells (s : ByteArray) (gc : Nat) (bad : Bool) : Array Value := #[.string s, .pointer (some ⟨gc, 0, none⟩), .bool bad]
/-- A decoder could stand at e: no byte is passed. -/
def Told (s : ByteArray) (e : Enc) : Prop := ∃ a v, DecIn s e a v
theorem Told.lo {s : ByteArray} {e : Enc} (h : Told s e) : e.L + 4 ≤ s.size → e.V ≤ numB s (e.L + 4) := by
  obtain ⟨a, v, hI⟩ := h
  exact fun hs => hI.open_ hs
theorem LiveAt.told {w : World} {g : Nat} {s : ByteArray} {e : Enc} (h : LiveAt w g s e) : Told s e := by
  obtain ⟨a, v, _, hI⟩ := h
  exact ⟨a, v, hI⟩
/-- The reference's reader in memory. -/
structure ReadAt (w : World) (B g gc : Nat) (s : ByteArray) (e : Enc) (v : Value) : Prop where
  blk : w.heap[g]? = some (.cells (rdCells s gc false) 97 (0, 0))
  cod : CodAt w B gc e v
  ne : g ≠ gc
  far : v.ownBlock ≠ some g
  told : Told s e
/-- One that says nothing any more. -/
def BadAt (w : World) (g : Nat) (s : ByteArray) : Prop := ∃ gc : Nat, w.heap[g]? = some (.cells (rdCells s gc true) 97 (0, 0))
def rfoot (g gc : Nat) (v : Value) (k : Nat) : Prop := k = g ∨ k = gc ∨ v.ownBlock = some k
theorem ReadAt.mine {S : Nat → Prop} {w w' : World} {B g gc : Nat} {s : ByteArray} {e : Enc} {v : Value} (h : ReadAt w B g gc s e v) (hm : Mine S w w') (hn : ∀ k, rfoot g gc v k → ¬ S k) : ReadAt w' B g gc s e v :=
  ⟨blk_mine h.blk hm (hn g (Or.inl rfl)), h.cod.mine hm (hn gc (Or.inr (Or.inl rfl))) (fun k hk => hn k (Or.inr (Or.inr hk))), h.ne, h.far, h.told⟩
theorem ReadAt.below {w w' : World} {B g gc : Nat} {s : ByteArray} {e : Enc} {v : Value} (h : ReadAt w B g gc s e v) (hb : Below w.heap.size w w') : ReadAt w' B g gc s e v :=
  h.mine (Mine.of_below (fun _ => False) hb) (fun _ _ h => h)
theorem BadAt.mine {S : Nat → Prop} {w w' : World} {g : Nat} {s : ByteArray} (h : BadAt w g s) (hm : Mine S w w') (hg : ¬ S g) : BadAt w' g s := by
  obtain ⟨gc, h1⟩ := h
  exact ⟨gc, blk_mine h1 hm hg⟩
theorem BadAt.below {w w' : World} {g : Nat} {s : ByteArray} (h : BadAt w g s) (hb : Below w.heap.size w w') : BadAt w' g s := h.mine (Mine.of_below (fun _ => False) hb) (fun h => h)
def got (n : Nat) (er : Nat) : Value := .agg #[.int .u64 (n : Int), .int .i64 0, .int .i64 (er : Int)]
set_option maxHeartbeats 2000000 in
set_option maxRecDepth 100000 in
theorem ref_From.calls (s : ByteArray) (w : World) :
    Calls Try.prog 31 #[.string s] w fun e w' => ∃ g gc v, e = .returned (.pointer (some ⟨g, 0, none⟩)) ∧ ReadAt w' w.heap.size g gc s Enc.new v ∧ (∀ k, rfoot g gc v k → w.heap.size ≤ k) ∧ Below w.heap.size w w' := by
  have hu2 := Try.underlying97
  go_enter Try.func31, Try.ntmps31
  go_wp2_with fail
  refine (ref_New.calls _).mono ?_
  rintro r w1 ⟨gc, v, rfl, hS, hg, hb⟩
  have HS := Aside0.mk hS
  have HB := Aside0.mk hb
  have hlt : Aside0 (gc < w1.heap.size) := ⟨blk_lt hS.blk⟩
  have hvl : Aside0 (∀ k, v.ownBlock = some k → w.heap.size ≤ k ∧ k < w1.heap.size) := ⟨fun k hk => hS.own.lt k hk⟩
  have hgg := Aside0.mk hg
  clear hS hb hg
  go_wp2
  go_ret
  refine ⟨w1.heap.size, gc, v, rfl, ⟨blk_new _ _, HS.out.below ((Below.refl _ _).alloc (Nat.le_refl _) _), fun h => by have := hlt.out; omega, fun h => by have := hvl.out _ h; omega, ⟨0, 0, DecIn.start s⟩⟩, ?_, below_alloc HB.out _⟩
  rintro k (h | h | h)
  · rw [h]; exact HB.out.size
  · rw [h]; exact hgg.out
  · exact (hvl.out k h).1
set_option maxHeartbeats 2000000 in
set_option maxRecDepth 100000 in
theorem ref_ahead.bad (s : ByteArray) (g : Nat) (w : World) (hS : Aside0 (BadAt w g s)) :
    Calls Try.prog 57 #[.pointer (some ⟨g, 0, none⟩)] w fun r w' => r = .returned (got 0 3) ∧ Below w.heap.size w w' := by
  have hu2 := Try.underlying97
  have hu3 := Try.underlying56
  obtain ⟨gc, hb⟩ := hS.out
  have hc2 : (w.alloc (.cells #[.int .u64 0, .int .i64 0, .int .i64 0] 56)).cell? ⟨g, 2, none⟩ = some (.bool true) := blk_cell (blk_alloc hb _) 2
  clear hb
  go_enter Try.func57, Try.ntmps57
  go_wp2
  exact bodyPost_ret (v := got 0 3) (by simp [results, Try.results57, go_sem, got]) rfl ⟨rfl, (below_alloc (Below.refl _ _) _)⟩
set_option maxHeartbeats 2000000 in
set_option maxRecDepth 100000 in
theorem ref_ahead.more (s : ByteArray) (e : Enc) (v : Value) (B g gc : Nat) (w : World) (hS : Aside0 (ReadAt w B g gc s e v)) (hm : s.size < e.L + 4) :
    Calls Try.prog 57 #[.pointer (some ⟨g, 0, none⟩)] w fun r w' => r = .returned (got 0 2) ∧ BadAt w' g s ∧ Mine (· = g) w w' := by
  have hu2 := Try.underlying97
  have hu3 := Try.underlying56
  have hu4 := Try.underlying89
  obtain ⟨b, C, rfl, hbB⟩ := own_form hS.out.cod.own (by omega)
  obtain ⟨n, hn⟩ : ∃ n, e.L + 4 = n := ⟨_, rfl⟩
  have BA := Aside0.mk hS.out.blk
  have CA := Aside0.mk hS.out.cod.blk
  rw [hn] at CA hm
  have hW : Mine (· = g) w (w.alloc (.cells #[.int .u64 0, .int .i64 0, .int .i64 0] 56)) := Mine.alloc (Mine.refl _ _) _
  have BA1 := Aside0.mk (blk_alloc BA.out (.cells #[.int .u64 0, .int .i64 0, .int .i64 0] 56))
  have CA1 := Aside0.mk (blk_alloc CA.out (.cells #[.int .u64 0, .int .i64 0, .int .i64 0] 56))
  have hc0 : (w.alloc (.cells #[.int .u64 0, .int .i64 0, .int .i64 0] 56)).cell? ⟨g, 0, none⟩ = some (.string s) := blk_cell BA1.out 0
  have hc1 : (w.alloc (.cells #[.int .u64 0, .int .i64 0, .int .i64 0] 56)).cell? ⟨g, 1, none⟩ = some (.pointer (some ⟨gc, 0, none⟩)) := blk_cell BA1.out 1
  have hc2 : (w.alloc (.cells #[.int .u64 0, .int .i64 0, .int .i64 0] 56)).cell? ⟨g, 2, none⟩ = some (.bool false) := blk_cell BA1.out 2
  have hf2 := blk_frozen BA1.out 2
  have hd0 : (w.alloc (.cells #[.int .u64 0, .int .i64 0, .int .i64 0] 56)).cell? ⟨gc, 0, none⟩ = some (.slice (some ⟨b, 0, none⟩) n C) := blk_cell CA1.out 0
  have hb2 : decide ((s.size : Int) < (n : Int)) = true := decide_eq_true (by omega)
  have hb3 : decide (s.size < n) = true := decide_eq_true hm
  have hgl : Aside0 (g < w.heap.size) := ⟨blk_lt BA.out⟩
  have hg3 : ((w.alloc (.cells #[.int .u64 0, .int .i64 0, .int .i64 0] 56)).setCell ⟨g, 2, none⟩ (.bool true)).heap[w.heap.size]? = some (.cells #[.int .u64 0, .int .i64 0, .int .i64 0] 56 (0, 0)) := blk_far (blk_new _ _) (p := ⟨g, 2, none⟩) (Nat.ne_of_gt hgl.out) _
  have hr0 := blk_cell hg3 0
  have hr1 := blk_cell hg3 1
  have hr2 := blk_cell hg3 2
  have hq0 := blk_frozen hg3 0
  have hq1 := blk_frozen hg3 1
  have hq2 := blk_frozen hg3 2
  clear hg3
  simp at hr0 hr1 hr2
  go_enter Try.func57, Try.ntmps57
  go_wp2
  refine bodyPost_ret (v := got 0 2) (by simp [results, Try.results57, go_sem, got, hr0, hr1, hr2]) rfl ⟨rfl, ?_, ?_⟩
  · exact ⟨gc, blk_far (blk_far (blk_far (blk_put (cs' := rdCells s gc true) BA1.out 2 (.bool true) rfl) (p := ⟨w.heap.size, 0, none⟩) (Nat.ne_of_lt hgl.out) _) (p := ⟨w.heap.size, 1, none⟩) (Nat.ne_of_lt hgl.out) _) (p := ⟨w.heap.size, 2, none⟩) (Nat.ne_of_lt hgl.out) _⟩
  · exact Mine.set (Mine.set (Mine.set (Mine.set hW (Or.inl rfl) _) (Or.inr (Nat.le_refl _)) _) (Or.inr (Nat.le_refl _)) _) (Or.inr (Nat.le_refl _)) _
theorem dg_bn (s : ByteArray) (n i : Nat) (h : i < n) : dg (numB s n) i = bn s (n - 1 - i) := by
  have h1 := numB_take s (n - i) i
  rw [show n - i + i = n by omega] at h1
  unfold dg
  rw [← h1, show n - i = n - 1 - i + 1 by omega]
  show (numB s (n - 1 - i) * 256 + bn s (n - 1 - i)) % 256 = _
  have := bn_lt s (n - 1 - i)
  omega
theorem or_up (X V i t : Nat) (h : i < 7) (ht : t < 256) (hd : dfB X V (i + 1) = dfB X V i + 256 ^ i * t) :
    Go.bits .or .u64 ((dfB X V i % p7 : Nat) : Int) (IntKind.u64.wrap ((t : Int) * 2 ^ (8 * i))) = ((dfB X V (i + 1) % p7 : Nat) : Int) := by
  have h1 := low_small X V i (by omega)
  have h2 := low_small X V (i + 1) (by omega)
  have h3 := dfB_lt X V i
  have e8 : (256 : Nat) ^ i = 2 ^ (8 * i) := by rw [show (256 : Nat) = 2 ^ 8 from rfl, ← Nat.pow_mul]
  rw [h1.1, h2.1, hd]
  rw [e8] at h3 ⊢
  have hp : 2 ^ (8 * i) ≤ 2 ^ 48 := Nat.pow_le_pow_right (by decide) (by omega)
  have hm : t * 2 ^ (8 * i) ≤ 255 * 2 ^ (8 * i) := Nat.mul_le_mul_right _ (by omega)
  have e2 : ((t : Int) * 2 ^ (8 * i)) = ((t * 2 ^ (8 * i) : Nat) : Int) := by push_cast; rfl
  rw [e2, wrap_u64 _ (by omega) (by omega), u64_or_nat _ _ (by omega) (by omega), or_nat _ _ _ h3, Nat.mul_comm t]
theorem val_u64 {a b : Int} (h : a = b) : Value.int .u64 a = .int .u64 b := by rw [h]
theorem val_i64 {a b : Int} (h : a = b) : Value.int .i64 a = .int .i64 b := by rw [h]
theorem val_bool {a b : Bool} (h : a = b) : Value.bool a = .bool b := by rw [h]
theorem below_of_set3 {w wr : World} {gr : Nat} {a b c : Value} (h : Below w.heap.size w wr) (hg : w.heap.size = gr) : Below w.heap.size w (((wr.setCell ⟨gr, 0, none⟩ a).setCell ⟨gr, 1, none⟩ b).setCell ⟨gr, 2, none⟩ c) :=
  Mine.to_below (w := wr) (S := (· = gr)) (Mine.set (Mine.set (Mine.set (Mine.refl (· = gr) _) (Or.inl rfl) _) (Or.inl rfl) _) (Or.inl rfl) _) h h.size (fun k hk => by rw [hk, ← hg]; exact Nat.le_refl _)
attribute [local go_sem ↓] Go.wp_at_zero Go.wp_at_succ
set_option maxHeartbeats 4000000 in
set_option maxRecDepth 100000 in
theorem ref_ahead.read (s : ByteArray) (e : Enc) (v : Value) (B g gc : Nat) (w : World) (hS : Aside0 (ReadAt w B g gc s e v)) (hok : Aside0 e.ok) (hL : Aside0 (e.L ≤ 1000000000)) (hsz : Aside0 (s.size ≤ 1000000000)) (hm : e.L + 4 ≤ s.size) (x : Nat) (hx : numB s (e.L + 4) = x + e.V) :
    Calls Try.prog 57 #[.pointer (some ⟨g, 0, none⟩)] w fun r w' => (x < e.R ∧ r = .returned (got x 0) ∧ Below w.heap.size w w' ∨ e.R ≤ x ∧ r = .returned (got 0 3) ∧ BadAt w' g s) ∧ Mine (· = g) w w' := by
  have hu2 := Try.underlying97
  have hu3 := Try.underlying56
  have hu4 := Try.underlying89
  obtain ⟨b, C, rfl, hbB⟩ := own_form hS.out.cod.own (by omega)
  obtain ⟨n, hn⟩ : ∃ n, e.L + 4 = n := ⟨_, rfl⟩
  have BA := Aside0.mk hS.out.blk
  have CA := Aside0.mk hS.out.cod.blk
  have HO := Aside0.mk hS.out.cod.own
  have hgl : Aside0 (g < w.heap.size) := ⟨blk_lt BA.out⟩
  rw [hn] at CA hm hx HO
  obtain ⟨w1, hw1⟩ : ∃ w1, w.alloc (.cells #[.int .u64 0, .int .i64 0, .int .i64 0] 56) = w1 := ⟨_, rfl⟩
  have HB : Below w.heap.size w w1 := by rw [← hw1]; exact below_alloc (Below.refl _ _) _
  have BA1 := Aside0.mk (blk_below BA.out HB)
  have CA1 := Aside0.mk (blk_below CA.out HB)
  have HO1 : Aside0 (w1.ownsRow B 5 1 (.slice (some ⟨b, 0, none⟩) n C) n (u8s (beI n e.V))) := ⟨own_frame HO.out (fun k hk => HB.block k (HO.out.lt k hk).2)⟩
  have NA1 : Aside0 (w1.heap[w.heap.size]? = some (.cells #[.int .u64 0, .int .i64 0, .int .i64 0] 56 (0, 0))) := ⟨by rw [← hw1]; exact blk_new _ _⟩
  have HB1 := Aside0.mk HB
  clear HB BA CA HO hS
  obtain ⟨gr, hgr⟩ : ∃ gr, w.heap.size = gr := ⟨_, rfl⟩
  rw [hgr] at HB1 NA1 hgl
  have hc0 : w1.cell? ⟨g, 0, none⟩ = some (.string s) := blk_cell BA1.out 0
  have hc1 : w1.cell? ⟨g, 1, none⟩ = some (.pointer (some ⟨gc, 0, none⟩)) := blk_cell BA1.out 1
  have hc2 : w1.cell? ⟨g, 2, none⟩ = some (.bool false) := blk_cell BA1.out 2
  have hd0 : w1.cell? ⟨gc, 0, none⟩ = some (.slice (some ⟨b, 0, none⟩) n C) := blk_cell CA1.out 0
  have hb2 : decide ((s.size : Int) < (n : Int)) = false := decide_eq_false (by omega)
  have hb3 : decide (s.size < n) = false := decide_eq_false (by omega)
  have hV : Aside0 (e.V < 256 ^ n) := ⟨by rw [← hn]; exact ok_fits hok.out⟩
  have hnl : n ≤ 1000000004 := by have := hL.out; omega
  obtain ⟨X, hX⟩ : ∃ X, numB s n = X := ⟨_, rfl⟩
  have hdg := Aside0.mk (fun i h => dg_bn s n i h)
  have hXl := Aside0.mk (numB_lt s n)
  rw [hX] at hdg hx hXl
  have hxx := Aside0.mk hx
  clear hx hX
  go_enter Try.func57, Try.ntmps57
  go_wp2_with fail
  clear hc0 hc1 hc2 hd0 hb2 hb3 hw1
  go_loopg [4, 5, 6, 7] (n + 1) (fun kq v4 v5 v6 v7 w' => ∃ i : Nat, v4 = .int .u64 ((dfB X e.V i % p7 : Nat) : Int) ∧ v5 = .int .i64 ((owB X e.V i : Nat) : Int) ∧ v6 = .bool (decide (p7 ≤ dfB X e.V i)) ∧ v7 = .int .i64 (i : Int) ∧ Aside0 (i ≤ n) ∧ Aside0 (kq = n - i + 1) ∧ Aside0 (Below w1.heap.size w1 w'))
  case atStart => exact ⟨0, by rw [dfB_zero, Nat.zero_mod]; rfl, by rw [owB_zero]; rfl, by rw [dfB_zero, decide_eq_false (by unfold p7; decide)], rfl, ⟨Nat.zero_le _⟩, ⟨rfl⟩, ⟨Below.refl _ _⟩⟩
  case round =>
    obtain ⟨i, rfl, rfl, rfl, rfl, hi, hk, HB⟩ := hrel
    cases gk with
    | zero => exact absurd hk.out (by omega)
    | succ k1 =>
      have BA2 := Aside0.mk (blk_below BA1.out HB.out)
      have CA2 := Aside0.mk (blk_below CA1.out HB.out)
      have NA2 := Aside0.mk (blk_below NA1.out HB.out)
      have hin := hi.out
      have hc0 : wr.cell? ⟨g, 0, none⟩ = some (.string s) := blk_cell BA2.out 0
      have hc1 : wr.cell? ⟨g, 1, none⟩ = some (.pointer (some ⟨gc, 0, none⟩)) := blk_cell BA2.out 1
      have hd0 : wr.cell? ⟨gc, 0, none⟩ = some (.slice (some ⟨b, 0, none⟩) n C) := blk_cell CA2.out 0
      by_cases hil : i < n
      · have hil1 : decide ((i : Int) < (n : Int)) = true := decide_eq_true (by omega)
        obtain ⟨j, hj⟩ : ∃ j, n - 1 - i = j := ⟨_, rfl⟩
        have hjn : j < n := by omega
        have HO2 : Aside0 (wr.ownsRow B 5 1 (.slice (some ⟨b, 0, none⟩) n C) n (u8s (beI n e.V))) := ⟨own_frame HO1.out (fun k hk => HB.out.block k (HO1.out.lt k hk).2)⟩
        have hcl := (own_cell HO2.out j _ (beI_get n e.V j hjn)).1
        rw [show n - 1 - j = i by omega] at hcl
        have hxb := hdg.out i hil
        rw [hj] at hxb
        have hup := sub_up X e.V i
        have hxl := dg_lt X i
        have hyl := dg_lt e.V i
        have hol := owB_le X e.V i
        obtain ⟨xb, hxb2⟩ : ∃ xb, dg X i = xb := ⟨_, rfl⟩
        obtain ⟨yb, hyb2⟩ : ∃ yb, dg e.V i = yb := ⟨_, rfl⟩
        rw [hxb2] at hxb hup hxl
        rw [hyb2] at hup hyl hcl
        have hx0 : ∀ h : j < s.size, ((s[j]'h).toNat : Int) = (xb : Int) := fun h => by rw [hxb, ← bt_bn]; exact bt_at s (j : Int) h
        have e1 : (n : Int) - 1 - (i : Int) = (j : Int) := by omega
        have hj0 := eq_true (show (0 : Int) ≤ (j : Int) by omega)
        have hj1 := eq_true (show (j : Int) < (s.size : Int) by omega)
        have hj2 := eq_true (show j < s.size by omega)
        have hj3 := eq_true (show (j : Int) < (n : Int) by omega)
        have hj4 := eq_true hjn
        obtain ⟨o, ho⟩ : ∃ o, owB X e.V i = o := ⟨_, rfl⟩
        rw [ho] at hup hol ⊢
        have HUP := Aside0.mk hup
        have hwx : IntKind.i64.wrap (xb : Int) = (xb : Int) := by rw [IntKind.wrap_i64]; omega
        have hwy : IntKind.i64.wrap (yb : Int) = (yb : Int) := by rw [IntKind.wrap_i64]; omega
        have hws : IntKind.i64.wrap ((xb : Int) - (yb : Int)) = (xb : Int) - (yb : Int) := by rw [IntKind.wrap_i64]; omega
        clear hup hxb hxb2 hyb2 ho hj
        have hE1 : ∀ tt oo : Nat, oo = (if xb < yb + o then 1 else 0) → tt = xb + 256 * oo - (yb + o) → owB X e.V (i + 1) = oo ∧ dfB X e.V (i + 1) = dfB X e.V i + 256 ^ i * tt := fun tt oo h1 h2 => by
          have h3 := HUP.out.1
          rw [← h1] at h3
          have h4 := HUP.out.2
          rw [h3, ← h2] at h4
          exact ⟨h3, h4⟩
        clear HUP
        obtain ⟨d, hd⟩ : ∃ d, dfB X e.V i % p7 = d := ⟨_, rfl⟩
        obtain ⟨l, hl⟩ : ∃ l, decide (p7 ≤ dfB X e.V i) = l := ⟨_, rfl⟩
        rw [hd, hl]
        by_cases hlt : xb < yb + o
        · skip
          obtain ⟨t, ht⟩ : ∃ t, xb + 256 - (yb + o) = t := ⟨_, rfl⟩
          have hwz : IntKind.i64.wrap ((xb : Int) - (yb : Int) - (o : Int)) = (t : Int) - 256 := by rw [IntKind.wrap_i64]; omega
          have hneg : decide ((t : Int) - 256 < 0) = true := decide_eq_true (by omega)
          have htl : t < 256 := by omega
          by_cases h7 : i < 7
          · have h71 : decide ((i : Int) < 7) = true := decide_eq_true (by omega)
            have hS1 := Aside0.mk (hE1 t 1 (by rw [if_pos hlt]) (by omega))
            have HD := Aside0.mk hd
            have HL := Aside0.mk hl
            clear hE1 hd hl ht
            go_wp2_with fail
            go_quiet (fail)
            go_wp2_with fail
            go_roundg k1
            case measure => omega
            case rel => exact ⟨i + 1, val_u64 (by rw [← HD.out]; exact or_up X e.V i t h7 htl hS1.out.2), val_i64 (by rw [hS1.out.1]; rfl), val_bool (by rw [← HL.out, decide_eq_false (by have := (low_small X e.V i (by omega)).2; omega), decide_eq_false (by have := (low_small X e.V (i + 1) (by omega)).2; omega)]), by first | rfl | exact wrap_one i (by omega) | exact val_i64 (by omega), ⟨hil⟩, ⟨by have := hk.out; omega⟩, ⟨below_then HB.out HB.out.size (below_drewN (Below.refl _ _) _)⟩⟩
          · have h71 : decide ((i : Int) < 7) = false := decide_eq_false (by omega)
            cases l
            · by_cases hp : 0 < t
              · have hp1 : decide ((t : Int) > 0) = true := decide_eq_true (by omega)
                have hp2 : decide (0 < (t : Int)) = true := decide_eq_true (by omega)
                have hp3 : decide (0 < t) = true := decide_eq_true hp
                have hS1 := Aside0.mk (hE1 t 1 (by rw [if_pos hlt]) (by omega))
                have HD := Aside0.mk hd
                have HL := Aside0.mk hl
                clear hE1 hd hl ht
                go_wp2_with fail
                go_quiet (fail)
                go_wp2_with fail
                go_roundg k1
                case measure => omega
                case rel => exact ⟨i + 1, val_u64 (by rw [← HD.out, (low_up X e.V i t (by omega) hS1.out.2).1]), val_i64 (by rw [hS1.out.1]; rfl), val_bool (by rw [decide_eq_true ((low_up X e.V i t (by omega) hS1.out.2).2.2 (Or.inr (by omega)))]), by first | rfl | exact wrap_one i (by omega) | exact val_i64 (by omega), ⟨hil⟩, ⟨by have := hk.out; omega⟩, ⟨below_then HB.out HB.out.size (below_drewN (Below.refl _ _) _)⟩⟩
              · have hp1 : decide ((t : Int) > 0) = false := decide_eq_false (by omega)
                have hp2 : decide (0 < (t : Int)) = false := decide_eq_false (by omega)
                have hp3 : decide (0 < t) = false := decide_eq_false hp
                have hS1 := Aside0.mk (hE1 t 1 (by rw [if_pos hlt]) (by omega))
                have HD := Aside0.mk hd
                have HL := Aside0.mk hl
                clear hE1 hd hl ht
                go_wp2_with fail
                go_quiet (fail)
                go_wp2_with fail
                go_roundg k1
                case measure => omega
                case rel => exact ⟨i + 1, val_u64 (by rw [← HD.out, (low_up X e.V i t (by omega) hS1.out.2).1]), val_i64 (by rw [hS1.out.1]; rfl), val_bool (by rw [decide_eq_false (fun h => ((low_up X e.V i t (by omega) hS1.out.2).2.1 h).elim (of_decide_eq_false HL.out) (fun h => by omega))]), by first | rfl | exact wrap_one i (by omega) | exact val_i64 (by omega), ⟨hil⟩, ⟨by have := hk.out; omega⟩, ⟨below_then HB.out HB.out.size (below_drewN (Below.refl _ _) _)⟩⟩
            · skip
              have hS1 := Aside0.mk (hE1 t 1 (by rw [if_pos hlt]) (by omega))
              have HD := Aside0.mk hd
              have HL := Aside0.mk hl
              clear hE1 hd hl ht
              go_wp2_with fail
              go_quiet (fail)
              go_wp2_with fail
              go_roundg k1
              case measure => omega
              case rel => exact ⟨i + 1, val_u64 (by rw [← HD.out, (low_up X e.V i t (by omega) hS1.out.2).1]), val_i64 (by rw [hS1.out.1]; rfl), val_bool (by rw [decide_eq_true ((low_up X e.V i t (by omega) hS1.out.2).2.2 (Or.inl (of_decide_eq_true HL.out)))]), by first | rfl | exact wrap_one i (by omega) | exact val_i64 (by omega), ⟨hil⟩, ⟨by have := hk.out; omega⟩, ⟨below_then HB.out HB.out.size (below_drewN (Below.refl _ _) _)⟩⟩
        · skip
          obtain ⟨t, ht⟩ : ∃ t, xb - (yb + o) = t := ⟨_, rfl⟩
          have hwz : IntKind.i64.wrap ((xb : Int) - (yb : Int) - (o : Int)) = (t : Int) := by rw [IntKind.wrap_i64]; omega
          have hneg : decide ((t : Int) < 0) = false := decide_eq_false (by omega)
          have htl : t < 256 := by omega
          by_cases h7 : i < 7
          · have h71 : decide ((i : Int) < 7) = true := decide_eq_true (by omega)
            have hS1 := Aside0.mk (hE1 t 0 (by rw [if_neg hlt]) (by omega))
            have HD := Aside0.mk hd
            have HL := Aside0.mk hl
            clear hE1 hd hl ht
            go_wp2_with fail
            go_quiet (fail)
            go_wp2_with fail
            go_roundg k1
            case measure => omega
            case rel => exact ⟨i + 1, val_u64 (by rw [← HD.out]; exact or_up X e.V i t h7 htl hS1.out.2), val_i64 (by rw [hS1.out.1]; rfl), val_bool (by rw [← HL.out, decide_eq_false (by have := (low_small X e.V i (by omega)).2; omega), decide_eq_false (by have := (low_small X e.V (i + 1) (by omega)).2; omega)]), by first | rfl | exact wrap_one i (by omega) | exact val_i64 (by omega), ⟨hil⟩, ⟨by have := hk.out; omega⟩, ⟨below_then HB.out HB.out.size (below_drewN (Below.refl _ _) _)⟩⟩
          · have h71 : decide ((i : Int) < 7) = false := decide_eq_false (by omega)
            cases l
            · by_cases hp : 0 < t
              · have hp1 : decide ((t : Int) > 0) = true := decide_eq_true (by omega)
                have hp2 : decide (0 < (t : Int)) = true := decide_eq_true (by omega)
                have hp3 : decide (0 < t) = true := decide_eq_true hp
                have hS1 := Aside0.mk (hE1 t 0 (by rw [if_neg hlt]) (by omega))
                have HD := Aside0.mk hd
                have HL := Aside0.mk hl
                clear hE1 hd hl ht
                go_wp2_with fail
                go_quiet (fail)
                go_wp2_with fail
                go_roundg k1
                case measure => omega
                case rel => exact ⟨i + 1, val_u64 (by rw [← HD.out, (low_up X e.V i t (by omega) hS1.out.2).1]), val_i64 (by rw [hS1.out.1]; rfl), val_bool (by rw [decide_eq_true ((low_up X e.V i t (by omega) hS1.out.2).2.2 (Or.inr (by omega)))]), by first | rfl | exact wrap_one i (by omega) | exact val_i64 (by omega), ⟨hil⟩, ⟨by have := hk.out; omega⟩, ⟨below_then HB.out HB.out.size (below_drewN (Below.refl _ _) _)⟩⟩
              · have hp1 : decide ((t : Int) > 0) = false := decide_eq_false (by omega)
                have hp2 : decide (0 < (t : Int)) = false := decide_eq_false (by omega)
                have hp3 : decide (0 < t) = false := decide_eq_false hp
                have hS1 := Aside0.mk (hE1 t 0 (by rw [if_neg hlt]) (by omega))
                have HD := Aside0.mk hd
                have HL := Aside0.mk hl
                clear hE1 hd hl ht
                go_wp2_with fail
                go_quiet (fail)
                go_wp2_with fail
                go_roundg k1
                case measure => omega
                case rel => exact ⟨i + 1, val_u64 (by rw [← HD.out, (low_up X e.V i t (by omega) hS1.out.2).1]), val_i64 (by rw [hS1.out.1]; rfl), val_bool (by rw [decide_eq_false (fun h => ((low_up X e.V i t (by omega) hS1.out.2).2.1 h).elim (of_decide_eq_false HL.out) (fun h => by omega))]), by first | rfl | exact wrap_one i (by omega) | exact val_i64 (by omega), ⟨hil⟩, ⟨by have := hk.out; omega⟩, ⟨below_then HB.out HB.out.size (below_drewN (Below.refl _ _) _)⟩⟩
            · skip
              have hS1 := Aside0.mk (hE1 t 0 (by rw [if_neg hlt]) (by omega))
              have HD := Aside0.mk hd
              have HL := Aside0.mk hl
              clear hE1 hd hl ht
              go_wp2_with fail
              go_quiet (fail)
              go_wp2_with fail
              go_roundg k1
              case measure => omega
              case rel => exact ⟨i + 1, val_u64 (by rw [← HD.out, (low_up X e.V i t (by omega) hS1.out.2).1]), val_i64 (by rw [hS1.out.1]; rfl), val_bool (by rw [decide_eq_true ((low_up X e.V i t (by omega) hS1.out.2).2.2 (Or.inl (of_decide_eq_true HL.out)))]), by first | rfl | exact wrap_one i (by omega) | exact val_i64 (by omega), ⟨hil⟩, ⟨by have := hk.out; omega⟩, ⟨below_then HB.out HB.out.size (below_drewN (Below.refl _ _) _)⟩⟩
      · have hil1 : decide ((i : Int) < (n : Int)) = false := decide_eq_false (by omega)
        obtain rfl : i = n := by omega
        have hse := sub_end X e.V i hXl.out (by have := hxx.out; omega)
        have hde : dfB X e.V i = x := by rw [hse.2]; have := hxx.out; omega
        rw [hse.1, hde]
        have HG := Aside0.mk hgr
        have HM : Aside0 (Mine (· = g) w wr) := ⟨Mine.below (Mine.of_below (· = g) (by rw [hgr]; exact HB1.out)) HB.out⟩
        have HBW : Aside0 (Below w.heap.size w wr) := ⟨by rw [hgr]; exact below_then HB1.out (by rw [← hgr]; have := HB1.out.size; omega) HB.out⟩
        have hd1 : wr.cell? ⟨gc, 1, none⟩ = some (.int .u64 (e.R : Int)) := blk_cell CA2.out 1
        have hf2 := blk_frozen BA2.out 2
        have hc2 : wr.cell? ⟨g, 2, none⟩ = some (.bool false) := blk_cell BA2.out 2
        have hR := hok.out.2.2.1
        have hRl : Aside0 (e.R < 4294967296) := ⟨hR⟩
        clear hse hde hgr
        by_cases hxR : x < e.R
        · have hp : x < p7 := by unfold p7; omega
          rw [Nat.mod_eq_of_lt hp, decide_eq_false (by omega)]
          have hx1 : decide ((x : Int) ≥ (e.R : Int)) = false := decide_eq_false (by omega)
          have hx2 : decide ((e.R : Int) ≤ (x : Int)) = false := decide_eq_false (by omega)
          have hx3 : decide (e.R ≤ x) = false := decide_eq_false (by omega)
          have hr0 := blk_cell NA2.out 0
          have hr1 := blk_cell NA2.out 1
          have hr2 := blk_cell NA2.out 2
          have hq0 := blk_frozen NA2.out 0
          have hq1 := blk_frozen NA2.out 1
          have hq2 := blk_frozen NA2.out 2
          simp at hr0 hr1 hr2
          have HP := Aside0.mk hxR
          clear hxR hp
          go_wp2
          refine bodyPost_ret (v := got x 0) (by simp [results, Try.results57, go_sem, got, hr0, hr1, hr2]) rfl ⟨Or.inl ⟨HP.out, rfl, ?_⟩, ?_⟩
          · exact below_of_set3 HBW.out HG.out
          · exact Mine.set (Mine.set (Mine.set HM.out (Or.inr (Nat.le_of_eq HG.out)) _) (Or.inr (Nat.le_of_eq HG.out)) _) (Or.inr (Nat.le_of_eq HG.out)) _
        · by_cases hp : p7 ≤ x
          · rw [decide_eq_true hp]
            obtain ⟨y, hy⟩ : ∃ y, x % p7 = y := ⟨_, rfl⟩
            rw [hy]
            clear hy hp
            have hg3 : (wr.setCell ⟨g, 2, none⟩ (.bool true)).heap[gr]? = some (.cells #[.int .u64 0, .int .i64 0, .int .i64 0] 56 (0, 0)) := blk_far NA2.out (p := ⟨g, 2, none⟩) (Nat.ne_of_gt hgl.out) _
            have hr0 := blk_cell hg3 0
            have hr1 := blk_cell hg3 1
            have hr2 := blk_cell hg3 2
            have hq0 := blk_frozen hg3 0
            have hq1 := blk_frozen hg3 1
            have hq2 := blk_frozen hg3 2
            clear hg3
            simp at hr0 hr1 hr2
            go_wp2
            refine bodyPost_ret (v := got 0 3) (by simp [results, Try.results57, go_sem, got, hr0, hr1, hr2]) rfl ⟨Or.inr ⟨by omega, rfl, ?_⟩, ?_⟩
            · exact ⟨gc, blk_far (blk_far (blk_far (blk_put (cs' := rdCells s gc true) BA2.out 2 (.bool true) rfl) (p := ⟨gr, 0, none⟩) (Nat.ne_of_lt hgl.out) _) (p := ⟨gr, 1, none⟩) (Nat.ne_of_lt hgl.out) _) (p := ⟨gr, 2, none⟩) (Nat.ne_of_lt hgl.out) _⟩
            · exact Mine.set (Mine.set (Mine.set (Mine.set HM.out (Or.inl rfl) _) (Or.inr (Nat.le_of_eq HG.out)) _) (Or.inr (Nat.le_of_eq HG.out)) _) (Or.inr (Nat.le_of_eq HG.out)) _
          · rw [Nat.mod_eq_of_lt (by omega), decide_eq_false hp]
            have hx1 : decide ((x : Int) ≥ (e.R : Int)) = true := decide_eq_true (by omega)
            have hx2 : decide ((e.R : Int) ≤ (x : Int)) = true := decide_eq_true (by omega)
            have hx3 : decide (e.R ≤ x) = true := decide_eq_true (by omega)
            clear hp
            have hg3 : (wr.setCell ⟨g, 2, none⟩ (.bool true)).heap[gr]? = some (.cells #[.int .u64 0, .int .i64 0, .int .i64 0] 56 (0, 0)) := blk_far NA2.out (p := ⟨g, 2, none⟩) (Nat.ne_of_gt hgl.out) _
            have hr0 := blk_cell hg3 0
            have hr1 := blk_cell hg3 1
            have hr2 := blk_cell hg3 2
            have hq0 := blk_frozen hg3 0
            have hq1 := blk_frozen hg3 1
            have hq2 := blk_frozen hg3 2
            clear hg3
            simp at hr0 hr1 hr2
            go_wp2
            refine bodyPost_ret (v := got 0 3) (by simp [results, Try.results57, go_sem, got, hr0, hr1, hr2]) rfl ⟨Or.inr ⟨by omega, rfl, ?_⟩, ?_⟩
            · exact ⟨gc, blk_far (blk_far (blk_far (blk_put (cs' := rdCells s gc true) BA2.out 2 (.bool true) rfl) (p := ⟨gr, 0, none⟩) (Nat.ne_of_lt hgl.out) _) (p := ⟨gr, 1, none⟩) (Nat.ne_of_lt hgl.out) _) (p := ⟨gr, 2, none⟩) (Nat.ne_of_lt hgl.out) _⟩
            · exact Mine.set (Mine.set (Mine.set (Mine.set HM.out (Or.inl rfl) _) (Or.inr (Nat.le_of_eq HG.out)) _) (Or.inr (Nat.le_of_eq HG.out)) _) (Or.inr (Nat.le_of_eq HG.out)) _
theorem ref_ahead.calls (s : ByteArray) (e : Enc) (v : Value) (B g gc : Nat) (w : World) (hS : ReadAt w B g gc s e v) (hok : e.ok) (hL : e.L ≤ 1000000000) (hsz : s.size ≤ 1000000000) :
    Calls Try.prog 57 #[.pointer (some ⟨g, 0, none⟩)] w fun r w' => r = .returned (got (if errE s e = 0 then dE s e else 0) (errE s e)) ∧ (errE s e = 0 → Below w.heap.size w w' ∧ dE s e < e.R ∧ e.L + 4 ≤ s.size ∧ numB s (e.L + 4) = dE s e + e.V) ∧ (errE s e ≠ 0 → BadAt w' g s) ∧ Mine (· = g) w w' := by
  by_cases hm : s.size < e.L + 4
  · have he : errE s e = 2 := by unfold errE; rw [if_pos hm]
    rw [he]
    refine (ref_ahead.more s e v B g gc w ⟨hS⟩ hm).mono ?_
    rintro r w' ⟨rfl, hd, hmn⟩
    exact ⟨rfl, fun h => by omega, fun _ => hd, hmn⟩
  · have hop := hS.told.lo (by omega)
    have hx : numB s (e.L + 4) = dE s e + e.V := by unfold dE; omega
    refine (ref_ahead.read s e v B g gc w ⟨hS⟩ ⟨hok⟩ ⟨hL⟩ ⟨hsz⟩ (by omega) (dE s e) hx).mono ?_
    rintro r w' ⟨h | h, hmn⟩
    · obtain ⟨hlt, rfl, hd⟩ := h
      have he : errE s e = 0 := by unfold errE; rw [if_neg hm, if_neg (by omega)]
      rw [he]
      exact ⟨rfl, fun _ => ⟨hd, hlt, by omega, hx⟩, fun h => absurd rfl h, hmn⟩
    · obtain ⟨hlt, rfl, hd⟩ := h
      have he : errE s e = 3 := by unfold errE; rw [if_neg hm, if_pos (by omega)]
      rw [he]
      exact ⟨rfl, fun h => by omega, fun _ => hd, hmn⟩
/-- A bit that was told. -/
theorem Told.bit {s : ByteArray} {e : Enc} (h : Told s e) (hok : e.ok) (he : errE s e = 0) (p : Int) (b : Bool) (hb : decide (dE s e < shareN e.R p) = b) : Told s (bitE p b e) := by
  obtain ⟨h1, h2, h3, h4⟩ := hok
  have hs := shareN_range e.R p (by omega)
  have hfit : e.L + 4 ≤ s.size := by
    unfold errE at he
    by_cases c : s.size < e.L + 4
    · rw [if_pos c] at he; omega
    · omega
  have hlo := h.lo hfit
  have hlt : numB s (e.L + 4) < e.V + e.R := by
    unfold errE at he
    rw [if_neg (by omega)] at he
    by_cases c : e.V + e.R ≤ numB s (e.L + 4)
    · rw [if_pos c] at he; omega
    · omega
  unfold dE at hb
  unfold bitE bitP
  cases b
  · rw [if_neg Bool.false_ne_true]
    have := of_decide_eq_false hb
    exact ⟨e.L + 4, numB s (e.L + 4) - e.V - shareN e.R p, DecIn.grow 4 _ (DecIn.all (e := ⟨e.V + shareN e.R p, e.L, e.R - shareN e.R p⟩) hfit (by simp only; omega) (by simp only; omega)) (by simp only; omega)⟩
  · rw [if_pos rfl]
    have := of_decide_eq_true hb
    exact ⟨e.L + 4, numB s (e.L + 4) - e.V, DecIn.grow 4 _ (DecIn.all (e := ⟨e.V, e.L, shareN e.R p⟩) hfit (by simp only; omega) (by simp only; omega)) (by simp only; omega)⟩
theorem Told.half {s : ByteArray} {e : Enc} (h : Told s e) (hok : e.ok) (he : errE s e = 0) (b : Bool) (hb : decide (e.R / 2 ≤ dE s e) = b) : Told s (halfE b e) := by
  obtain ⟨h1, h2, h3, h4⟩ := hok
  have hfit : e.L + 4 ≤ s.size := by
    unfold errE at he
    by_cases c : s.size < e.L + 4
    · rw [if_pos c] at he; omega
    · omega
  have hlo := h.lo hfit
  have hlt : numB s (e.L + 4) < e.V + e.R := by
    unfold errE at he
    rw [if_neg (by omega)] at he
    by_cases c : e.V + e.R ≤ numB s (e.L + 4)
    · rw [if_pos c] at he; omega
    · omega
  unfold dE at hb
  unfold halfE halfP
  cases b
  · rw [if_neg Bool.false_ne_true]
    have := of_decide_eq_false hb
    exact ⟨e.L + 4, numB s (e.L + 4) - e.V, DecIn.grow 4 _ (DecIn.all (e := ⟨e.V, e.L, e.R / 2⟩) hfit (by simp only; omega) (by simp only; omega)) (by simp only; omega)⟩
  · rw [if_pos rfl]
    have := of_decide_eq_true hb
    exact ⟨e.L + 4, numB s (e.L + 4) - e.V - e.R / 2, DecIn.grow 4 _ (DecIn.all (e := ⟨e.V + e.R / 2, e.L, e.R / 2⟩) hfit (by simp only; omega) (by simp only; omega)) (by simp only; omega)⟩
end Go.Proofs.Ytgldblakdhalkaa
