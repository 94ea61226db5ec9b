/- The reference's reader; classes bit by bit, the program's and the reference's. Conditions: as each contract states. -/
import Derived.Test.YtgldblakdhalkaaDecod
import Derived.Test.YtgldblakdhalkaaPBasex2
import Derived.StillTailTactics
/- The reference reader's subtraction, byte by byte, the lowest first: what is left and what is owed. No program in it. -/
namespace Go.Proofs.Ytgldblakdhalkaa
set_option linter.unusedVariables false
/-- What is owed behind i bytes. -/
def owB (X V i : Nat) : Nat := if X % 256 ^ i < V % 256 ^ i then 1 else 0
/-- What is left of i bytes. -/
def dfB (X V i : Nat) : Nat := X % 256 ^ i + owB X V i * 256 ^ i - V % 256 ^ i
theorem owB_zero (X V : Nat) : owB X V 0 = 0 := by unfold owB; rw [Nat.pow_zero, Nat.mod_one, Nat.mod_one]; rfl
theorem dfB_zero (X V : Nat) : dfB X V 0 = 0 := by unfold dfB; rw [owB_zero, Nat.pow_zero, Nat.mod_one, Nat.mod_one]
theorem owB_le (X V i : Nat) : owB X V i ≤ 1 := by unfold owB; split <;> omega
theorem dfB_lt (X V i : Nat) : dfB X V i < 256 ^ i := by
  have hp : 0 < 256 ^ i := Nat.pow_pos (by decide)
  have h1 := Nat.mod_lt X hp
  have h2 := Nat.mod_lt V hp
  unfold dfB owB
  split <;> omega
theorem mod_up (X i : Nat) : X % 256 ^ (i + 1) = X % 256 ^ i + 256 ^ i * dg X i := by rw [Nat.pow_succ, Nat.mod_mul]; rfl
theorem sub_up (X V i : Nat) : owB X V (i + 1) = (if dg X i < dg V i + owB X V i then 1 else 0) ∧ dfB X V (i + 1) = dfB X V i + 256 ^ i * (dg X i + 256 * owB X V (i + 1) - (dg V i + owB X V i)) := by
  have hp : 0 < 256 ^ i := Nat.pow_pos (by decide)
  have hx := Nat.mod_lt X hp
  have hv := Nat.mod_lt V hp
  have hxb := dg_lt X i
  have hvb := dg_lt V i
  unfold dfB
  have e1 : owB X V (i + 1) = if X % 256 ^ i + 256 ^ i * dg X i < V % 256 ^ i + 256 ^ i * dg V i then 1 else 0 := by unfold owB; rw [mod_up, mod_up]
  have e0 : owB X V i = if X % 256 ^ i < V % 256 ^ i then 1 else 0 := rfl
  rw [mod_up, mod_up, Nat.pow_succ]
  generalize X % 256 ^ i = x at *
  generalize V % 256 ^ i = v at *
  generalize dg X i = a at *
  generalize dg V i = b at *
  generalize owB X V (i + 1) = o2 at *
  generalize owB X V i = o at *
  generalize 256 ^ i = p at *
  have lt_case : a < b → p * a + p ≤ p * b := fun h => by rw [← Nat.mul_succ]; exact Nat.mul_le_mul_left _ h
  have gt_case : b < a → p * b + p ≤ p * a := fun h => by rw [← Nat.mul_succ]; exact Nat.mul_le_mul_left _ h
  have key : ∀ t c : Nat, b + c ≤ t → p * (t - (b + c)) + p * b + p * c = p * t := fun t c h => by
    rw [Nat.add_assoc, ← Nat.mul_add, ← Nat.mul_add]
    congr 1
    omega
  have k1 := key (a + 256 * o2) o
  rw [Nat.mul_add] at k1
  have h256 : p * (256 * 0) = 0 ∧ p * (256 * 1) = p * 256 ∧ p * 0 = 0 ∧ p * 1 = p := by omega
  generalize hT : p * (a + 256 * o2 - (b + o)) = T at *
  generalize hA : p * a = A at *
  generalize hB : p * b = B at *
  have eqc : a = b → A = B := fun h => by rw [← hA, ← hB, h]
  by_cases hxv : x < v
  · rw [if_pos hxv] at e0
    subst e0
    rcases Nat.lt_trichotomy a b with h | h | h
    · have := lt_case h
      rw [if_pos (by omega)] at e1
      subst e1
      rw [if_pos (by omega)]
      have := k1 (by omega)
      exact ⟨rfl, by omega⟩
    · have := eqc h
      rw [if_pos (by omega)] at e1
      subst e1
      rw [if_pos (by omega)]
      have := k1 (by omega)
      exact ⟨rfl, by omega⟩
    · have := gt_case h
      rw [if_neg (by omega)] at e1
      subst e1
      rw [if_neg (by omega)]
      have := k1 (by omega)
      exact ⟨rfl, by omega⟩
  · rw [if_neg hxv] at e0
    subst e0
    rcases Nat.lt_trichotomy a b with h | h | h
    · have := lt_case h
      rw [if_pos (by omega)] at e1
      subst e1
      rw [if_pos (by omega)]
      have := k1 (by omega)
      exact ⟨rfl, by omega⟩
    · have := eqc h
      rw [if_neg (by omega)] at e1
      subst e1
      rw [if_neg (by omega)]
      have := k1 (by omega)
      exact ⟨rfl, by omega⟩
    · have := gt_case h
      rw [if_neg (by omega)] at e1
      subst e1
      rw [if_neg (by omega)]
      have := k1 (by omega)
      exact ⟨rfl, by omega⟩
/-! ### The lowest seven bytes, and whether there is more -/
def p7 : Nat := 256 ^ 7
theorem low_small (X V i : Nat) (h : i ≤ 7) : dfB X V i % p7 = dfB X V i ∧ dfB X V i < p7 := by
  have h1 := dfB_lt X V i
  have h2 : 256 ^ i ≤ 256 ^ 7 := Nat.pow_le_pow_right (by decide) h
  have h3 : dfB X V i < p7 := by unfold p7; omega
  exact ⟨Nat.mod_eq_of_lt h3, h3⟩
theorem low_up (X V i t : Nat) (h : 7 ≤ i) (hd : dfB X V (i + 1) = dfB X V i + 256 ^ i * t) : dfB X V (i + 1) % p7 = dfB X V i % p7 ∧ (p7 ≤ dfB X V (i + 1) ↔ p7 ≤ dfB X V i ∨ 0 < t) := by
  have e : 256 ^ i = p7 * 256 ^ (i - 7) := by unfold p7; rw [← Nat.pow_add]; congr 1; omega
  have hp : 0 < 256 ^ (i - 7) := Nat.pow_pos (by decide)
  rw [hd, e, Nat.mul_assoc]
  refine ⟨Nat.add_mul_mod_self_left _ _ _, ?_⟩
  constructor
  · intro h
    rcases Nat.eq_zero_or_pos t with h0 | h0
    · subst h0
      rw [Nat.mul_zero, Nat.mul_zero] at h
      exact Or.inl h
    · exact Or.inr h0
  · rintro (h | h)
    · omega
    · have : p7 * 1 ≤ p7 * (256 ^ (i - 7) * t) := Nat.mul_le_mul_left _ (Nat.mul_pos hp h)
      omega
theorem sub_end (X V n : Nat) (hX : X < 256 ^ n) (hV : V ≤ X) : owB X V n = 0 ∧ dfB X V n = X - V := by
  have h1 : owB X V n = 0 := by unfold owB; rw [Nat.mod_eq_of_lt hX, Nat.mod_eq_of_lt (by omega), if_neg (by omega)]
  refine ⟨h1, ?_⟩
  unfold dfB
  rw [h1, Nat.mod_eq_of_lt hX, Nat.mod_eq_of_lt (by omega)]
  omega
end Go.Proofs.Ytgldblakdhalkaa
/- What the reference's reader comes to (From, ahead): an error, or the number that stands. Conditions: as each contract states. -/
namespace Go.Proofs.Ytgldblakdhalkaa
set_option linter.unusedVariables false
open Go.RowKit Go.Proofs.YtgldblakdhalkaaW.PrintWords Go.Proofs.YtgldblakdhalkaaW.PrintLast Go.Proofs.YtgldblakdhalkaaW.PrintMore Go.Proofs.Ytgldblakdhalkaa.PBase
def rdCells (s : ByteArray) (gc : Nat) (bad : Bool) : Array Value := #[.string s, .pointer (some ⟨gc, 0, none⟩), .bool bad]
/-- A decoder could stand at e: no byte is passed. -/
def Told (s : ByteArray) (e : Enc) : Prop := ∃ a v, DecIn s e a v
theorem Told.lo {s : ByteArray} {e : Enc} (h : Told s e) : e.L + 4 ≤ s.size → e.V ≤ numB s (e.L + 4) := by
  obtain ⟨a, v, hI⟩ := h
  exact fun hs => hI.open_ hs
theorem LiveAt.told {w : World} {g : Nat} {s : ByteArray} {e : Enc} (h : LiveAt w g s e) : Told s e := by
  obtain ⟨a, v, _, hI⟩ := h
  exact ⟨a, v, hI⟩
/-- The reference's reader in memory. -/
structure ReadAt (w : World) (B g gc : Nat) (s : ByteArray) (e : Enc) (v : Value) : Prop where
  blk : w.heap[g]? = some (.cells (rdCells s gc false) 97 (0, 0))
  cod : CodAt w B gc e v
  ne : g ≠ gc
  far : v.ownBlock ≠ some g
  told : Told s e
/-- One that says nothing any more. -/
def BadAt (w : World) (g : Nat) (s : ByteArray) : Prop := ∃ gc : Nat, w.heap[g]? = some (.cells (rdCells s gc true) 97 (0, 0))
def rfoot (g gc : Nat) (v : Value) (k : Nat) : Prop := k = g ∨ k = gc ∨ v.ownBlock = some k
theorem ReadAt.mine {S : Nat → Prop} {w w' : World} {B g gc : Nat} {s : ByteArray} {e : Enc} {v : Value} (h : ReadAt w B g gc s e v) (hm : Mine S w w') (hn : ∀ k, rfoot g gc v k → ¬ S k) : ReadAt w' B g gc s e v :=
  ⟨blk_mine h.blk hm (hn g (Or.inl rfl)), h.cod.mine hm (hn gc (Or.inr (Or.inl rfl))) (fun k hk => hn k (Or.inr (Or.inr hk))), h.ne, h.far, h.told⟩
theorem ReadAt.below {w w' : World} {B g gc : Nat} {s : ByteArray} {e : Enc} {v : Value} (h : ReadAt w B g gc s e v) (hb : Below w.heap.size w w') : ReadAt w' B g gc s e v :=
  h.mine (Mine.of_below (fun _ => False) hb) (fun _ _ h => h)
theorem BadAt.mine {S : Nat → Prop} {w w' : World} {g : Nat} {s : ByteArray} (h : BadAt w g s) (hm : Mine S w w') (hg : ¬ S g) : BadAt w' g s := by
  obtain ⟨gc, h1⟩ := h
  exact ⟨gc, blk_mine h1 hm hg⟩
theorem BadAt.below {w w' : World} {g : Nat} {s : ByteArray} (h : BadAt w g s) (hb : Below w.heap.size w w') : BadAt w' g s := h.mine (Mine.of_below (fun _ => False) hb) (fun h => h)
def got (n : Nat) (er : Nat) : Value := .agg #[.int .u64 (n : Int), .int .i64 0, .int .i64 (er : Int)]
set_option maxHeartbeats 2000000 in
set_option maxRecDepth 100000 in
theorem ref_From.calls (s : ByteArray) (w : World) :
    Calls Try.prog 31 #[.string s] w fun e w' => ∃ g gc v, e = .returned (.pointer (some ⟨g, 0, none⟩)) ∧ ReadAt w' w.heap.size g gc s Enc.new v ∧ (∀ k, rfoot g gc v k → w.heap.size ≤ k) ∧ Below w.heap.size w w' := by
  have hu2 := Try.underlying97
  go_enter Try.func31, Try.ntmps31
  go_wp2_with fail
  refine (ref_New.calls _).mono ?_
  rintro r w1 ⟨gc, v, rfl, hS, hg, hb⟩
  have HS := Aside0.mk hS
  have HB := Aside0.mk hb
  have hlt : Aside0 (gc < w1.heap.size) := ⟨blk_lt hS.blk⟩
  have hvl : Aside0 (∀ k, v.ownBlock = some k → w.heap.size ≤ k ∧ k < w1.heap.size) := ⟨fun k hk => hS.own.lt k hk⟩
  have hgg := Aside0.mk hg
  clear hS hb hg
  go_wp2
  go_ret
  refine ⟨w1.heap.size, gc, v, rfl, ⟨blk_new _ _, HS.out.below ((Below.refl _ _).alloc (Nat.le_refl _) _), fun h => by have := hlt.out; omega, fun h => by have := hvl.out _ h; omega, ⟨0, 0, DecIn.start s⟩⟩, ?_, below_alloc HB.out _⟩
  rintro k (h | h | h)
  · rw [h]; exact HB.out.size
  · rw [h]; exact hgg.out
  · exact (hvl.out k h).1
set_option maxHeartbeats 2000000 in
set_option maxRecDepth 100000 in
theorem ref_ahead.bad (s : ByteArray) (g : Nat) (w : World) (hS : Aside0 (BadAt w g s)) :
    Calls Try.prog 57 #[.pointer (some ⟨g, 0, none⟩)] w fun r w' => r = .returned (got 0 3) ∧ Below w.heap.size w w' := by
  have hu2 := Try.underlying97
  have hu3 := Try.underlying56
  obtain ⟨gc, hb⟩ := hS.out
  have hc2 : (w.alloc (.cells #[.int .u64 0, .int .i64 0, .int .i64 0] 56)).cell? ⟨g, 2, none⟩ = some (.bool true) := blk_cell (blk_alloc hb _) 2
  clear hb
  go_enter Try.func57, Try.ntmps57
  go_wp2
  exact bodyPost_ret (v := got 0 3) (by simp [results, Try.results57, go_sem, got]) rfl ⟨rfl, (below_alloc (Below.refl _ _) _)⟩
set_option maxHeartbeats 2000000 in
set_option maxRecDepth 100000 in
theorem ref_ahead.more (s : ByteArray) (e : Enc) (v : Value) (B g gc : Nat) (w : World) (hS : Aside0 (ReadAt w B g gc s e v)) (hm : s.size < e.L + 4) :
    Calls Try.prog 57 #[.pointer (some ⟨g, 0, none⟩)] w fun r w' => r = .returned (got 0 2) ∧ BadAt w' g s ∧ Mine (· = g) w w' := by
  have hu2 := Try.underlying97
  have hu3 := Try.underlying56
  have hu4 := Try.underlying89
  obtain ⟨b, C, rfl, hbB⟩ := own_form hS.out.cod.own (by omega)
  obtain ⟨n, hn⟩ : ∃ n, e.L + 4 = n := ⟨_, rfl⟩
  have BA := Aside0.mk hS.out.blk
  have CA := Aside0.mk hS.out.cod.blk
  rw [hn] at CA hm
  have hW : Mine (· = g) w (w.alloc (.cells #[.int .u64 0, .int .i64 0, .int .i64 0] 56)) := Mine.alloc (Mine.refl _ _) _
  have BA1 := Aside0.mk (blk_alloc BA.out (.cells #[.int .u64 0, .int .i64 0, .int .i64 0] 56))
  have CA1 := Aside0.mk (blk_alloc CA.out (.cells #[.int .u64 0, .int .i64 0, .int .i64 0] 56))
  have hc0 : (w.alloc (.cells #[.int .u64 0, .int .i64 0, .int .i64 0] 56)).cell? ⟨g, 0, none⟩ = some (.string s) := blk_cell BA1.out 0
  have hc1 : (w.alloc (.cells #[.int .u64 0, .int .i64 0, .int .i64 0] 56)).cell? ⟨g, 1, none⟩ = some (.pointer (some ⟨gc, 0, none⟩)) := blk_cell BA1.out 1
  have hc2 : (w.alloc (.cells #[.int .u64 0, .int .i64 0, .int .i64 0] 56)).cell? ⟨g, 2, none⟩ = some (.bool false) := blk_cell BA1.out 2
  have hf2 := blk_frozen BA1.out 2
  have hd0 : (w.alloc (.cells #[.int .u64 0, .int .i64 0, .int .i64 0] 56)).cell? ⟨gc, 0, none⟩ = some (.slice (some ⟨b, 0, none⟩) n C) := blk_cell CA1.out 0
  have hb2 : decide ((s.size : Int) < (n : Int)) = true := decide_eq_true (by omega)
  have hb3 : decide (s.size < n) = true := decide_eq_true hm
  have hgl : Aside0 (g < w.heap.size) := ⟨blk_lt BA.out⟩
  have hg3 : ((w.alloc (.cells #[.int .u64 0, .int .i64 0, .int .i64 0] 56)).setCell ⟨g, 2, none⟩ (.bool true)).heap[w.heap.size]? = some (.cells #[.int .u64 0, .int .i64 0, .int .i64 0] 56 (0, 0)) := blk_far (blk_new _ _) (p := ⟨g, 2, none⟩) (Nat.ne_of_gt hgl.out) _
  have hr0 := blk_cell hg3 0
  have hr1 := blk_cell hg3 1
  have hr2 := blk_cell hg3 2
  have hq0 := blk_frozen hg3 0
  have hq1 := blk_frozen hg3 1
  have hq2 := blk_frozen hg3 2
  clear hg3
  simp at hr0 hr1 hr2
  go_enter Try.func57, Try.ntmps57
  go_wp2
  refine bodyPost_ret (v := got 0 2) (by simp [results, Try.results57, go_sem, got, hr0, hr1, hr2]) rfl ⟨rfl, ?_, ?_⟩
  · exact ⟨gc, blk_far (blk_far (blk_far (blk_put (cs' := rdCells s gc true) BA1.out 2 (.bool true) rfl) (p := ⟨w.heap.size, 0, none⟩) (Nat.ne_of_lt hgl.out) _) (p := ⟨w.heap.size, 1, none⟩) (Nat.ne_of_lt hgl.out) _) (p := ⟨w.heap.size, 2, none⟩) (Nat.ne_of_lt hgl.out) _⟩
  · exact Mine.set (Mine.set (Mine.set (Mine.set hW (Or.inl rfl) _) (Or.inr (Nat.le_refl _)) _) (Or.inr (Nat.le_refl _)) _) (Or.inr (Nat.le_refl _)) _
theorem dg_bn (s : ByteArray) (n i : Nat) (h : i < n) : dg (numB s n) i = bn s (n - 1 - i) := by
  have h1 := numB_take s (n - i) i
  rw [show n - i + i = n by omega] at h1
  unfold dg
  rw [← h1, show n - i = n - 1 - i + 1 by omega]
  show (numB s (n - 1 - i) * 256 + bn s (n - 1 - i)) % 256 = _
  have := bn_lt s (n - 1 - i)
  omega
theorem or_up (X V i t : Nat) (h : i < 7) (ht : t < 256) (hd : dfB X V (i + 1) = dfB X V i + 256 ^ i * t) :
    Go.bits .or .u64 ((dfB X V i % p7 : Nat) : Int) (IntKind.u64.wrap ((t : Int) * 2 ^ (8 * i))) = ((dfB X V (i + 1) % p7 : Nat) : Int) := by
  have h1 := low_small X V i (by omega)
  have h2 := low_small X V (i + 1) (by omega)
  have h3 := dfB_lt X V i
  have e8 : (256 : Nat) ^ i = 2 ^ (8 * i) := by rw [show (256 : Nat) = 2 ^ 8 from rfl, ← Nat.pow_mul]
  rw [h1.1, h2.1, hd]
  rw [e8] at h3 ⊢
  have hp : 2 ^ (8 * i) ≤ 2 ^ 48 := Nat.pow_le_pow_right (by decide) (by omega)
  have hm : t * 2 ^ (8 * i) ≤ 255 * 2 ^ (8 * i) := Nat.mul_le_mul_right _ (by omega)
  have e2 : ((t : Int) * 2 ^ (8 * i)) = ((t * 2 ^ (8 * i) : Nat) : Int) := by push_cast; rfl
  rw [e2, wrap_u64 _ (by omega) (by omega), u64_or_nat _ _ (by omega) (by omega), or_nat _ _ _ h3, Nat.mul_comm t]
theorem val_u64 {a b : Int} (h : a = b) : Value.int .u64 a = .int .u64 b := by rw [h]
theorem val_i64 {a b : Int} (h : a = b) : Value.int .i64 a = .int .i64 b := by rw [h]
theorem val_bool {a b : Bool} (h : a = b) : Value.bool a = .bool b := by rw [h]
theorem below_of_set3 {w wr : World} {gr : Nat} {a b c : Value} (h : Below w.heap.size w wr) (hg : w.heap.size = gr) : Below w.heap.size w (((wr.setCell ⟨gr, 0, none⟩ a).setCell ⟨gr, 1, none⟩ b).setCell ⟨gr, 2, none⟩ c) :=
  Mine.to_below (w := wr) (S := (· = gr)) (Mine.set (Mine.set (Mine.set (Mine.refl (· = gr) _) (Or.inl rfl) _) (Or.inl rfl) _) (Or.inl rfl) _) h h.size (fun k hk => by rw [hk, ← hg]; exact Nat.le_refl _)
attribute [local go_sem ↓] Go.wp_at_zero Go.wp_at_succ
set_option maxHeartbeats 4000000 in
set_option maxRecDepth 100000 in
theorem ref_ahead.read (s : ByteArray) (e : Enc) (v : Value) (B g gc : Nat) (w : World) (hS : Aside0 (ReadAt w B g gc s e v)) (hok : Aside0 e.ok) (hL : Aside0 (e.L ≤ 1000000000)) (hsz : Aside0 (s.size ≤ 1000000000)) (hm : e.L + 4 ≤ s.size) (x : Nat) (hx : numB s (e.L + 4) = x + e.V) :
    Calls Try.prog 57 #[.pointer (some ⟨g, 0, none⟩)] w fun r w' => (x < e.R ∧ r = .returned (got x 0) ∧ Below w.heap.size w w' ∨ e.R ≤ x ∧ r = .returned (got 0 3) ∧ BadAt w' g s) ∧ Mine (· = g) w w' := by
  have hu2 := Try.underlying97
  have hu3 := Try.underlying56
  have hu4 := Try.underlying89
  obtain ⟨b, C, rfl, hbB⟩ := own_form hS.out.cod.own (by omega)
  obtain ⟨n, hn⟩ : ∃ n, e.L + 4 = n := ⟨_, rfl⟩
  have BA := Aside0.mk hS.out.blk
  have CA := Aside0.mk hS.out.cod.blk
  have HO := Aside0.mk hS.out.cod.own
  have hgl : Aside0 (g < w.heap.size) := ⟨blk_lt BA.out⟩
  rw [hn] at CA hm hx HO
  obtain ⟨w1, hw1⟩ : ∃ w1, w.alloc (.cells #[.int .u64 0, .int .i64 0, .int .i64 0] 56) = w1 := ⟨_, rfl⟩
  have HB : Below w.heap.size w w1 := by rw [← hw1]; exact below_alloc (Below.refl _ _) _
  have BA1 := Aside0.mk (blk_below BA.out HB)
  have CA1 := Aside0.mk (blk_below CA.out HB)
  have HO1 : Aside0 (w1.ownsRow B 5 1 (.slice (some ⟨b, 0, none⟩) n C) n (u8s (beI n e.V))) := ⟨own_frame HO.out (fun k hk => HB.block k (HO.out.lt k hk).2)⟩
  have NA1 : Aside0 (w1.heap[w.heap.size]? = some (.cells #[.int .u64 0, .int .i64 0, .int .i64 0] 56 (0, 0))) := ⟨by rw [← hw1]; exact blk_new _ _⟩
  have HB1 := Aside0.mk HB
  clear HB BA CA HO hS
  obtain ⟨gr, hgr⟩ : ∃ gr, w.heap.size = gr := ⟨_, rfl⟩
  rw [hgr] at HB1 NA1 hgl
  have hc0 : w1.cell? ⟨g, 0, none⟩ = some (.string s) := blk_cell BA1.out 0
  have hc1 : w1.cell? ⟨g, 1, none⟩ = some (.pointer (some ⟨gc, 0, none⟩)) := blk_cell BA1.out 1
  have hc2 : w1.cell? ⟨g, 2, none⟩ = some (.bool false) := blk_cell BA1.out 2
  have hd0 : w1.cell? ⟨gc, 0, none⟩ = some (.slice (some ⟨b, 0, none⟩) n C) := blk_cell CA1.out 0
  have hb2 : decide ((s.size : Int) < (n : Int)) = false := decide_eq_false (by omega)
  have hb3 : decide (s.size < n) = false := decide_eq_false (by omega)
  have hV : Aside0 (e.V < 256 ^ n) := ⟨by rw [← hn]; exact ok_fits hok.out⟩
  have hnl : n ≤ 1000000004 := by have := hL.out; omega
  obtain ⟨X, hX⟩ : ∃ X, numB s n = X := ⟨_, rfl⟩
  have hdg := Aside0.mk (fun i h => dg_bn s n i h)
  have hXl := Aside0.mk (numB_lt s n)
  rw [hX] at hdg hx hXl
  have hxx := Aside0.mk hx
  clear hx hX
  go_enter Try.func57, Try.ntmps57
  go_wp2_with fail
  clear hc0 hc1 hc2 hd0 hb2 hb3 hw1
  go_loopg [4, 5, 6, 7] (n + 1) (fun kq v4 v5 v6 v7 w' => ∃ i : Nat, v4 = .int .u64 ((dfB X e.V i % p7 : Nat) : Int) ∧ v5 = .int .i64 ((owB X e.V i : Nat) : Int) ∧ v6 = .bool (decide (p7 ≤ dfB X e.V i)) ∧ v7 = .int .i64 (i : Int) ∧ Aside0 (i ≤ n) ∧ Aside0 (kq = n - i + 1) ∧ Aside0 (Below w1.heap.size w1 w'))
  case atStart => exact ⟨0, by rw [dfB_zero, Nat.zero_mod]; rfl, by rw [owB_zero]; rfl, by rw [dfB_zero, decide_eq_false (by unfold p7; decide)], rfl, ⟨Nat.zero_le _⟩, ⟨rfl⟩, ⟨Below.refl _ _⟩⟩
  case round =>
    obtain ⟨i, rfl, rfl, rfl, rfl, hi, hk, HB⟩ := hrel
    cases gk with
    | zero => exact absurd hk.out (by omega)
    | succ k1 =>
      have BA2 := Aside0.mk (blk_below BA1.out HB.out)
      have CA2 := Aside0.mk (blk_below CA1.out HB.out)
      have NA2 := Aside0.mk (blk_below NA1.out HB.out)
      have hin := hi.out
      have hc0 : wr.cell? ⟨g, 0, none⟩ = some (.string s) := blk_cell BA2.out 0
      have hc1 : wr.cell? ⟨g, 1, none⟩ = some (.pointer (some ⟨gc, 0, none⟩)) := blk_cell BA2.out 1
      have hd0 : wr.cell? ⟨gc, 0, none⟩ = some (.slice (some ⟨b, 0, none⟩) n C) := blk_cell CA2.out 0
      by_cases hil : i < n
      · have hil1 : decide ((i : Int) < (n : Int)) = true := decide_eq_true (by omega)
        obtain ⟨j, hj⟩ : ∃ j, n - 1 - i = j := ⟨_, rfl⟩
        have hjn : j < n := by omega
        have HO2 : Aside0 (wr.ownsRow B 5 1 (.slice (some ⟨b, 0, none⟩) n C) n (u8s (beI n e.V))) := ⟨own_frame HO1.out (fun k hk => HB.out.block k (HO1.out.lt k hk).2)⟩
        have hcl := (own_cell HO2.out j _ (beI_get n e.V j hjn)).1
        rw [show n - 1 - j = i by omega] at hcl
        have hxb := hdg.out i hil
        rw [hj] at hxb
        have hup := sub_up X e.V i
        have hxl := dg_lt X i
        have hyl := dg_lt e.V i
        have hol := owB_le X e.V i
        obtain ⟨xb, hxb2⟩ : ∃ xb, dg X i = xb := ⟨_, rfl⟩
        obtain ⟨yb, hyb2⟩ : ∃ yb, dg e.V i = yb := ⟨_, rfl⟩
        rw [hxb2] at hxb hup hxl
        rw [hyb2] at hup hyl hcl
        have hx0 : ∀ h : j < s.size, ((s[j]'h).toNat : Int) = (xb : Int) := fun h => by rw [hxb, ← bt_bn]; exact bt_at s (j : Int) h
        have e1 : (n : Int) - 1 - (i : Int) = (j : Int) := by omega
        have hj0 := eq_true (show (0 : Int) ≤ (j : Int) by omega)
        have hj1 := eq_true (show (j : Int) < (s.size : Int) by omega)
        have hj2 := eq_true (show j < s.size by omega)
        have hj3 := eq_true (show (j : Int) < (n : Int) by omega)
        have hj4 := eq_true hjn
        obtain ⟨o, ho⟩ : ∃ o, owB X e.V i = o := ⟨_, rfl⟩
        rw [ho] at hup hol ⊢
        have HUP := Aside0.mk hup
        have hwx : IntKind.i64.wrap (xb : Int) = (xb : Int) := by rw [IntKind.wrap_i64]; omega
        have hwy : IntKind.i64.wrap (yb : Int) = (yb : Int) := by rw [IntKind.wrap_i64]; omega
        have hws : IntKind.i64.wrap ((xb : Int) - (yb : Int)) = (xb : Int) - (yb : Int) := by rw [IntKind.wrap_i64]; omega
        clear hup hxb hxb2 hyb2 ho hj
        have hE1 : ∀ tt oo : Nat, oo = (if xb < yb + o then 1 else 0) → tt = xb + 256 * oo - (yb + o) → owB X e.V (i + 1) = oo ∧ dfB X e.V (i + 1) = dfB X e.V i + 256 ^ i * tt := fun tt oo h1 h2 => by
          have h3 := HUP.out.1
          rw [← h1] at h3
          have h4 := HUP.out.2
          rw [h3, ← h2] at h4
          exact ⟨h3, h4⟩
        clear HUP
        obtain ⟨d, hd⟩ : ∃ d, dfB X e.V i % p7 = d := ⟨_, rfl⟩
        obtain ⟨l, hl⟩ : ∃ l, decide (p7 ≤ dfB X e.V i) = l := ⟨_, rfl⟩
        rw [hd, hl]
        by_cases hlt : xb < yb + o
        · skip
          obtain ⟨t, ht⟩ : ∃ t, xb + 256 - (yb + o) = t := ⟨_, rfl⟩
          have hwz : IntKind.i64.wrap ((xb : Int) - (yb : Int) - (o : Int)) = (t : Int) - 256 := by rw [IntKind.wrap_i64]; omega
          have hneg : decide ((t : Int) - 256 < 0) = true := decide_eq_true (by omega)
          have htl : t < 256 := by omega
          by_cases h7 : i < 7
          · have h71 : decide ((i : Int) < 7) = true := decide_eq_true (by omega)
            have hS1 := Aside0.mk (hE1 t 1 (by rw [if_pos hlt]) (by omega))
            have HD := Aside0.mk hd
            have HL := Aside0.mk hl
            clear hE1 hd hl ht
            go_wp2_with fail
            go_quiet (fail)
            go_wp2_with fail
            go_roundg k1
            case measure => omega
            case rel => exact ⟨i + 1, val_u64 (by rw [← HD.out]; exact or_up X e.V i t h7 htl hS1.out.2), val_i64 (by rw [hS1.out.1]; rfl), val_bool (by rw [← HL.out, decide_eq_false (by have := (low_small X e.V i (by omega)).2; omega), decide_eq_false (by have := (low_small X e.V (i + 1) (by omega)).2; omega)]), by first | rfl | exact wrap_one i (by omega) | exact val_i64 (by omega), ⟨hil⟩, ⟨by have := hk.out; omega⟩, ⟨below_then HB.out HB.out.size (below_drewN (Below.refl _ _) _)⟩⟩
          · have h71 : decide ((i : Int) < 7) = false := decide_eq_false (by omega)
            cases l
            · by_cases hp : 0 < t
              · have hp1 : decide ((t : Int) > 0) = true := decide_eq_true (by omega)
                have hp2 : decide (0 < (t : Int)) = true := decide_eq_true (by omega)
                have hp3 : decide (0 < t) = true := decide_eq_true hp
                have hS1 := Aside0.mk (hE1 t 1 (by rw [if_pos hlt]) (by omega))
                have HD := Aside0.mk hd
                have HL := Aside0.mk hl
                clear hE1 hd hl ht
                go_wp2_with fail
                go_quiet (fail)
                go_wp2_with fail
                go_roundg k1
                case measure => omega
                case rel => exact ⟨i + 1, val_u64 (by rw [← HD.out, (low_up X e.V i t (by omega) hS1.out.2).1]), val_i64 (by rw [hS1.out.1]; rfl), val_bool (by rw [decide_eq_true ((low_up X e.V i t (by omega) hS1.out.2).2.2 (Or.inr (by omega)))]), by first | rfl | exact wrap_one i (by omega) | exact val_i64 (by omega), ⟨hil⟩, ⟨by have := hk.out; omega⟩, ⟨below_then HB.out HB.out.size (below_drewN (Below.refl _ _) _)⟩⟩
              · have hp1 : decide ((t : Int) > 0) = false := decide_eq_false (by omega)
                have hp2 : decide (0 < (t : Int)) = false := decide_eq_false (by omega)
                have hp3 : decide (0 < t) = false := decide_eq_false hp
                have hS1 := Aside0.mk (hE1 t 1 (by rw [if_pos hlt]) (by omega))
                have HD := Aside0.mk hd
                have HL := Aside0.mk hl
                clear hE1 hd hl ht
                go_wp2_with fail
                go_quiet (fail)
                go_wp2_with fail
                go_roundg k1
                case measure => omega
                case rel => exact ⟨i + 1, val_u64 (by rw [← HD.out, (low_up X e.V i t (by omega) hS1.out.2).1]), val_i64 (by rw [hS1.out.1]; rfl), val_bool (by rw [decide_eq_false (fun h => ((low_up X e.V i t (by omega) hS1.out.2).2.1 h).elim (of_decide_eq_false HL.out) (fun h => by omega))]), by first | rfl | exact wrap_one i (by omega) | exact val_i64 (by omega), ⟨hil⟩, ⟨by have := hk.out; omega⟩, ⟨below_then HB.out HB.out.size (below_drewN (Below.refl _ _) _)⟩⟩
            · skip
              have hS1 := Aside0.mk (hE1 t 1 (by rw [if_pos hlt]) (by omega))
              have HD := Aside0.mk hd
              have HL := Aside0.mk hl
              clear hE1 hd hl ht
              go_wp2_with fail
              go_quiet (fail)
              go_wp2_with fail
              go_roundg k1
              case measure => omega
              case rel => exact ⟨i + 1, val_u64 (by rw [← HD.out, (low_up X e.V i t (by omega) hS1.out.2).1]), val_i64 (by rw [hS1.out.1]; rfl), val_bool (by rw [decide_eq_true ((low_up X e.V i t (by omega) hS1.out.2).2.2 (Or.inl (of_decide_eq_true HL.out)))]), by first | rfl | exact wrap_one i (by omega) | exact val_i64 (by omega), ⟨hil⟩, ⟨by have := hk.out; omega⟩, ⟨below_then HB.out HB.out.size (below_drewN (Below.refl _ _) _)⟩⟩
        · skip
          obtain ⟨t, ht⟩ : ∃ t, xb - (yb + o) = t := ⟨_, rfl⟩
          have hwz : IntKind.i64.wrap ((xb : Int) - (yb : Int) - (o : Int)) = (t : Int) := by rw [IntKind.wrap_i64]; omega
          have hneg : decide ((t : Int) < 0) = false := decide_eq_false (by omega)
          have htl : t < 256 := by omega
          by_cases h7 : i < 7
          · have h71 : decide ((i : Int) < 7) = true := decide_eq_true (by omega)
            have hS1 := Aside0.mk (hE1 t 0 (by rw [if_neg hlt]) (by omega))
            have HD := Aside0.mk hd
            have HL := Aside0.mk hl
            clear hE1 hd hl ht
            go_wp2_with fail
            go_quiet (fail)
            go_wp2_with fail
            go_roundg k1
            case measure => omega
            case rel => exact ⟨i + 1, val_u64 (by rw [← HD.out]; exact or_up X e.V i t h7 htl hS1.out.2), val_i64 (by rw [hS1.out.1]; rfl), val_bool (by rw [← HL.out, decide_eq_false (by have := (low_small X e.V i (by omega)).2; omega), decide_eq_false (by have := (low_small X e.V (i + 1) (by omega)).2; omega)]), by first | rfl | exact wrap_one i (by omega) | exact val_i64 (by omega), ⟨hil⟩, ⟨by have := hk.out; omega⟩, ⟨below_then HB.out HB.out.size (below_drewN (Below.refl _ _) _)⟩⟩
          · have h71 : decide ((i : Int) < 7) = false := decide_eq_false (by omega)
            cases l
            · by_cases hp : 0 < t
              · have hp1 : decide ((t : Int) > 0) = true := decide_eq_true (by omega)
                have hp2 : decide (0 < (t : Int)) = true := decide_eq_true (by omega)
                have hp3 : decide (0 < t) = true := decide_eq_true hp
                have hS1 := Aside0.mk (hE1 t 0 (by rw [if_neg hlt]) (by omega))
                have HD := Aside0.mk hd
                have HL := Aside0.mk hl
                clear hE1 hd hl ht
                go_wp2_with fail
                go_quiet (fail)
                go_wp2_with fail
                go_roundg k1
                case measure => omega
                case rel => exact ⟨i + 1, val_u64 (by rw [← HD.out, (low_up X e.V i t (by omega) hS1.out.2).1]), val_i64 (by rw [hS1.out.1]; rfl), val_bool (by rw [decide_eq_true ((low_up X e.V i t (by omega) hS1.out.2).2.2 (Or.inr (by omega)))]), by first | rfl | exact wrap_one i (by omega) | exact val_i64 (by omega), ⟨hil⟩, ⟨by have := hk.out; omega⟩, ⟨below_then HB.out HB.out.size (below_drewN (Below.refl _ _) _)⟩⟩
              · have hp1 : decide ((t : Int) > 0) = false := decide_eq_false (by omega)
                have hp2 : decide (0 < (t : Int)) = false := decide_eq_false (by omega)
                have hp3 : decide (0 < t) = false := decide_eq_false hp
                have hS1 := Aside0.mk (hE1 t 0 (by rw [if_neg hlt]) (by omega))
                have HD := Aside0.mk hd
                have HL := Aside0.mk hl
                clear hE1 hd hl ht
                go_wp2_with fail
                go_quiet (fail)
                go_wp2_with fail
                go_roundg k1
                case measure => omega
                case rel => exact ⟨i + 1, val_u64 (by rw [← HD.out, (low_up X e.V i t (by omega) hS1.out.2).1]), val_i64 (by rw [hS1.out.1]; rfl), val_bool (by rw [decide_eq_false (fun h => ((low_up X e.V i t (by omega) hS1.out.2).2.1 h).elim (of_decide_eq_false HL.out) (fun h => by omega))]), by first | rfl | exact wrap_one i (by omega) | exact val_i64 (by omega), ⟨hil⟩, ⟨by have := hk.out; omega⟩, ⟨below_then HB.out HB.out.size (below_drewN (Below.refl _ _) _)⟩⟩
            · skip
              have hS1 := Aside0.mk (hE1 t 0 (by rw [if_neg hlt]) (by omega))
              have HD := Aside0.mk hd
              have HL := Aside0.mk hl
              clear hE1 hd hl ht
              go_wp2_with fail
              go_quiet (fail)
              go_wp2_with fail
              go_roundg k1
              case measure => omega
              case rel => exact ⟨i + 1, val_u64 (by rw [← HD.out, (low_up X e.V i t (by omega) hS1.out.2).1]), val_i64 (by rw [hS1.out.1]; rfl), val_bool (by rw [decide_eq_true ((low_up X e.V i t (by omega) hS1.out.2).2.2 (Or.inl (of_decide_eq_true HL.out)))]), by first | rfl | exact wrap_one i (by omega) | exact val_i64 (by omega), ⟨hil⟩, ⟨by have := hk.out; omega⟩, ⟨below_then HB.out HB.out.size (below_drewN (Below.refl _ _) _)⟩⟩
      · have hil1 : decide ((i : Int) < (n : Int)) = false := decide_eq_false (by omega)
        obtain rfl : i = n := by omega
        have hse := sub_end X e.V i hXl.out (by have := hxx.out; omega)
        have hde : dfB X e.V i = x := by rw [hse.2]; have := hxx.out; omega
        rw [hse.1, hde]
        have HG := Aside0.mk hgr
        have HM : Aside0 (Mine (· = g) w wr) := ⟨Mine.below (Mine.of_below (· = g) (by rw [hgr]; exact HB1.out)) HB.out⟩
        have HBW : Aside0 (Below w.heap.size w wr) := ⟨by rw [hgr]; exact below_then HB1.out (by rw [← hgr]; have := HB1.out.size; omega) HB.out⟩
        have hd1 : wr.cell? ⟨gc, 1, none⟩ = some (.int .u64 (e.R : Int)) := blk_cell CA2.out 1
        have hf2 := blk_frozen BA2.out 2
        have hc2 : wr.cell? ⟨g, 2, none⟩ = some (.bool false) := blk_cell BA2.out 2
        have hR := hok.out.2.2.1
        have hRl : Aside0 (e.R < 4294967296) := ⟨hR⟩
        clear hse hde hgr
        by_cases hxR : x < e.R
        · have hp : x < p7 := by unfold p7; omega
          rw [Nat.mod_eq_of_lt hp, decide_eq_false (by omega)]
          have hx1 : decide ((x : Int) ≥ (e.R : Int)) = false := decide_eq_false (by omega)
          have hx2 : decide ((e.R : Int) ≤ (x : Int)) = false := decide_eq_false (by omega)
          have hx3 : decide (e.R ≤ x) = false := decide_eq_false (by omega)
          have hr0 := blk_cell NA2.out 0
          have hr1 := blk_cell NA2.out 1
          have hr2 := blk_cell NA2.out 2
          have hq0 := blk_frozen NA2.out 0
          have hq1 := blk_frozen NA2.out 1
          have hq2 := blk_frozen NA2.out 2
          simp at hr0 hr1 hr2
          have HP := Aside0.mk hxR
          clear hxR hp
          go_wp2
          refine bodyPost_ret (v := got x 0) (by simp [results, Try.results57, go_sem, got, hr0, hr1, hr2]) rfl ⟨Or.inl ⟨HP.out, rfl, ?_⟩, ?_⟩
          · exact below_of_set3 HBW.out HG.out
          · exact Mine.set (Mine.set (Mine.set HM.out (Or.inr (Nat.le_of_eq HG.out)) _) (Or.inr (Nat.le_of_eq HG.out)) _) (Or.inr (Nat.le_of_eq HG.out)) _
        · by_cases hp : p7 ≤ x
          · rw [decide_eq_true hp]
            obtain ⟨y, hy⟩ : ∃ y, x % p7 = y := ⟨_, rfl⟩
            rw [hy]
            clear hy hp
            have hg3 : (wr.setCell ⟨g, 2, none⟩ (.bool true)).heap[gr]? = some (.cells #[.int .u64 0, .int .i64 0, .int .i64 0] 56 (0, 0)) := blk_far NA2.out (p := ⟨g, 2, none⟩) (Nat.ne_of_gt hgl.out) _
            have hr0 := blk_cell hg3 0
            have hr1 := blk_cell hg3 1
            have hr2 := blk_cell hg3 2
            have hq0 := blk_frozen hg3 0
            have hq1 := blk_frozen hg3 1
            have hq2 := blk_frozen hg3 2
            clear hg3
            simp at hr0 hr1 hr2
            go_wp2
            refine bodyPost_ret (v := got 0 3) (by simp [results, Try.results57, go_sem, got, hr0, hr1, hr2]) rfl ⟨Or.inr ⟨by omega, rfl, ?_⟩, ?_⟩
            · exact ⟨gc, blk_far (blk_far (blk_far (blk_put (cs' := rdCells s gc true) BA2.out 2 (.bool true) rfl) (p := ⟨gr, 0, none⟩) (Nat.ne_of_lt hgl.out) _) (p := ⟨gr, 1, none⟩) (Nat.ne_of_lt hgl.out) _) (p := ⟨gr, 2, none⟩) (Nat.ne_of_lt hgl.out) _⟩
            · exact Mine.set (Mine.set (Mine.set (Mine.set HM.out (Or.inl rfl) _) (Or.inr (Nat.le_of_eq HG.out)) _) (Or.inr (Nat.le_of_eq HG.out)) _) (Or.inr (Nat.le_of_eq HG.out)) _
          · rw [Nat.mod_eq_of_lt (by omega), decide_eq_false hp]
            have hx1 : decide ((x : Int) ≥ (e.R : Int)) = true := decide_eq_true (by omega)
            have hx2 : decide ((e.R : Int) ≤ (x : Int)) = true := decide_eq_true (by omega)
            have hx3 : decide (e.R ≤ x) = true := decide_eq_true (by omega)
            clear hp
            have hg3 : (wr.setCell ⟨g, 2, none⟩ (.bool true)).heap[gr]? = some (.cells #[.int .u64 0, .int .i64 0, .int .i64 0] 56 (0, 0)) := blk_far NA2.out (p := ⟨g, 2, none⟩) (Nat.ne_of_gt hgl.out) _
            have hr0 := blk_cell hg3 0
            have hr1 := blk_cell hg3 1
            have hr2 := blk_cell hg3 2
            have hq0 := blk_frozen hg3 0
            have hq1 := blk_frozen hg3 1
            have hq2 := blk_frozen hg3 2
            clear hg3
            simp at hr0 hr1 hr2
            go_wp2
            refine bodyPost_ret (v := got 0 3) (by simp [results, Try.results57, go_sem, got, hr0, hr1, hr2]) rfl ⟨Or.inr ⟨by omega, rfl, ?_⟩, ?_⟩
            · exact ⟨gc, blk_far (blk_far (blk_far (blk_put (cs' := rdCells s gc true) BA2.out 2 (.bool true) rfl) (p := ⟨gr, 0, none⟩) (Nat.ne_of_lt hgl.out) _) (p := ⟨gr, 1, none⟩) (Nat.ne_of_lt hgl.out) _) (p := ⟨gr, 2, none⟩) (Nat.ne_of_lt hgl.out) _⟩
            · exact Mine.set (Mine.set (Mine.set (Mine.set HM.out (Or.inl rfl) _) (Or.inr (Nat.le_of_eq HG.out)) _) (Or.inr (Nat.le_of_eq HG.out)) _) (Or.inr (Nat.le_of_eq HG.out)) _
theorem ref_ahead.calls (s : ByteArray) (e : Enc) (v : Value) (B g gc : Nat) (w : World) (hS : ReadAt w B g gc s e v) (hok : e.ok) (hL : e.L ≤ 1000000000) (hsz : s.size ≤ 1000000000) :
    Calls Try.prog 57 #[.pointer (some ⟨g, 0, none⟩)] w fun r w' => r = .returned (got (if errE s e = 0 then dE s e else 0) (errE s e)) ∧ (errE s e = 0 → Below w.heap.size w w' ∧ dE s e < e.R ∧ e.L + 4 ≤ s.size ∧ numB s (e.L + 4) = dE s e + e.V) ∧ (errE s e ≠ 0 → BadAt w' g s) ∧ Mine (· = g) w w' := by
  by_cases hm : s.size < e.L + 4
  · have he : errE s e = 2 := by unfold errE; rw [if_pos hm]
    rw [he]
    refine (ref_ahead.more s e v B g gc w ⟨hS⟩ hm).mono ?_
    rintro r w' ⟨rfl, hd, hmn⟩
    exact ⟨rfl, fun h => by omega, fun _ => hd, hmn⟩
  · have hop := hS.told.lo (by omega)
    have hx : numB s (e.L + 4) = dE s e + e.V := by unfold dE; omega
    refine (ref_ahead.read s e v B g gc w ⟨hS⟩ ⟨hok⟩ ⟨hL⟩ ⟨hsz⟩ (by omega) (dE s e) hx).mono ?_
    rintro r w' ⟨h | h, hmn⟩
    · obtain ⟨hlt, rfl, hd⟩ := h
      have he : errE s e = 0 := by unfold errE; rw [if_neg hm, if_neg (by omega)]
      rw [he]
      exact ⟨rfl, fun _ => ⟨hd, hlt, by omega, hx⟩, fun h => absurd rfl h, hmn⟩
    · obtain ⟨hlt, rfl, hd⟩ := h
      have he : errE s e = 3 := by unfold errE; rw [if_neg hm, if_pos (by omega)]
      rw [he]
      exact ⟨rfl, fun h => by omega, fun _ => hd, hmn⟩
/-- A bit that was told. -/
theorem Told.bit {s : ByteArray} {e : Enc} (h : Told s e) (hok : e.ok) (he : errE s e = 0) (p : Int) (b : Bool) (hb : decide (dE s e < shareN e.R p) = b) : Told s (bitE p b e) := by
  obtain ⟨h1, h2, h3, h4⟩ := hok
  have hs := shareN_range e.R p (by omega)
  have hfit : e.L + 4 ≤ s.size := by
    unfold errE at he
    by_cases c : s.size < e.L + 4
    · rw [if_pos c] at he; omega
    · omega
  have hlo := h.lo hfit
  have hlt : numB s (e.L + 4) < e.V + e.R := by
    unfold errE at he
    rw [if_neg (by omega)] at he
    by_cases c : e.V + e.R ≤ numB s (e.L + 4)
    · rw [if_pos c] at he; omega
    · omega
  unfold dE at hb
  unfold bitE bitP
  cases b
  · rw [if_neg Bool.false_ne_true]
    have := of_decide_eq_false hb
    exact ⟨e.L + 4, numB s (e.L + 4) - e.V - shareN e.R p, DecIn.grow 4 _ (DecIn.all (e := ⟨e.V + shareN e.R p, e.L, e.R - shareN e.R p⟩) hfit (by simp only; omega) (by simp only; omega)) (by simp only; omega)⟩
  · rw [if_pos rfl]
    have := of_decide_eq_true hb
    exact ⟨e.L + 4, numB s (e.L + 4) - e.V, DecIn.grow 4 _ (DecIn.all (e := ⟨e.V, e.L, shareN e.R p⟩) hfit (by simp only; omega) (by simp only; omega)) (by simp only; omega)⟩
theorem Told.half {s : ByteArray} {e : Enc} (h : Told s e) (hok : e.ok) (he : errE s e = 0) (b : Bool) (hb : decide (e.R / 2 ≤ dE s e) = b) : Told s (halfE b e) := by
  obtain ⟨h1, h2, h3, h4⟩ := hok
  have hfit : e.L + 4 ≤ s.size := by
    unfold errE at he
    by_cases c : s.size < e.L + 4
    · rw [if_pos c] at he; omega
    · omega
  have hlo := h.lo hfit
  have hlt : numB s (e.L + 4) < e.V + e.R := by
    unfold errE at he
    rw [if_neg (by omega)] at he
    by_cases c : e.V + e.R ≤ numB s (e.L + 4)
    · rw [if_pos c] at he; omega
    · omega
  unfold dE at hb
  unfold halfE halfP
  cases b
  · rw [if_neg Bool.false_ne_true]
    have := of_decide_eq_false hb
    exact ⟨e.L + 4, numB s (e.L + 4) - e.V, DecIn.grow 4 _ (DecIn.all (e := ⟨e.V, e.L, e.R / 2⟩) hfit (by simp only; omega) (by simp only; omega)) (by simp only; omega)⟩
  · rw [if_pos rfl]
    have := of_decide_eq_true hb
    exact ⟨e.L + 4, numB s (e.L + 4) - e.V - e.R / 2, DecIn.grow 4 _ (DecIn.all (e := ⟨e.V + e.R / 2, e.L, e.R / 2⟩) hfit (by simp only; omega) (by simp only; omega)) (by simp only; omega)⟩
end Go.Proofs.Ytgldblakdhalkaa
/- What the reference's reader comes to (Bit, End). Conditions: as each contract states. -/
namespace Go.Proofs.Ytgldblakdhalkaa
set_option linter.unusedVariables false
open Go.RowKit Go.Proofs.YtgldblakdhalkaaW.PrintWords Go.Proofs.YtgldblakdhalkaaW.PrintLast Go.Proofs.YtgldblakdhalkaaW.PrintMore Go.Proofs.Ytgldblakdhalkaa.PBase
def gotCells (n er : Int) : Array Value := #[.int .u64 n, .int .i64 0, .int .i64 er]
/-- A reader's own step. -/
structure RMoved (g gc : Nat) (w : World) (v : Value) (w' : World) (v' : Value) : Prop where
  mine : Mine (rfoot g gc v) w w'
  own : v'.ownBlock = v.ownBlock ∨ ∃ k, v'.ownBlock = some k ∧ w.heap.size ≤ k
theorem RMoved.refl (g gc : Nat) (w : World) (v : Value) : RMoved g gc w v w v := ⟨Mine.refl _ _, Or.inl rfl⟩
theorem RMoved.trans {g gc : Nat} {w w1 w2 : World} {v v1 v2 : Value} (h : RMoved g gc w v w1 v1) (k : RMoved g gc w1 v1 w2 v2) : RMoved g gc w v w2 v2 := by
  refine ⟨Mine.then_ h.mine k.mine (fun i hi => ?_), ?_⟩
  · rcases hi with hi | hi | hi
    · exact Or.inl (Or.inl hi)
    · exact Or.inl (Or.inr (Or.inl hi))
    · rcases h.own with h1 | ⟨k', h1, h2⟩
      · exact Or.inl (Or.inr (Or.inr (h1.symm.trans hi)))
      · rw [h1] at hi; injection hi with hi; exact Or.inr (hi ▸ h2)
  · rcases k.own with h1 | ⟨k', h1, h2⟩
    · rcases h.own with h3 | ⟨k', h3, h4⟩
      · exact Or.inl (h1.trans h3)
      · exact Or.inr ⟨k', h1.trans h3, h4⟩
    · exact Or.inr ⟨k', h1, Nat.le_trans h.mine.size h2⟩
theorem RMoved.of_g {g gc : Nat} {w w1 : World} {v : Value} (h : Mine (· = g) w w1) : RMoved g gc w v w1 v := ⟨h.mono (fun i hi => Or.inl hi), Or.inl rfl⟩
theorem RMoved.of_moved {g gc : Nat} {w w1 : World} {v v1 : Value} (h : Moved gc w v w1 v1) : RMoved g gc w v w1 v1 := ⟨h.mine.mono (fun i hi => Or.inr hi), h.own⟩
theorem RMoved.below {g gc : Nat} {w w1 w2 : World} {v v1 : Value} (h : RMoved g gc w v w1 v1) (k : Below w1.heap.size w1 w2) : RMoved g gc w v w2 v1 := ⟨h.mine.below k, h.own⟩
theorem RMoved.to_below {g gc B : Nat} {w0 w w1 : World} {v v1 : Value} (h : RMoved g gc w v w1 v1) (hb : Below B w0 w) (hB : B ≤ w.heap.size) (hf : ∀ k, rfoot g gc v k → B ≤ k) : Below B w0 w1 :=
  Mine.to_below h.mine hb hB (fun k hk => hf k hk)
theorem ReadAt.lt {w : World} {B g gc : Nat} {s : ByteArray} {e : Enc} {v : Value} (h : ReadAt w B g gc s e v) : ∀ k, rfoot g gc v k → k < w.heap.size := by
  rintro k (hk | hk | hk)
  · rw [hk]; exact blk_lt h.blk
  · rw [hk]; exact blk_lt h.cod.blk
  · exact (h.cod.own.lt k hk).2
/-- What stays of the foot. -/
theorem RMoved.foot {g gc : Nat} {w w1 : World} {v v1 : Value} (h : RMoved g gc w v w1 v1) : ∀ k, rfoot g gc v1 k → rfoot g gc v k ∨ w.heap.size ≤ k := by
  rintro k (hk | hk | hk)
  · exact Or.inl (Or.inl hk)
  · exact Or.inl (Or.inr (Or.inl hk))
  · rcases h.own with h1 | ⟨k', h1, h2⟩
    · exact Or.inl (Or.inr (Or.inr (h1.symm.trans hk)))
    · rw [h1] at hk; injection hk with hk; exact Or.inr (hk ▸ h2)
set_option maxHeartbeats 2000000 in
set_option maxRecDepth 100000 in
theorem ref_RBit.bad (s : ByteArray) (g : Nat) (p : Int) (w : World) (hS : Aside0 (BadAt w g s)) :
    Calls Try.prog 35 #[.pointer (some ⟨g, 0, none⟩), .int .i64 p] w fun r w' => r = .returned (got 0 3) ∧ Below w.heap.size w w' := by
  have hu3 := Try.underlying56
  have hS1 := hS.out.below (below_alloc (Below.refl _ _) (.cells #[.int .u64 0, .int .i64 0, .int .i64 0] 56))
  have HB0 : Aside0 (Below w.heap.size w (w.alloc (.cells #[.int .u64 0, .int .i64 0, .int .i64 0] 56))) := ⟨below_alloc (Below.refl _ _) _⟩
  have NA : (w.alloc (.cells #[.int .u64 0, .int .i64 0, .int .i64 0] 56)).heap[w.heap.size]? = some (.cells #[.int .u64 0, .int .i64 0, .int .i64 0] 56 (0, 0)) := blk_new _ _
  obtain ⟨w1, hw1⟩ : ∃ w1, w.alloc (.cells #[.int .u64 0, .int .i64 0, .int .i64 0] 56) = w1 := ⟨_, rfl⟩
  rw [hw1] at hS1 NA HB0
  have HS1 := Aside0.mk hS1
  have NA1 := Aside0.mk NA
  clear hS1 NA
  obtain ⟨gr, hgr⟩ : ∃ gr, w.heap.size = gr := ⟨_, rfl⟩
  rw [hgr] at NA1
  go_enter Try.func35, Try.ntmps35
  go_wp2_with fail
  refine (ref_ahead.bad s g w1 HS1).mono ?_
  rintro r w2 ⟨rfl, hb⟩
  have NA2 := Aside0.mk (blk_below NA1.out hb)
  have HB2 : Aside0 (Below w.heap.size w w2) := ⟨below_step HB0.out hb⟩
  have hglt : gr < w2.heap.size := blk_lt NA2.out
  have hne1 : (gr = w2.heap.size) = False := eq_false (by omega)
  have hne2 : (w2.heap.size = gr) = False := eq_false (by omega)
  have hr0 := blk_cell NA2.out 0
  have hr1 := blk_cell NA2.out 1
  have hr2 := blk_cell NA2.out 2
  have hq0 := blk_frozen NA2.out 0
  have hq1 := blk_frozen NA2.out 1
  have hq2 := blk_frozen NA2.out 2
  simp at hr0 hr1 hr2
  unfold got
  clear hb
  go_wp2
  refine bodyPost_ret (results_cell_row rfl _ _ gr 56 _ (0, 0) _ rfl (blk_alloc (blk_set (blk_set (blk_set NA2.out 0 _) 1 _) 2 _) _) hu3 rfl rfl) rfl ⟨rfl, ?_⟩
  exact below_alloc (below_of_set3 HB2.out hgr) _
set_option maxHeartbeats 2000000 in
set_option maxRecDepth 100000 in
theorem ref_RBit.err (s : ByteArray) (e : Enc) (v : Value) (B g gc : Nat) (p : Int) (w : World) (hS : Aside0 (ReadAt w B g gc s e v)) (hok : Aside0 e.ok) (hL : Aside0 (e.L ≤ 1000000000)) (hsz : Aside0 (s.size ≤ 1000000000)) (n : Nat) (hn : Aside0 (errE s e = n)) (h23 : n = 2 ∨ n = 3) :
    Calls Try.prog 35 #[.pointer (some ⟨g, 0, none⟩), .int .i64 p] w fun r w' => r = .returned (got 0 n) ∧ BadAt w' g s ∧ Mine (· = g) w w' := by
  have hu3 := Try.underlying56
  have hS1 := hS.out.below (below_alloc (Below.refl _ _) (.cells #[.int .u64 0, .int .i64 0, .int .i64 0] 56))
  have HB0 : Aside0 (Below w.heap.size w (w.alloc (.cells #[.int .u64 0, .int .i64 0, .int .i64 0] 56))) := ⟨below_alloc (Below.refl _ _) _⟩
  have NA : (w.alloc (.cells #[.int .u64 0, .int .i64 0, .int .i64 0] 56)).heap[w.heap.size]? = some (.cells #[.int .u64 0, .int .i64 0, .int .i64 0] 56 (0, 0)) := blk_new _ _
  have hgl : Aside0 (g < w.heap.size) := ⟨blk_lt hS.out.blk⟩
  obtain ⟨w1, hw1⟩ : ∃ w1, w.alloc (.cells #[.int .u64 0, .int .i64 0, .int .i64 0] 56) = w1 := ⟨_, rfl⟩
  rw [hw1] at hS1 NA HB0
  have HS1 := Aside0.mk hS1
  have NA1 := Aside0.mk NA
  clear hS1 NA
  obtain ⟨gr, hgr⟩ : ∃ gr, w.heap.size = gr := ⟨_, rfl⟩
  rw [hgr] at NA1 hgl
  have HG := Aside0.mk hgr
  rcases h23 with rfl | rfl
  all_goals
    go_enter Try.func35, Try.ntmps35
    go_wp2_with fail
    refine (ref_ahead.calls s e v B g gc w1 HS1.out hok.out hL.out hsz.out).mono ?_
    rintro r w2 ⟨rfl, _, hd, hm⟩
    have hdd := Aside0.mk (hd (by rw [hn.out]; decide))
    rw [hn.out, if_neg (by decide)]
    have NA2 := Aside0.mk (blk_mine NA1.out hm (by have := hgl.out; show ¬ gr = g; omega))
    have HM2 : Aside0 (Mine (· = g) w w2) := ⟨Mine.then_ (Mine.of_below _ HB0.out) hm (fun k hk => Or.inl hk)⟩
    have hglt : gr < w2.heap.size := blk_lt NA2.out
    have hne1 : (gr = w2.heap.size) = False := eq_false (by omega)
    have hne2 : (w2.heap.size = gr) = False := eq_false (by omega)
    have hr0 := blk_cell NA2.out 0
    have hr1 := blk_cell NA2.out 1
    have hr2 := blk_cell NA2.out 2
    have hq0 := blk_frozen NA2.out 0
    have hq1 := blk_frozen NA2.out 1
    have hq2 := blk_frozen NA2.out 2
    simp at hr0 hr1 hr2
    unfold got
    clear hd hm
    go_wp2
    refine bodyPost_ret (results_cell_row rfl _ _ gr 56 _ (0, 0) _ rfl (blk_alloc (blk_set (blk_set (blk_set NA2.out 0 _) 1 _) 2 _) _) hu3 rfl rfl) rfl ⟨rfl, ?_, ?_⟩
    · exact hdd.out.mine (S := (· = gr)) (Mine.alloc (Mine.set (Mine.set (Mine.set (Mine.refl (· = gr) _) (Or.inl rfl) _) (Or.inl rfl) _) (Or.inl rfl) _) _) (by have := hgl.out; show ¬ g = gr; omega)
    · exact Mine.alloc (Mine.set (Mine.set (Mine.set HM2.out (Or.inr (Nat.le_of_eq HG.out)) _) (Or.inr (Nat.le_of_eq HG.out)) _) (Or.inr (Nat.le_of_eq HG.out)) _) _
attribute [local go_sem] max2_mx min2_mn max_two min_two in
set_option maxHeartbeats 2000000 in
set_option maxRecDepth 100000 in
theorem ref_chance.same (p : Int) (c : Nat) (hc : cutN p = c) (w : World) :
    Calls Try.prog 53 #[.int .i64 p] w fun e w' => e = .returned (.int .u64 (c : Int)) ∧ w' = w := by
  have h1 := cutN_range p
  have h2 : mx 1 (mn p 4095) = (c : Int) := by have := refcut_val p; unfold wringerref15_chance.f at this; injection this with this; rw [this, hc]
  have h3 : IntKind.u64.wrap (c : Int) = (c : Int) := wrap_u64 _ (by omega) (by omega)
  clear hc h1
  go_enter Try.func53, Try.ntmps53
  go_wp2
  go_ret
  exact ⟨rfl, rfl⟩
set_option maxHeartbeats 4000000 in
set_option maxRecDepth 100000 in
theorem ref_RBit.ok (s : ByteArray) (e : Enc) (v : Value) (B g gc : Nat) (p : Int) (w : World) (hS : Aside0 (ReadAt w B g gc s e v)) (hok : Aside0 e.ok) (hL : Aside0 (e.L ≤ 900000000)) (hsz : Aside0 (s.size ≤ 1000000000)) (hB : Aside0 (B ≤ w.heap.size)) (he : Aside0 (errE s e = 0)) (bb : Bool) (hbb : Aside0 (decide (dE s e < shareN e.R p) = bb)) :
    Calls Try.prog 35 #[.pointer (some ⟨g, 0, none⟩), .int .i64 p] w fun r w' => r = .returned (got (if bb then 1 else 0) 0) ∧ ∃ v', ReadAt w' B g gc s (bitE p bb e) v' ∧ RMoved g gc w v w' v' := by
  have hu3 := Try.underlying56
  have hu2 := Try.underlying97
  have hu4 := Try.underlying89
  have hS1 := hS.out.below (below_alloc (Below.refl _ _) (.cells #[.int .u64 0, .int .i64 0, .int .i64 0] 56))
  have HB0 : Aside0 (Below w.heap.size w (w.alloc (.cells #[.int .u64 0, .int .i64 0, .int .i64 0] 56))) := ⟨below_alloc (Below.refl _ _) _⟩
  have NA : (w.alloc (.cells #[.int .u64 0, .int .i64 0, .int .i64 0] 56)).heap[w.heap.size]? = some (.cells #[.int .u64 0, .int .i64 0, .int .i64 0] 56 (0, 0)) := blk_new _ _
  have hfl : Aside0 (∀ k, rfoot g gc v k → k < w.heap.size) := ⟨hS.out.lt⟩
  obtain ⟨w1, hw1⟩ : ∃ w1, w.alloc (.cells #[.int .u64 0, .int .i64 0, .int .i64 0] 56) = w1 := ⟨_, rfl⟩
  rw [hw1] at hS1 NA HB0
  have HS1 := Aside0.mk hS1
  have NA1 := Aside0.mk NA
  clear hS1 NA
  obtain ⟨gr, hgr⟩ : ∃ gr, w.heap.size = gr := ⟨_, rfl⟩
  rw [hgr] at NA1 hfl
  have HG := Aside0.mk hgr
  have hR := Aside0.mk hok.out.2.2.1
  have hV := Aside0.mk (refcut_val p)
  have hmul := mul_val e.R p hok.out.2.2.1
  obtain ⟨x, hx⟩ : ∃ x, dE s e = x := ⟨_, rfl⟩
  obtain ⟨z, hz⟩ : ∃ z, shareN e.R p = z := ⟨_, rfl⟩
  have HBB := hbb
  rw [hx, hz] at hbb
  rw [hz] at hmul
  obtain ⟨c, hcc⟩ : ∃ c, cutN p = c := ⟨_, rfl⟩
  rw [hcc] at hV hmul
  obtain ⟨q, hq⟩ : ∃ q, e.R / 4096 = q := ⟨_, rfl⟩
  rw [hq] at hmul
  have hdiv : (e.R : Int) / 4096 = (q : Int) := by omega
  have hlt1 : decide ((x : Int) < (z : Int)) = bb := by rw [← hbb.out]; exact decide_eq_decide.2 (by omega)
  have hlt2 : decide (x < z) = bb := hbb.out
  go_enter Try.func35, Try.ntmps35
  go_wp2_with fail
  refine (ref_ahead.calls s e v B g gc w1 HS1.out hok.out (by have := hL.out; omega) hsz.out).mono ?_
  rintro r w2 ⟨rfl, hgo, _, hm⟩
  obtain ⟨hb2, hxl, hfit, hnum⟩ := hgo he.out
  rw [he.out, if_pos rfl, hx]
  have NA2 := Aside0.mk (blk_below NA1.out hb2)
  have HS2 := Aside0.mk (HS1.out.below hb2)
  have HB2 := Aside0.mk (below_step HB0.out hb2)
  clear hgo hm hb2 hxl hfit hnum hx hz hV
  unfold got
  go_wp2_with fail
  obtain ⟨w3, hw3⟩ : ∃ w3, w2.alloc (.cells #[.int .u64 (x : Int), .int .i64 0, .int .i64 0] 56) = w3 := ⟨_, rfl⟩
  obtain ⟨gd, hgd⟩ : ∃ gd, w2.heap.size = gd := ⟨_, rfl⟩
  have DA3 : Aside0 (w3.heap[gd]? = some (.cells #[.int .u64 (x : Int), .int .i64 0, .int .i64 0] 56 (0, 0))) := ⟨by rw [← hw3, ← hgd]; exact blk_new _ _⟩
  have hb3 : Below w2.heap.size w2 w3 := by rw [← hw3]; exact below_alloc (Below.refl _ _) _
  have NA3 := Aside0.mk (blk_below NA2.out hb3)
  have HS3 := Aside0.mk (HS2.out.below hb3)
  have HB3 := Aside0.mk (below_step HB2.out hb3)
  rw [hw3, hgd]
  clear NA2 HS2 HB2 hw3 hgd hb3
  have hd0 : w3.cell? ⟨gd, 0, none⟩ = some (.int .u64 (x : Int)) := blk_cell DA3.out 0
  have hg1 : w3.cell? ⟨g, 1, none⟩ = some (.pointer (some ⟨gc, 0, none⟩)) := blk_cell HS3.out.blk 1
  have hc1 : w3.cell? ⟨gc, 1, none⟩ = some (.int .u64 (e.R : Int)) := blk_cell HS3.out.cod.blk 1
  go_quiet ((go_at_call 53; exact Calls.quiet_of_same (ref_chance.same p c hcc _)))
  have NA4 := Aside0.mk (blk_drewN NA3.out nq)
  have HS4 : Aside0 (ReadAt (w3.drewN nq) B g gc s e v) := ⟨⟨HS3.out.blk, ⟨HS3.out.cod.blk, HS3.out.cod.own, HS3.out.cod.far⟩, HS3.out.ne, HS3.out.far, HS3.out.told⟩⟩
  have HB4 : Aside0 (Below w.heap.size w (w3.drewN nq)) := ⟨below_drewN HB3.out _⟩
  generalize w3.drewN nq = w4 at *
  clear NA3 HS3 HB3 DA3 hd0 hg1 hc1 hmul
  have hg1 : w4.cell? ⟨g, 1, none⟩ = some (.pointer (some ⟨gc, 0, none⟩)) := blk_cell HS4.out.blk 1
  have HT := Aside0.mk (HS4.out.told.bit hok.out he.out p bb HBB.out)
  have hgl : Aside0 (g < w4.heap.size ∧ gr < w4.heap.size ∧ gc < gr ∧ g < gr) := ⟨blk_lt HS4.out.blk, blk_lt NA4.out, hfl.out gc (Or.inr (Or.inl rfl)), hfl.out g (Or.inl rfl)⟩
  cases bb
  all_goals
    clear hbb HBB
    go_wp2_with fail
    refine (ref_Bit.calls e v B gc p _ _ rfl w4 ⟨HS4.out.cod⟩ hok ⟨by have := hL.out; omega⟩ ⟨Nat.le_trans hB.out HB4.out.size⟩).mono ?_
    rintro r w5 ⟨rfl, v', hc5, hm5⟩
    have NA5 := Aside0.mk (blk_mine NA4.out hm5.mine (fun h => h.elim (fun h => by have := hgl.out; omega) (fun h => by have := hfl.out gr (Or.inr (Or.inr h)); omega)))
    have HR5 : Aside0 (w5.heap[g]? = some (.cells (rdCells s gc false) 97 (0, 0))) := ⟨blk_mine HS4.out.blk hm5.mine (fun h => h.elim HS4.out.ne HS4.out.far)⟩
    have HC5 := Aside0.mk hc5
    have HM5 := Aside0.mk hm5
    have hr0 := blk_cell NA5.out 0
    have hr1 := blk_cell NA5.out 1
    have hr2 := blk_cell NA5.out 2
    have hq0 := blk_frozen NA5.out 0
    have hq1 := blk_frozen NA5.out 1
    have hq2 := blk_frozen NA5.out 2
    simp at hr0 hr1 hr2
    clear hc5 hm5 hg1
    go_wp2
    refine bodyPost_ret (results_cell_row rfl _ _ gr 56 _ (0, 0) _ rfl (blk_set (blk_set (blk_set NA5.out 0 _) 1 _) 2 _) hu3 rfl rfl) rfl ⟨rfl, v', ?_, ?_⟩
    · have hv : v'.ownBlock ≠ some g ∧ v'.ownBlock ≠ some gr := by
        rcases HM5.out.own with h | ⟨k, h, h2⟩
        · exact ⟨fun h3 => HS4.out.far (h.symm.trans h3), fun h3 => by have := hfl.out gr (Or.inr (Or.inr (h.symm.trans h3))); omega⟩
        · exact ⟨fun h3 => by rw [h] at h3; injection h3 with h3; have := hgl.out; omega, fun h3 => by rw [h] at h3; injection h3 with h3; have := hgl.out; omega⟩
      have hh : ReadAt w5 B g gc s _ v' := ⟨HR5.out, HC5.out, HS4.out.ne, hv.1, HT.out⟩
      exact hh.mine (S := (· = gr)) (Mine.set (Mine.set (Mine.set (Mine.refl (· = gr) _) (Or.inl rfl) _) (Or.inl rfl) _) (Or.inl rfl) _) (by
        rintro k (h | h | h) h2
        · have := hgl.out; omega
        · have := hgl.out; omega
        · exact hv.2 (by rw [h, h2]))
    · have h1 : RMoved g gc w v w4 v := ⟨Mine.of_below _ HB4.out, Or.inl rfl⟩
      have h2 := h1.trans (RMoved.of_moved HM5.out)
      exact ⟨Mine.set (Mine.set (Mine.set h2.mine (Or.inr (Nat.le_of_eq HG.out)) _) (Or.inr (Nat.le_of_eq HG.out)) _) (Or.inr (Nat.le_of_eq HG.out)) _, h2.own⟩
end Go.Proofs.Ytgldblakdhalkaa
/- What the reference's reader comes to (End, Direct). Conditions: as each contract states. -/
namespace Go.Proofs.Ytgldblakdhalkaa
set_option linter.unusedVariables false
open Go.RowKit Go.Proofs.YtgldblakdhalkaaW.PrintWords Go.Proofs.YtgldblakdhalkaaW.PrintLast Go.Proofs.YtgldblakdhalkaaW.PrintMore Go.Proofs.Ytgldblakdhalkaa.PBase
set_option maxHeartbeats 2000000 in
set_option maxRecDepth 100000 in
theorem ref_Bytes.same (e : Enc) (v : Value) (B g : Nat) (w : World) (hS : Aside0 (CodAt w B g e v)) (b : ByteArray) (hb : bytesE e = b) :
    Calls Try.prog 29 #[.pointer (some ⟨g, 0, none⟩)] w fun r w' => r = .returned (.string b) ∧ w' = w := by
  have hu2 := Try.underlying89
  have hc0 : w.cell? ⟨g, 0, none⟩ = some v := blk_cell hS.out.blk 0
  obtain ⟨b0, C, rfl, hbB⟩ := own_form hS.out.own (by omega)
  have hcv : (convert 33 9 (.slice (some ⟨b0, 0, none⟩) (e.L + 4) C)).run Try.prog w = .ok (.string b) w := by
    rw [← hb]
    exact conv_ints (P := Try.prog) w 33 5 9 Try.underlying33 Try.underlying5 Try.underlying9 B (.slice (some ⟨b0, 0, none⟩) (e.L + 4) C) (beI (e.L + 4) e.V) (by rw [beI_length]; exact hS.out.own)
  clear hb
  go_enter Try.func29, Try.ntmps29
  go_wp2
  go_ret
  exact ⟨rfl, rfl⟩
set_option maxHeartbeats 2000000 in
set_option maxRecDepth 100000 in
theorem ref_REnd.bad (s : ByteArray) (g : Nat) (w : World) (hS : Aside0 (BadAt w g s)) :
    Calls Try.prog 37 #[.pointer (some ⟨g, 0, none⟩)] w fun r w' => r = .returned (.int .i64 3) ∧ Below w.heap.size w w' := by
  have hu3 := Try.underlying56
  go_enter Try.func37, Try.ntmps37
  go_wp2_with fail
  refine (ref_ahead.bad s g w hS).mono ?_
  rintro r w2 ⟨rfl, hb⟩
  have HB := Aside0.mk hb
  unfold got
  clear hb
  go_wp2
  go_ret
  exact ⟨rfl, below_alloc HB.out _⟩
theorem str_ne {s t : ByteArray} (h : s ≠ t) : (s.toList == t.toList) = false := by
  rw [beq_eq_false_iff_ne]
  intro h2
  rw [ByteArray.toList_eq, ByteArray.toList_eq] at h2
  apply h
  cases s; cases t
  congr 1
  exact Array.toList_inj.1 h2
theorem endE_cases (s : ByteArray) (e : Enc) (hok : e.ok) (hlo : e.L + 4 ≤ s.size → e.V ≤ numB s (e.L + 4)) (he : errE s e = 0) : endE s e = if s = bytesE e then 0 else 3 := by
  by_cases h : s = bytesE e
  · rw [if_pos h, h]
    exact bytesE_end hok
  · rw [if_neg h]
    unfold endE
    rw [if_pos he]
    by_cases h2 : dE s e = 0 ∧ e.L + 4 = s.size
    · exfalso
      apply h
      apply end_only hok hlo
      unfold endE
      rw [if_pos he, if_pos h2]
    · rw [if_neg h2]
theorem endE_err (s : ByteArray) (e : Enc) (he : errE s e ≠ 0) : endE s e = errE s e := by unfold endE; rw [if_neg he]
set_option maxHeartbeats 4000000 in
set_option maxRecDepth 100000 in
theorem ref_REnd.calls (s : ByteArray) (e : Enc) (v : Value) (B g gc : Nat) (w : World) (hS : Aside0 (ReadAt w B g gc s e v)) (hok : Aside0 e.ok) (hL : Aside0 (e.L ≤ 1000000000)) (hsz : Aside0 (s.size ≤ 1000000000)) (n : Nat) (hn : Aside0 (endE s e = n)) :
    Calls Try.prog 37 #[.pointer (some ⟨g, 0, none⟩)] w fun r w' => r = .returned (.int .i64 (n : Int)) ∧ (n = 0 → ReadAt w' B g gc s e v) ∧ (n ≠ 0 → BadAt w' g s) ∧ Mine (· = g) w w' := by
  have hu3 := Try.underlying56
  have hu2 := Try.underlying97
  have hu4 := Try.underlying89
  rcases errE_small s e with he | he
  · have hn2 : Aside0 ((if s = bytesE e then 0 else 3) = n) := ⟨by rw [← endE_cases s e hok.out hS.out.told.lo he]; exact hn.out⟩
    have HE := Aside0.mk he
    obtain ⟨b, hb⟩ : ∃ b, bytesE e = b := ⟨_, rfl⟩
    rw [hb] at hn2
    obtain ⟨x, hx⟩ : ∃ x, dE s e = x := ⟨_, rfl⟩
    have HX := Aside0.mk hx
    clear hx he
    have hcase : (s = b ∧ n = 0) ∨ (s ≠ b ∧ n = 3) := by
      have h := hn2.out
      by_cases c : s = b
      · rw [if_pos c] at h; exact Or.inl ⟨c, h.symm⟩
      · rw [if_neg c] at h; exact Or.inr ⟨c, h.symm⟩
    go_enter Try.func37, Try.ntmps37
    go_wp2_with fail
    refine (ref_ahead.calls s e v B g gc w hS.out hok.out hL.out hsz.out).mono ?_
    rintro r w2 ⟨rfl, hgo, _, hm⟩
    obtain ⟨hb2, _, _, _⟩ := hgo HE.out
    rw [HE.out, if_pos rfl, HX.out]
    have HS2 := Aside0.mk (hS.out.below hb2)
    have HB2 := Aside0.mk hb2
    clear hgo hm hb2
    unfold got
    go_wp2_with fail
    have HS3 := Aside0.mk (HS2.out.below (below_alloc (Below.refl _ _) (.cells #[.int .u64 (x : Int), .int .i64 0, .int .i64 0] 56)))
    have HB3 := Aside0.mk (below_alloc HB2.out (.cells #[.int .u64 (x : Int), .int .i64 0, .int .i64 0] 56))
    generalize w2.alloc (.cells #[.int .u64 (x : Int), .int .i64 0, .int .i64 0] 56) = w3 at *
    have hg0 : w3.cell? ⟨g, 0, none⟩ = some (.string s) := blk_cell HS3.out.blk 0
    have hg1 : w3.cell? ⟨g, 1, none⟩ = some (.pointer (some ⟨gc, 0, none⟩)) := blk_cell HS3.out.blk 1
    rcases hcase with ⟨rfl, rfl⟩ | ⟨hne, rfl⟩
    · have hq : decide (s.data.toList = s.data.toList) = true := decide_eq_true rfl
      have hC : ∀ n, Aside0 (CodAt (w3.drewN n) B gc e v) := fun n => ⟨⟨HS3.out.cod.blk, HS3.out.cod.own, HS3.out.cod.far⟩⟩
      go_quiet ((go_at_call 29; exact Calls.quiet_of_same (ref_Bytes.same e v B gc _ (hC _) s hb)))
      go_wp2
      go_ret
      exact ⟨rfl, HS3.out.mine (S := fun _ => False) (Mine.drewN (Mine.refl _ _) _) (fun _ _ h => h), Mine.drewN (Mine.of_below _ HB3.out) _⟩
    · have hq : (s.toList == b.toList) = false := str_ne hne
      have hC : ∀ n, Aside0 (CodAt (w3.drewN n) B gc e v) := fun n => ⟨⟨HS3.out.cod.blk, HS3.out.cod.own, HS3.out.cod.far⟩⟩
      have hf2 := blk_frozen HS3.out.blk 2
      have hg2 : w3.cell? ⟨g, 2, none⟩ = some (.bool false) := blk_cell HS3.out.blk 2
      have HN := Aside0.mk hne
      clear hne
      go_quiet ((go_at_call 29; exact Calls.quiet_of_same (ref_Bytes.same e v B gc _ (hC _) b hb)))
      go_wp2
      go_ret
      exact ⟨rfl, fun h => by omega, fun _ => ⟨gc, blk_put (cs' := rdCells s gc true) (blk_drewN HS3.out.blk _) 2 (.bool true) rfl⟩, Mine.set (S := (· = g)) (Mine.drewN (Mine.of_below _ HB3.out) _) (Or.inl rfl) _⟩
  · have hE : endE s e = errE s e := endE_err s e (by omega)
    have hn2 : errE s e = n := by rw [← hE]; exact hn.out
    have HN2 := Aside0.mk hn2
    have h23 : n = 2 ∨ n = 3 := by omega
    clear he hE hn2
    rcases h23 with rfl | rfl
    all_goals
      go_enter Try.func37, Try.ntmps37
      go_wp2_with fail
      refine (ref_ahead.calls s e v B g gc w hS.out hok.out hL.out hsz.out).mono ?_
      rintro r w2 ⟨rfl, _, hd, hm⟩
      have hdd := Aside0.mk (hd (by rw [HN2.out]; decide))
      have HM := Aside0.mk hm
      rw [HN2.out, if_neg (by decide)]
      clear hd hm
      unfold got
      go_wp2
      go_ret
      exact ⟨rfl, fun h => by omega, fun _ => hdd.out.mine (S := fun _ => False) (Mine.alloc (Mine.refl _ _) _) (fun h => h), Mine.alloc HM.out _⟩
theorem one_bit (b : Bool) (f : Enc) (V : Nat) (hV : V = if b then 1 else 0) : directE V (lenN 1) f = halfE b f := by
  have h1 : lenN 1 = 1 := lenN_nat 1 (by decide)
  rw [h1, hV]
  cases b <;> rfl
theorem or_bit (v y : Nat) (h : v * 2 = y) (hy : y < 18446744073709551616) : Go.bits .or .u64 (y : Int) 0 = (y : Int) := by
  rw [show (0 : Int) = ((0 : Nat) : Int) from rfl, u64_or_nat _ _ hy (by omega), Nat.or_zero]
attribute [local go_sem ↓] Go.wp_at_zero Go.wp_at_succ
attribute [local go_sem] max2_mx min2_mn max_two min_two
set_option maxHeartbeats 4000000 in
set_option maxRecDepth 100000 in
theorem ref_RDirect.live (s : ByteArray) (e : Enc) (v0 : Value) (B g gc : Nat) (n : Int) (w : World) (V er : Nat) (f' : Enc) (hdir : Aside0 (dirS s (lenN n) e 0 = (V, er, f'))) (hS : Aside0 (ReadAt w B g gc s e v0)) (hok : Aside0 e.ok) (hL : Aside0 (e.L ≤ 800000000)) (hsz : Aside0 (s.size ≤ 1000000000)) (hB : Aside0 (B ≤ w.heap.size)) :
    Calls Try.prog 33 #[.pointer (some ⟨g, 0, none⟩), .int .i64 n] w fun r w' => r = .returned (got V er) ∧ ∃ v', (er = 0 → ReadAt w' B g gc s f' v' ∧ f'.ok ∧ f'.L ≤ e.L + 256) ∧ (er ≠ 0 → BadAt w' g s) ∧ RMoved g gc w v0 w' v' := by
  have hu2 := Try.underlying97
  have hu3 := Try.underlying56
  have hu4 := Try.underlying89
  have hNv := lenN_val n
  have hN64 := Aside0.mk (lenN_le n)
  obtain ⟨N, hN⟩ : ∃ N, lenN n = N := ⟨_, rfl⟩
  rw [hN] at hNv hN64 hdir
  have hS1 := hS.out.below (below_alloc (Below.refl _ _) (.cells #[.int .u64 0, .int .i64 0, .int .i64 0] 56))
  have HB0 : Aside0 (Below w.heap.size w (w.alloc (.cells #[.int .u64 0, .int .i64 0, .int .i64 0] 56))) := ⟨below_alloc (Below.refl _ _) _⟩
  have NA : (w.alloc (.cells #[.int .u64 0, .int .i64 0, .int .i64 0] 56)).heap[w.heap.size]? = some (.cells #[.int .u64 0, .int .i64 0, .int .i64 0] 56 (0, 0)) := blk_new _ _
  have hfl : Aside0 (∀ k, rfoot g gc v0 k → k < w.heap.size) := ⟨hS.out.lt⟩
  obtain ⟨w1, hw1⟩ : ∃ w1, w.alloc (.cells #[.int .u64 0, .int .i64 0, .int .i64 0] 56) = w1 := ⟨_, rfl⟩
  rw [hw1] at hS1 NA HB0
  have HS1 := Aside0.mk hS1
  have NA1 := Aside0.mk NA
  clear hS1 NA
  obtain ⟨gr, hgr⟩ : ∃ gr, w.heap.size = gr := ⟨_, rfl⟩
  rw [hgr] at NA1 hfl
  have HG := Aside0.mk hgr
  have hg1l : Aside0 (gr < w1.heap.size) := ⟨blk_lt NA1.out⟩
  have hB1 : Aside0 (B ≤ w1.heap.size) := ⟨Nat.le_trans hB.out HB0.out.size⟩
  go_enter Try.func33, Try.ntmps33
  go_wp2_with fail
  go_loopg [5, 6] (N + 1) (fun kq v5 v6 w' => ∃ (i v : Nat) (f : Enc) (u : Value), v5 = .int .u64 (v : Int) ∧ v6 = .int .i64 (i : Int) ∧ Aside0 (kq = N - i + 1) ∧ Aside0 (i ≤ N) ∧ Aside0 (v < 2 ^ i) ∧ Aside0 (dirS s (N - i) f v = (V, er, f')) ∧ Aside0 f.ok ∧ Aside0 (f.L ≤ e.L + 4 * i) ∧ Aside0 (ReadAt w' B g gc s f u) ∧ Aside0 (w'.heap[gr]? = some (.cells #[.int .u64 0, .int .i64 0, .int .i64 0] 56 (0, 0))) ∧ Aside0 (RMoved g gc w1 v0 w' u))
  case atStart => exact ⟨0, 0, e, v0, rfl, rfl, ⟨rfl⟩, ⟨Nat.zero_le _⟩, ⟨by decide⟩, hdir, hok, ⟨Nat.le_refl _⟩, HS1, NA1, ⟨RMoved.refl _ _ _ _⟩⟩
  case round =>
    clear hdir hS HS1 NA1
    obtain ⟨i, v, f, u, rfl, rfl, hk, hi, hv, hd, hfo, hfL, HS, NA, HM⟩ := hrel
    cases gk with
    | zero => exact absurd hk.out (by omega)
    | succ k1 =>
      have hi2 := hi.out
      have hfu : Aside0 (∀ k, rfoot g gc u k → k < gr ∨ w1.heap.size ≤ k) := ⟨fun k hk => (HM.out.foot k hk).elim (fun h => Or.inl (hfl.out k h)) Or.inr⟩
      have HWM : Aside0 (RMoved g gc w v0 wr u) := ⟨RMoved.trans ⟨Mine.of_below _ HB0.out, Or.inl rfl⟩ HM.out⟩
      by_cases hiN : i < N
      · have hiN1 : decide ((i : Int) < (N : Int)) = true := decide_eq_true (by omega)
        obtain ⟨m, hm⟩ : ∃ m, N - i = m + 1 := ⟨N - i - 1, by omega⟩
        rw [hm] at hd
        have hfLb : Aside0 (f.L ≤ 800000256) := ⟨by have := hfL.out; have := hL.out; have := hN64.out; omega⟩
        go_wp2_with fail
        refine (ref_ahead.calls s f u B g gc wr HS.out hfo.out (by have := hfLb.out; omega) hsz.out).mono ?_
        rintro r w2 ⟨rfl, hgo, hdead, hmn⟩
        have NA2 := Aside0.mk (blk_mine NA.out hmn (by have := hfl.out g (Or.inl rfl); show ¬ gr = g; omega))
        rcases errE_small s f with he | he
        · obtain ⟨hb2, hlt, hfit, hnum⟩ := hgo he
          rw [he, if_pos rfl]
          have HS2 := Aside0.mk (HS.out.below hb2)
          have HM2 : Aside0 (RMoved g gc w1 v0 w2 u) := ⟨HM.out.below hb2⟩
          clear hgo hdead hmn HM HS NA hb2 hfit hnum HWM
          obtain ⟨x, hx⟩ : ∃ x, dE s f = x := ⟨_, rfl⟩
          rw [hx]
          have hR := hfo.out.2.2.1
          have hR1 := hfo.out.2.1
          obtain ⟨h, hh⟩ : ∃ h, f.R / 2 = h := ⟨_, rfl⟩
          have hh1 : (f.R : Int) / 2 = (h : Int) := by omega
          have hvb : v < 9223372036854775808 := Nat.lt_of_lt_of_le hv.out (by have : 2 ^ i ≤ 2 ^ 63 := Nat.pow_le_pow_right (by decide) (by have := hN64.out; omega); exact this)
          obtain ⟨y, hy⟩ : ∃ y, v * 2 = y := ⟨_, rfl⟩
          have hvy : IntKind.u64.wrap ((v : Int) * 2) = (y : Int) := by rw [IntKind.wrap_u64]; omega
          have hor := or_one v y hy (by omega)
          have hor0 := or_bit v y hy (by omega)
          obtain ⟨y1, hy1⟩ : ∃ y1, v * 2 + 1 = y1 := ⟨_, rfl⟩
          rw [hy1] at hor
          have hp2 : 2 ^ (i + 1) = 2 ^ i * 2 := Nat.pow_succ 2 i
          have hv2 := hv.out
          have hNext := Aside0.mk (And.intro hp2 (And.intro hy hy1))
          have HX := Aside0.mk hx
          have HH := Aside0.mk hh
          have HE := Aside0.mk he
          have hHor := Aside0.mk (And.intro hvy (And.intro hor hor0))
          clear hx hh he hp2 hvy hor hor0 hlt
          unfold got
          go_wp2_with fail
          obtain ⟨w3, hw3⟩ : ∃ w3, w2.alloc (.cells #[.int .u64 (x : Int), .int .i64 0, .int .i64 0] 56) = w3 := ⟨_, rfl⟩
          obtain ⟨gd, hgd⟩ : ∃ gd, w2.heap.size = gd := ⟨_, rfl⟩
          have DA3 : Aside0 (w3.heap[gd]? = some (.cells #[.int .u64 (x : Int), .int .i64 0, .int .i64 0] 56 (0, 0))) := ⟨by rw [← hw3, ← hgd]; exact blk_new _ _⟩
          have hb3 : Below w2.heap.size w2 w3 := by rw [← hw3]; exact below_alloc (Below.refl _ _) _
          have NA3 := Aside0.mk (blk_below NA2.out hb3)
          have HS3 := Aside0.mk (HS2.out.below hb3)
          have HM3 := Aside0.mk (HM2.out.below hb3)
          rw [hw3, hgd]
          clear NA2 HS2 HM2 hw3 hgd hb3
          have hd0 : w3.cell? ⟨gd, 0, none⟩ = some (.int .u64 (x : Int)) := blk_cell DA3.out 0
          have hg1 : w3.cell? ⟨g, 1, none⟩ = some (.pointer (some ⟨gc, 0, none⟩)) := blk_cell HS3.out.blk 1
          have hc1 : w3.cell? ⟨gc, 1, none⟩ = some (.int .u64 (f.R : Int)) := blk_cell HS3.out.cod.blk 1
          by_cases hzx : h ≤ x
          · have hb1 : decide (h ≤ x) = true := decide_eq_true hzx
            have hb2 : decide ((h : Int) ≤ (x : Int)) = true := decide_eq_true (by omega)
            have hb3 : decide ((x : Int) ≥ (h : Int)) = true := decide_eq_true (by omega)
            have HBB := Aside0.mk (show decide (f.R / 2 ≤ dE s f) = true by rw [HH.out, HX.out]; exact hb1)
            clear hzx
            go_quiet (fail)
            have NA4 := Aside0.mk (blk_drewN NA3.out nq)
            have HS4 : Aside0 (ReadAt (w3.drewN nq) B g gc s f u) := ⟨⟨HS3.out.blk, ⟨HS3.out.cod.blk, HS3.out.cod.own, HS3.out.cod.far⟩, HS3.out.ne, HS3.out.far, HS3.out.told⟩⟩
            have HM4 : Aside0 (RMoved g gc w1 v0 (w3.drewN nq) u) := ⟨HM3.out.below ⟨rfl, rfl, rfl, Nat.le_refl _, fun _ _ => rfl⟩⟩
            generalize w3.drewN nq = w4 at *
            clear NA3 HS3 HM3 DA3 hd0 hg1 hc1 hb1 hb2 hb3
            have hg1 : w4.cell? ⟨g, 1, none⟩ = some (.pointer (some ⟨gc, 0, none⟩)) := blk_cell HS4.out.blk 1
            go_wp2_with fail
            refine (ref_Direct.calls f u B gc 1 1 w4 ⟨by decide⟩ ⟨HS4.out.cod⟩ hfo ⟨by have := hfLb.out; omega⟩ ⟨Nat.le_trans hB1.out HM4.out.mine.size⟩).mono ?_
            rintro r w5 ⟨rfl, u', hc5, hm5⟩
            rw [one_bit true f 1 rfl] at hc5
            have hgu := hfu.out
            have NA5 := Aside0.mk (blk_mine NA4.out hm5.mine (fun h => h.elim (fun h => by have := hfl.out gc (Or.inr (Or.inl rfl)); omega) (fun h => by have := hfu.out gr (Or.inr (Or.inr h)); have := hg1l.out; omega)))
            have HR5 : Aside0 (w5.heap[g]? = some (.cells (rdCells s gc false) 97 (0, 0))) := ⟨blk_mine HS4.out.blk hm5.mine (fun h => h.elim HS4.out.ne HS4.out.far)⟩
            have hgl4 := blk_lt HS4.out.blk
            have hv5 : u'.ownBlock ≠ some g := by
              rcases hm5.own with h | ⟨k, h, h2⟩
              · exact fun h3 => HS4.out.far (h.symm.trans h3)
              · exact fun h3 => by rw [h] at h3; injection h3 with h3; omega
            have HS5 : Aside0 (ReadAt w5 B g gc s (halfE true f) u') := ⟨HR5.out, hc5, HS4.out.ne, hv5, HS4.out.told.half hfo.out HE.out true HBB.out⟩
            have HM5 := Aside0.mk (HM4.out.trans (RMoved.of_moved hm5))
            have hLn := halfE_L true f
            have hHd : Aside0 (dirS s (N - (i + 1)) (halfE true f) y1 = (V, er, f')) := ⟨by rw [show N - (i + 1) = m by omega]; have := hd.out; rw [dirS_ok s m f v HE.out true HBB.out, show v * 2 + true.toNat = y1 from hNext.out.2.2] at this; exact this⟩
            have hvn : Aside0 (y1 < 2 ^ (i + 1)) := ⟨by rw [hNext.out.1]; omega⟩
            have hkn : Aside0 (k1 = N - (i + 1) + 1) := ⟨by have := hk.out; omega⟩
            have hfLn : Aside0 ((halfE true f).L ≤ e.L + 4 * (i + 1)) := ⟨by have := hfL.out; omega⟩
            clear hc5 hm5 hg1 hgu hh1 hy hy1 hv5 hgl4
            have hvy := hHor.out.1
            have hor := hHor.out.2.1
            have hi64 : (i : Int) ≤ 64 := by have := hN64.out; omega
            go_wp2_with fail
            go_roundg k1
            case measure => have := hk.out; omega
            case rel => exact ⟨i + 1, y1, _, u', rfl, by first | rfl | exact wrap_one i (by omega), hkn, ⟨hiN⟩, hvn, hHd, ⟨halfE_ok hfo.out _⟩, hfLn, HS5, NA5, HM5⟩
          · have hb1 : decide (h ≤ x) = false := decide_eq_false hzx
            have hb2 : decide ((h : Int) ≤ (x : Int)) = false := decide_eq_false (by omega)
            have hb3 : decide ((x : Int) ≥ (h : Int)) = false := decide_eq_false (by omega)
            have HBB := Aside0.mk (show decide (f.R / 2 ≤ dE s f) = false by rw [HH.out, HX.out]; exact hb1)
            clear hzx
            go_quiet (fail)
            have NA4 := Aside0.mk (blk_drewN NA3.out nq)
            have HS4 : Aside0 (ReadAt (w3.drewN nq) B g gc s f u) := ⟨⟨HS3.out.blk, ⟨HS3.out.cod.blk, HS3.out.cod.own, HS3.out.cod.far⟩, HS3.out.ne, HS3.out.far, HS3.out.told⟩⟩
            have HM4 : Aside0 (RMoved g gc w1 v0 (w3.drewN nq) u) := ⟨HM3.out.below ⟨rfl, rfl, rfl, Nat.le_refl _, fun _ _ => rfl⟩⟩
            generalize w3.drewN nq = w4 at *
            clear NA3 HS3 HM3 DA3 hd0 hg1 hc1 hb1 hb2 hb3
            have hg1 : w4.cell? ⟨g, 1, none⟩ = some (.pointer (some ⟨gc, 0, none⟩)) := blk_cell HS4.out.blk 1
            go_wp2_with fail
            refine (ref_Direct.calls f u B gc 0 1 w4 ⟨by decide⟩ ⟨HS4.out.cod⟩ hfo ⟨by have := hfLb.out; omega⟩ ⟨Nat.le_trans hB1.out HM4.out.mine.size⟩).mono ?_
            rintro r w5 ⟨rfl, u', hc5, hm5⟩
            rw [one_bit false f 0 rfl] at hc5
            have hgu := hfu.out
            have NA5 := Aside0.mk (blk_mine NA4.out hm5.mine (fun h => h.elim (fun h => by have := hfl.out gc (Or.inr (Or.inl rfl)); omega) (fun h => by have := hfu.out gr (Or.inr (Or.inr h)); have := hg1l.out; omega)))
            have HR5 : Aside0 (w5.heap[g]? = some (.cells (rdCells s gc false) 97 (0, 0))) := ⟨blk_mine HS4.out.blk hm5.mine (fun h => h.elim HS4.out.ne HS4.out.far)⟩
            have hgl4 := blk_lt HS4.out.blk
            have hv5 : u'.ownBlock ≠ some g := by
              rcases hm5.own with h | ⟨k, h, h2⟩
              · exact fun h3 => HS4.out.far (h.symm.trans h3)
              · exact fun h3 => by rw [h] at h3; injection h3 with h3; omega
            have HS5 : Aside0 (ReadAt w5 B g gc s (halfE false f) u') := ⟨HR5.out, hc5, HS4.out.ne, hv5, HS4.out.told.half hfo.out HE.out false HBB.out⟩
            have HM5 := Aside0.mk (HM4.out.trans (RMoved.of_moved hm5))
            have hLn := halfE_L false f
            have hHd : Aside0 (dirS s (N - (i + 1)) (halfE false f) y = (V, er, f')) := ⟨by rw [show N - (i + 1) = m by omega]; have := hd.out; rw [dirS_ok s m f v HE.out false HBB.out, show v * 2 + false.toNat = y from (Nat.add_zero _).trans hNext.out.2.1] at this; exact this⟩
            have hvn : Aside0 (y < 2 ^ (i + 1)) := ⟨by rw [hNext.out.1]; omega⟩
            have hkn : Aside0 (k1 = N - (i + 1) + 1) := ⟨by have := hk.out; omega⟩
            have hfLn : Aside0 ((halfE false f).L ≤ e.L + 4 * (i + 1)) := ⟨by have := hfL.out; omega⟩
            clear hc5 hm5 hg1 hgu hh1 hy hy1 hv5 hgl4
            have hvy := hHor.out.1
            have hor := hHor.out.2.2
            have hi64 : (i : Int) ≤ 64 := by have := hN64.out; omega
            go_wp2_with fail
            go_roundg k1
            case measure => have := hk.out; omega
            case rel => exact ⟨i + 1, y, _, u', rfl, by first | rfl | exact wrap_one i (by omega), hkn, ⟨hiN⟩, hvn, hHd, ⟨halfE_ok hfo.out _⟩, hfLn, HS5, NA5, HM5⟩
        · have hen : errE s f ≠ 0 := by omega
          have HD := Aside0.mk (hdead hen)
          have HM2 := Aside0.mk (RMoved.trans HWM.out (RMoved.of_g hmn))
          have hd2 := hd.out
          rw [dirS_err s m f v hen] at hd2
          injection hd2 with e1 e2
          injection e2 with e2 e3
          subst e1
          have her : Aside0 (errE s f = er) := ⟨e2⟩
          rw [if_neg hen, e2]
          have h23 : er = 2 ∨ er = 3 := by omega
          clear hgo hdead hmn HM HS NA HWM hen he e2 e3
          have hglt : gr < w2.heap.size := blk_lt NA2.out
          have hne1 : (gr = w2.heap.size) = False := eq_false (by omega)
          have hne2 : (w2.heap.size = gr) = False := eq_false (by omega)
          have hr0 := blk_cell NA2.out 0
          have hr1 := blk_cell NA2.out 1
          have hr2 := blk_cell NA2.out 2
          have hq0 := blk_frozen NA2.out 0
          have hq1 := blk_frozen NA2.out 1
          have hq2 := blk_frozen NA2.out 2
          simp at hr0 hr1 hr2
          unfold got
          rcases h23 with rfl | rfl
          all_goals
            go_wp2
            refine bodyPost_ret (results_cell_row rfl _ _ gr 56 _ (0, 0) _ rfl (blk_alloc (blk_set (blk_set (blk_set NA2.out 0 _) 1 _) 2 _) _) hu3 rfl rfl) rfl ⟨rfl, u, fun h => by omega, fun _ => ?_, ?_⟩
            · exact HD.out.mine (S := (· = gr)) (Mine.alloc (Mine.set (Mine.set (Mine.set (Mine.refl (· = gr) _) (Or.inl rfl) _) (Or.inl rfl) _) (Or.inl rfl) _) _) (by have := hfl.out g (Or.inl rfl); show ¬ g = gr; omega)
            · exact ⟨Mine.alloc (Mine.set (Mine.set (Mine.set HM2.out.mine (Or.inr (Nat.le_of_eq HG.out)) _) (Or.inr (Nat.le_of_eq HG.out)) _) (Or.inr (Nat.le_of_eq HG.out)) _) _, HM2.out.own⟩
      · have hiN1 : decide ((i : Int) < (N : Int)) = false := decide_eq_false (by omega)
        have hd2 := hd.out
        rw [show N - i = 0 by omega, dirS_zero] at hd2
        injection hd2 with e1 e2
        injection e2 with e2 e3
        subst e1 e2 e3
        have hr0 := blk_cell NA.out 0
        have hr1 := blk_cell NA.out 1
        have hr2 := blk_cell NA.out 2
        have hq0 := blk_frozen NA.out 0
        have hq1 := blk_frozen NA.out 1
        have hq2 := blk_frozen NA.out 2
        simp at hr0 hr1 hr2
        go_wp2
        refine bodyPost_ret (results_cell_row rfl _ _ gr 56 _ (0, 0) _ rfl (blk_set (blk_set (blk_set NA.out 0 _) 1 _) 2 _) hu3 rfl rfl) rfl ⟨rfl, u, ⟨?_, hfo.out, ?_⟩, ?_⟩
        · refine HS.out.mine (S := (· = gr)) (Mine.set (Mine.set (Mine.set (Mine.refl (· = gr) _) (Or.inl rfl) _) (Or.inl rfl) _) (Or.inl rfl) _) ?_
          intro k hkf (hkg : k = gr)
          have := hfu.out k hkf
          have := hg1l.out
          omega
        · have := hfL.out; have := hN64.out; omega
        · exact ⟨Mine.set (Mine.set (Mine.set HWM.out.mine (Or.inr (Nat.le_of_eq HG.out)) _) (Or.inr (Nat.le_of_eq HG.out)) _) (Or.inr (Nat.le_of_eq HG.out)) _, HWM.out.own⟩
set_option maxHeartbeats 4000000 in
set_option maxRecDepth 100000 in
theorem ref_RDirect.bad (s : ByteArray) (g : Nat) (n : Int) (w : World) (hS : Aside0 (BadAt w g s)) (er : Nat) (her : er = if lenN n = 0 then 0 else 3) :
    Calls Try.prog 33 #[.pointer (some ⟨g, 0, none⟩), .int .i64 n] w fun r w' => r = .returned (got 0 er) ∧ Below w.heap.size w w' := by
  have hu3 := Try.underlying56
  have hNv := lenN_val n
  obtain ⟨N, hN⟩ : ∃ N, lenN n = N := ⟨_, rfl⟩
  rw [hN] at hNv her
  have hS1 := hS.out.below (below_alloc (Below.refl _ _) (.cells #[.int .u64 0, .int .i64 0, .int .i64 0] 56))
  have HB0 : Aside0 (Below w.heap.size w (w.alloc (.cells #[.int .u64 0, .int .i64 0, .int .i64 0] 56))) := ⟨below_alloc (Below.refl _ _) _⟩
  have NA : (w.alloc (.cells #[.int .u64 0, .int .i64 0, .int .i64 0] 56)).heap[w.heap.size]? = some (.cells #[.int .u64 0, .int .i64 0, .int .i64 0] 56 (0, 0)) := blk_new _ _
  obtain ⟨w1, hw1⟩ : ∃ w1, w.alloc (.cells #[.int .u64 0, .int .i64 0, .int .i64 0] 56) = w1 := ⟨_, rfl⟩
  rw [hw1] at hS1 NA HB0
  have HS1 := Aside0.mk hS1
  have NA1 := Aside0.mk NA
  clear hS1 NA
  obtain ⟨gr, hgr⟩ : ∃ gr, w.heap.size = gr := ⟨_, rfl⟩
  rw [hgr] at NA1
  have HG := Aside0.mk hgr
  have NN := Aside0.mk hN
  clear hN
  by_cases hN0 : N = 0
  · rw [if_pos hN0] at her
    subst her hN0
    have hr0 := blk_cell NA1.out 0
    have hr1 := blk_cell NA1.out 1
    have hr2 := blk_cell NA1.out 2
    have hq0 := blk_frozen NA1.out 0
    have hq1 := blk_frozen NA1.out 1
    have hq2 := blk_frozen NA1.out 2
    simp at hr0 hr1 hr2
    go_enter Try.func33, Try.ntmps33
    go_wp2_with fail
    go_loopg [5, 6] 1 (fun kq v5 v6 w' => v5 = .int .u64 0 ∧ v6 = .int .i64 0 ∧ Aside0 (kq = 1) ∧ w' = w1)
    case atStart => exact ⟨rfl, rfl, ⟨rfl⟩, rfl⟩
    case round =>
    obtain ⟨rfl, rfl, hk, rfl⟩ := hrel
    go_wp2
    refine bodyPost_ret (results_cell_row rfl _ _ gr 56 _ (0, 0) _ rfl (blk_set (blk_set (blk_set NA1.out 0 _) 1 _) 2 _) hu3 rfl rfl) rfl ⟨rfl, ?_⟩
    exact below_of_set3 HB0.out HG.out
  · rw [if_neg hN0] at her
    subst her
    have hN1 : decide ((0 : Int) < (N : Int)) = true := decide_eq_true (by omega)
    have hN2 : decide (0 < N) = true := decide_eq_true (by omega)
    go_enter Try.func33, Try.ntmps33
    go_wp2_with fail
    go_loopg [5, 6] 1 (fun kq v5 v6 w' => v5 = .int .u64 0 ∧ v6 = .int .i64 0 ∧ Aside0 (kq = 1) ∧ w' = w1)
    case atStart => exact ⟨rfl, rfl, ⟨rfl⟩, rfl⟩
    case round =>
    obtain ⟨rfl, rfl, hk, rfl⟩ := hrel
    go_wp2_with fail
    refine (ref_ahead.bad s g _ HS1).mono ?_
    rintro r w2 ⟨rfl, hb⟩
    have NA2 := Aside0.mk (blk_below NA1.out hb)
    have HB2 : Aside0 (Below w.heap.size w w2) := ⟨below_step HB0.out hb⟩
    have hglt : gr < w2.heap.size := blk_lt NA2.out
    have hne1 : (gr = w2.heap.size) = False := eq_false (by omega)
    have hne2 : (w2.heap.size = gr) = False := eq_false (by omega)
    have hr0 := blk_cell NA2.out 0
    have hr1 := blk_cell NA2.out 1
    have hr2 := blk_cell NA2.out 2
    have hq0 := blk_frozen NA2.out 0
    have hq1 := blk_frozen NA2.out 1
    have hq2 := blk_frozen NA2.out 2
    simp at hr0 hr1 hr2
    unfold got
    clear hb
    go_wp2
    refine bodyPost_ret (results_cell_row rfl _ _ gr 56 _ (0, 0) _ rfl (blk_alloc (blk_set (blk_set (blk_set NA2.out 0 _) 1 _) 2 _) _) hu3 rfl rfl) rfl ⟨rfl, ?_⟩
    exact below_alloc (below_of_set3 HB2.out HG.out) _
end Go.Proofs.Ytgldblakdhalkaa
/- Classes bit by bit, as numbers: how chances move, what is put, what is told. Conditions: as each lemma states. -/
namespace Go.Proofs.Ytgldblakdhalkaa
set_option linter.unusedVariables false
open Go.RowKit Go.Proofs.YtgldblakdhalkaaW.PrintWords Go.Proofs.YtgldblakdhalkaaW.PrintLast Go.Proofs.YtgldblakdhalkaaW.PrintMore Go.Proofs.Ytgldblakdhalkaa.PBase
/-- A chance behind a bit. -/
def mvI (p bit shift : Int) : Int := if bit = 0 then wrap64 ((mx 0 (mn p 4096)) - ((mx 0 (mn p 4096)) / 2 ^ (mx 1 (mn shift 12)).toNat)) else wrap64 ((mx 0 (mn p 4096)) + ((4096 - (mx 0 (mn p 4096))) / 2 ^ (mx 1 (mn shift 12)).toNat))
theorem move_f (p bit shift : Int) : tree_Move.f p bit shift = some (mvI p bit shift) := by unfold tree_Move.f mvI; split <;> rfl
theorem rmove_f (p bit shift : Int) : wringerref15_Move.f p bit shift = some (mvI p bit shift) := by unfold wringerref15_Move.f mvI; split <;> rfl
/-- The chances of all nodes, and the coder. -/
structure TS where
  p : List Int
  e : Enc
def TS.at_ (t : TS) (n : Nat) : Int := t.p.getD n 0
def bI (b : Bool) : Int := if b then 1 else 0
theorem bI_ne (b : Bool) : (bI b != 0) = b := by cases b <;> rfl
def stepT (sh : Int) (n : Nat) (b : Bool) (t : TS) : TS := ⟨t.p.set n (mvI (t.at_ n) (bI b) sh), bitE (t.at_ n) b t.e⟩
def TS.new : TS := ⟨List.replicate 128 2048, Enc.new⟩
def TS.ok (t : TS) : Prop := t.p.length = 128 ∧ t.e.ok
theorem TS.new_ok : TS.new.ok := ⟨List.length_replicate, Enc.new_ok⟩
theorem stepT_ok {t : TS} (h : t.ok) (sh : Int) (n : Nat) (b : Bool) : (stepT sh n b t).ok := ⟨by unfold stepT; simp only [List.length_set]; exact h.1, bitE_ok h.2 _ _⟩
theorem stepT_L (sh : Int) (n : Nat) (b : Bool) (t : TS) : (stepT sh n b t).e.L ≤ t.e.L + 4 := bitE_L _ _ _
/-! ### A class -/
def nodeN (c i : Nat) : Nat := (128 + c) / 2 ^ (7 - i)
def nbit (c i : Nat) : Bool := (128 + c) / 2 ^ (6 - i) % 2 == 1
def nodesI (c : Nat) : List Int := (List.range 7).map fun i => (nodeN c i : Int)
def bitsI (c : Nat) : List Int := (List.range 7).map fun i => bI (nbit c i)
theorem nodesI_length (c : Nat) : (nodesI c).length = 7 := by simp [nodesI]
theorem bitsI_length (c : Nat) : (bitsI c).length = 7 := by simp [bitsI]
theorem nodesI_get (c i : Nat) (h : i < 7) : (nodesI c)[i]? = some (nodeN c i : Int) := by unfold nodesI; rw [List.getElem?_map, List.getElem?_range h]; rfl
theorem bitsI_get (c i : Nat) (h : i < 7) : (bitsI c)[i]? = some (bI (nbit c i)) := by unfold bitsI; rw [List.getElem?_map, List.getElem?_range h]; rfl
def nodesOk (c : Nat) : Bool := (tree_Nodes.f 30 (c : Int) == some (nodesI c, bitsI c)) && (wringerref15_Nodes.f 30 (c : Int) == some (nodesI c, bitsI c))
theorem nodes_all : (List.range 65).all nodesOk = true := by decide +kernel
theorem nodes_ok (c : Nat) (h : c < 65) : tree_Nodes.f 30 (c : Int) = some (nodesI c, bitsI c) ∧ wringerref15_Nodes.f 30 (c : Int) = some (nodesI c, bitsI c) := by
  have h1 := (List.all_eq_true.1 nodes_all) c (List.mem_range.2 h)
  unfold nodesOk at h1
  rw [Bool.and_eq_true] at h1
  exact ⟨eq_of_beq h1.1, eq_of_beq h1.2⟩
def isC (c : Int) : Bool := decide (0 ≤ c) && decide (c < 65)
theorem isC_f (c : Int) : tree_isClass.f c = some (isC c) := by
  unfold tree_isClass.f isC
  by_cases h : c ≥ 0
  · rw [if_pos h, decide_eq_true (show 0 ≤ c from h), Bool.true_and]
  · rw [if_neg h, decide_eq_false (show ¬ 0 ≤ c by omega), Bool.false_and]
theorem isC_nat {c : Int} (h : isC c = true) : ∃ n : Nat, c = (n : Int) ∧ n < 65 := by
  unfold isC at h
  rw [Bool.and_eq_true] at h
  have h1 := of_decide_eq_true h.1
  have h2 := of_decide_eq_true h.2
  exact ⟨c.toNat, by omega, by omega⟩
theorem isC_of {n : Nat} (h : n < 65) : isC (n : Int) = true := by unfold isC; rw [decide_eq_true (by omega), decide_eq_true (by omega)]; rfl
theorem nodes_no (c : Int) (h : isC c = false) : tree_Nodes.f 30 c = some ([], []) ∧ wringerref15_Nodes.f 30 c = some ([], []) := by
  constructor
  · unfold tree_Nodes.f
    rw [isC_f, h, Option.bind_some, if_neg Bool.false_ne_true]
  · unfold isC at h
    unfold wringerref15_Nodes.f
    by_cases h1 : c < 0
    · rw [if_pos h1]
      unfold wringerref15_Nodes.j0
      exact if_pos rfl
    · rw [if_neg h1]
      have h2 : c ≥ 65 := by
        rw [decide_eq_true (by omega), Bool.true_and] at h
        have := of_decide_eq_false h
        omega
      unfold wringerref15_Nodes.j0
      exact if_pos (decide_eq_true h2)
def mayS (sh : Int) : Bool := decide (4 ≤ sh) && decide (sh ≤ 7)
theorem mayS_f (sh : Int) : tree_mayShift.f sh = some (mayS sh) := by
  unfold tree_mayShift.f mayS
  by_cases h : sh ≥ 4
  · rw [if_pos h, decide_eq_true (show 4 ≤ sh from h), Bool.true_and]
  · rw [if_neg h, decide_eq_false (show ¬ 4 ≤ sh by omega), Bool.false_and]
theorem nodeN_lt (c i : Nat) (hc : c < 65) (hi : i < 7) : nodeN c i < 128 := by
  unfold nodeN
  rcases (by omega : i = 0 ∨ i = 1 ∨ i = 2 ∨ i = 3 ∨ i = 4 ∨ i = 5 ∨ i = 6) with h | h | h | h | h | h | h <;> subst h <;> simp <;> omega
/-! ### What is put -/
/-- The first i bits of a class. -/
def putN (sh : Int) (c : Nat) : Nat → TS → TS
  | 0, t => t
  | i + 1, t => stepT sh (nodeN c i) (nbit c i) (putN sh c i t)
theorem putN_ok (sh : Int) (c : Nat) : ∀ (i : Nat) {t : TS}, t.ok → (putN sh c i t).ok
  | 0, _, h => h
  | i + 1, _, h => stepT_ok (putN_ok sh c i h) _ _ _
theorem putN_L (sh : Int) (c : Nat) : ∀ (i : Nat) (t : TS), (putN sh c i t).e.L ≤ t.e.L + 4 * i
  | 0, t => Nat.le_refl _
  | i + 1, t => by
    have h1 := putN_L sh c i t
    have h2 := stepT_L sh (nodeN c i) (nbit c i) (putN sh c i t)
    show (stepT sh (nodeN c i) (nbit c i) (putN sh c i t)).e.L ≤ _
    omega
def putL (sh : Int) : List Int → TS → TS
  | [], t => t
  | c :: l, t => putL sh l (putN sh c.toNat 7 t)
theorem putL_ok (sh : Int) : ∀ (l : List Int) {t : TS}, t.ok → (putL sh l t).ok
  | [], _, h => h
  | c :: l, _, h => putL_ok sh l (putN_ok sh _ 7 h)
theorem putL_snoc (sh : Int) : ∀ (l : List Int) (c : Int) (t : TS), putL sh (l ++ [c]) t = putN sh c.toNat 7 (putL sh l t)
  | [], _, _ => rfl
  | d :: l, c, t => putL_snoc sh l c (putN sh d.toNat 7 t)
theorem putL_next (sh : Int) (l : List Int) (i : Nat) (c : Int) (t : TS) (h : l[i]? = some c) : putL sh (l.take (i + 1)) t = putN sh c.toNat 7 (putL sh (l.take i) t) := by
  rw [List.take_add_one, h]
  exact putL_snoc _ _ _ _
theorem putL_L (sh : Int) : ∀ (l : List Int) (t : TS), (putL sh l t).e.L ≤ t.e.L + 28 * l.length
  | [], t => Nat.le_refl _
  | c :: l, t => by
    have h1 := putL_L sh l (putN sh c.toNat 7 t)
    have h2 := putN_L sh c.toNat 7 t
    show (putL sh l (putN sh c.toNat 7 t)).e.L ≤ _
    rw [List.length_cons]
    omega
def putS (sh : Int) (l : List Int) : ByteArray × Nat := if mayS sh && l.all isC then (bytesE (putL sh l TS.new).e, 0) else (⟨#[]⟩, 1)
theorem putS_sh (sh : Int) (l : List Int) (h : mayS sh = false) : putS sh l = (⟨#[]⟩, 1) := by unfold putS; rw [h, Bool.false_and, if_neg Bool.false_ne_true]
theorem putS_no (sh : Int) (l : List Int) (i : Nat) (c : Int) (h : l[i]? = some c) (hc : isC c = false) : putS sh l = (⟨#[]⟩, 1) := by
  have : l.all isC = false := by
    rw [List.all_eq_false]
    exact ⟨c, List.mem_of_getElem? h, by rw [hc]; exact Bool.false_ne_true⟩
  unfold putS
  rw [this, Bool.and_false, if_neg Bool.false_ne_true]
theorem putS_ok (sh : Int) (l : List Int) (h : mayS sh = true) (hc : ∀ (i : Nat) (c : Int), l[i]? = some c → isC c = true) : putS sh l = (bytesE (putL sh l TS.new).e, 0) := by
  have : l.all isC = true := by
    rw [List.all_eq_true]
    intro c hm
    obtain ⟨i, hi⟩ := List.getElem?_of_mem hm
    exact hc i c hi
  unfold putS
  rw [this, h]
  rfl
/-! ### What is told -/
/-- i bits more, from a node on. -/
def getB (s : ByteArray) (sh : Int) : Nat → Nat → TS → Nat × Nat × TS
  | 0, n, t => (0, n, t)
  | i + 1, n, t => if errE s t.e = 0 then getB s sh i (2 * n + (decide (dE s t.e < shareN t.e.R (t.at_ n))).toNat) (stepT sh n (decide (dE s t.e < shareN t.e.R (t.at_ n))) t) else (errE s t.e, n, t)
theorem getB_zero (s : ByteArray) (sh : Int) (n : Nat) (t : TS) : getB s sh 0 n t = (0, n, t) := rfl
theorem getB_err (s : ByteArray) (sh : Int) (i n : Nat) (t : TS) (h : errE s t.e ≠ 0) : getB s sh (i + 1) n t = (errE s t.e, n, t) := by
  show (if errE s t.e = 0 then _ else _) = _
  rw [if_neg h]
theorem getB_ok (s : ByteArray) (sh : Int) (i n : Nat) (t : TS) (h : errE s t.e = 0) (b : Bool) (hb : decide (dE s t.e < shareN t.e.R (t.at_ n)) = b) : getB s sh (i + 1) n t = getB s sh i (2 * n + b.toNat) (stepT sh n b t) := by
  show (if errE s t.e = 0 then _ else _) = _
  rw [if_pos h, hb]
/-- n classes more. -/
def getC (s : ByteArray) (sh : Int) : Nat → List Int → TS → Nat × List Int × TS
  | 0, l, t => (0, l, t)
  | n + 1, l, t => if (getB s sh 7 1 t).1 = 0 then (if (getB s sh 7 1 t).2.1 < 193 then getC s sh n (l ++ [((getB s sh 7 1 t).2.1 : Int) - 128]) (getB s sh 7 1 t).2.2 else (3, [], t)) else ((getB s sh 7 1 t).1, [], t)
theorem getC_zero (s : ByteArray) (sh : Int) (l : List Int) (t : TS) : getC s sh 0 l t = (0, l, t) := rfl
theorem getC_err (s : ByteArray) (sh : Int) (n : Nat) (l : List Int) (t : TS) (er m : Nat) (t' : TS) (h : getB s sh 7 1 t = (er, m, t')) (he : er ≠ 0) : getC s sh (n + 1) l t = (er, [], t) := by
  show (if (getB s sh 7 1 t).1 = 0 then _ else _) = _
  rw [h, if_neg he]
theorem getC_form (s : ByteArray) (sh : Int) (n : Nat) (l : List Int) (t : TS) (m : Nat) (t' : TS) (h : getB s sh 7 1 t = (0, m, t')) (hm : 193 ≤ m) : getC s sh (n + 1) l t = (3, [], t) := by
  show (if (getB s sh 7 1 t).1 = 0 then _ else _) = _
  rw [h, if_pos rfl, if_neg (by simp only; omega)]
theorem getC_ok (s : ByteArray) (sh : Int) (n : Nat) (l : List Int) (t : TS) (m : Nat) (t' : TS) (h : getB s sh 7 1 t = (0, m, t')) (hm : m < 193) : getC s sh (n + 1) l t = getC s sh n (l ++ [(m : Int) - 128]) t' := by
  show (if (getB s sh 7 1 t).1 = 0 then _ else _) = _
  rw [h, if_pos rfl, if_pos hm]
def getS (s : ByteArray) (n : Nat) (sh : Int) : List Int × Nat :=
  if (getC s sh n [] TS.new).1 = 0 then (if endE s (getC s sh n [] TS.new).2.2.e = 0 then ((getC s sh n [] TS.new).2.1, 0) else ([], 3)) else ([], (getC s sh n [] TS.new).1)
theorem getB_range (s : ByteArray) (sh : Int) : ∀ (i n : Nat) (t : TS) (er m : Nat) (t' : TS), getB s sh i n t = (er, m, t') → er = 0 → n * 2 ^ i ≤ m ∧ m < (n + 1) * 2 ^ i
  | 0, n, t, er, m, t', h, _ => by
    rw [getB_zero] at h
    injection h with _ h
    injection h with h _
    rw [Nat.pow_zero]
    omega
  | i + 1, n, t, er, m, t', h, he => by
    by_cases h0 : errE s t.e = 0
    · rw [getB_ok s sh i n t h0 _ rfl] at h
      obtain ⟨h1, h2⟩ := getB_range s sh i _ _ er m t' h he
      generalize decide (dE s t.e < shareN t.e.R (t.at_ n)) = b at *
      have hb : b.toNat ≤ 1 := by cases b <;> decide
      have hp : 0 < 2 ^ i := Nat.pow_pos (by decide)
      rw [Nat.pow_succ, Nat.mul_comm (2 ^ i) 2, ← Nat.mul_assoc, ← Nat.mul_assoc]
      have a1 : n * 2 * 2 ^ i ≤ (2 * n + b.toNat) * 2 ^ i := Nat.mul_le_mul_right _ (by omega)
      have a2 : (2 * n + b.toNat + 1) * 2 ^ i ≤ (n + 1) * 2 * 2 ^ i := Nat.mul_le_mul_right _ (by omega)
      omega
    · rw [getB_err s sh i n t h0] at h
      injection h with h _
      omega
end Go.Proofs.Ytgldblakdhalkaa
/- What the chances of all nodes come to in memory (made, move). Conditions: as each contract states. -/
namespace Go.Proofs.Ytgldblakdhalkaa
set_option linter.unusedVariables false
open Go.RowKit Go.Proofs.YtgldblakdhalkaaW.PrintWords Go.Proofs.YtgldblakdhalkaaW.PrintLast Go.Proofs.YtgldblakdhalkaaW.PrintMore Go.Proofs.Ytgldblakdhalkaa.PBase
def i64s (l : List Int) : List Value := l.map (fun x => Value.int .i64 x)
def chCells (p : List Int) (sh : Int) : Array Value := (i64s p ++ [Value.int .i64 sh]).toArray
/-- The chances in memory. -/
def ChAt (w : World) (g : Nat) (p : List Int) (sh : Int) : Prop := w.heap[g]? = some (.cells (chCells p sh) 85 (0, 0)) ∧ p.length = 128
theorem chCells_get (p : List Int) (sh : Int) (n : Nat) (h : n < p.length) : (chCells p sh)[n]? = some (.int .i64 (p.getD n 0)) := by
  unfold chCells i64s
  rw [List.getElem?_toArray, List.getElem?_append_left (by rw [List.length_map]; exact h), List.getElem?_map, List.getElem?_eq_getElem h, List.getD_eq_getElem?_getD, List.getElem?_eq_getElem h]
  rfl
theorem chCells_last (p : List Int) (sh : Int) : (chCells p sh)[p.length]? = some (.int .i64 sh) := by
  unfold chCells i64s
  rw [List.getElem?_toArray, List.getElem?_append_right (by rw [List.length_map]; exact Nat.le_refl _), List.length_map, Nat.sub_self]
  rfl
theorem chCells_set (p : List Int) (sh : Int) (n : Nat) (h : n < p.length) (x : Int) : (chCells p sh).setIfInBounds n (.int .i64 x) = chCells (p.set n x) sh := by
  unfold chCells i64s
  rw [List.setIfInBounds_toArray, List.set_append_left (h := by rw [List.length_map]; exact h), List.map_set]
theorem ChAt.cell {w : World} {g : Nat} {p : List Int} {sh : Int} (h : ChAt w g p sh) (n : Nat) (hn : n < 128) : w.cell? ⟨g, n, none⟩ = some (.int .i64 (p.getD n 0)) ∧ w.frozen? ⟨g, n, none⟩ = false :=
  ⟨by rw [blk_cell h.1 n]; exact chCells_get p sh n (by rw [h.2]; exact hn), blk_frozen h.1 n⟩
theorem ChAt.shift {w : World} {g : Nat} {p : List Int} {sh : Int} (h : ChAt w g p sh) : w.cell? ⟨g, 128, none⟩ = some (.int .i64 sh) := by
  rw [blk_cell h.1 128, ← h.2]
  exact chCells_last p sh
theorem ChAt.put {w : World} {g : Nat} {p : List Int} {sh : Int} (h : ChAt w g p sh) (n : Nat) (hn : n < 128) (x : Int) : ChAt (w.setCell ⟨g, n, none⟩ (.int .i64 x)) g (p.set n x) sh :=
  ⟨blk_put h.1 n _ (chCells_set p sh n (by rw [h.2]; exact hn) x), by rw [List.length_set]; exact h.2⟩
theorem ChAt.mine {S : Nat → Prop} {w w' : World} {g : Nat} {p : List Int} {sh : Int} (h : ChAt w g p sh) (hm : Mine S w w') (hg : ¬ S g) : ChAt w' g p sh := ⟨blk_mine h.1 hm hg, h.2⟩
theorem ChAt.below {w w' : World} {g : Nat} {p : List Int} {sh : Int} (h : ChAt w g p sh) (hb : Below w.heap.size w w') : ChAt w' g p sh := h.mine (Mine.of_below (fun _ => False) hb) (fun h => h)
theorem ChAt.lt {w : World} {g : Nat} {p : List Int} {sh : Int} (h : ChAt w g p sh) : g < w.heap.size := blk_lt h.1
attribute [local go_sem] max2_mx min2_mn max_two min_two
set_option maxHeartbeats 8000000 in
set_option maxRecDepth 100000 in
theorem tree_Move.same (a0 : Int) (a1 : Int) (a2 : Int) (r : Int) (w : World) (h : tree_Move.f a0 a1 a2 = some r) :
    Calls Try.prog 42 #[.int .i64 a0, .int .i64 a1, .int .i64 a2] w fun e w' => e = .returned (.int .i64 r) ∧ w' = w := by
  have H : (if a1 = 0 then (some (wrap64 ((mx 0 (mn a0 4096)) - ((mx 0 (mn a0 4096)) / 2 ^ (mx 1 (mn a2 12)).toNat)))) else (some (wrap64 ((mx 0 (mn a0 4096)) + ((4096 - (mx 0 (mn a0 4096))) / 2 ^ (mx 1 (mn a2 12)).toNat))))) = some r := h
  clear h
  obtain ⟨ji4, hji4⟩ : ∃ j_ : Int, (mn a0 4096) = j_ := ⟨_, rfl⟩
  replace H : (if a1 = 0 then (some (wrap64 ((mx 0 (ji4)) - ((mx 0 (ji4)) / 2 ^ (mx 1 (mn a2 12)).toNat)))) else (some (wrap64 ((mx 0 (ji4)) + ((4096 - (mx 0 (ji4))) / 2 ^ (mx 1 (mn a2 12)).toNat))))) = some r := by first | (rw [hji4] at H; exact H) | (simp only [hji4] at H ⊢; exact H)
  (try (have hji4h : ji4 ≤ 4096 := by (rw [← hji4]; unfold mn; (repeat' split) <;> omega)))
  (try (have hji4g : ji4 ≤ 64 := by omega))
  have hji4_ : (if 4096 < a0 then 4096 else a0) = ji4 := hji4
  obtain ⟨ji5, hji5⟩ : ∃ j_ : Int, (mx 0 (ji4)) = j_ := ⟨_, rfl⟩
  replace H : (if a1 = 0 then (some (wrap64 ((ji5) - ((ji5) / 2 ^ (mx 1 (mn a2 12)).toNat)))) else (some (wrap64 ((ji5) + ((4096 - (ji5)) / 2 ^ (mx 1 (mn a2 12)).toNat))))) = some r := by first | (rw [hji5] at H; exact H) | (simp only [hji5] at H ⊢; exact H)
  have hji5_ : (if 0 < (ji4) then (ji4) else 0) = ji5 := hji5
  obtain ⟨ji6, hji6⟩ : ∃ j_ : Int, (mn a2 12) = j_ := ⟨_, rfl⟩
  replace H : (if a1 = 0 then (some (wrap64 ((ji5) - ((ji5) / 2 ^ (mx 1 (ji6)).toNat)))) else (some (wrap64 ((ji5) + ((4096 - (ji5)) / 2 ^ (mx 1 (ji6)).toNat))))) = some r := by first | (rw [hji6] at H; exact H) | (simp only [hji6] at H ⊢; exact H)
  (try (have hji6h : ji6 ≤ 12 := by (rw [← hji6]; unfold mn; (repeat' split) <;> omega)))
  (try (have hji6g : ji6 ≤ 64 := by omega))
  have hji6_ : (if 12 < a2 then 12 else a2) = ji6 := hji6
  obtain ⟨ji7, hji7⟩ : ∃ j_ : Int, (mx 1 (ji6)) = j_ := ⟨_, rfl⟩
  replace H : (if a1 = 0 then (some (wrap64 ((ji5) - ((ji5) / 2 ^ (ji7).toNat)))) else (some (wrap64 ((ji5) + ((4096 - (ji5)) / 2 ^ (ji7).toNat))))) = some r := by first | (rw [hji7] at H; exact H) | (simp only [hji7] at H ⊢; exact H)
  have hji7_ : (if 1 < (ji6) then (ji6) else 1) = ji7 := hji7
  by_cases c8 : a1 = 0
  · rw [if_pos c8] at H
    have c8b0 : (a1 == 0) = true := beq_iff_eq.mpr c8
    have c8b1 : (a1 != 0) = false := bne_eq_false_iff_eq.mpr c8
    clear c8
    obtain rfl := Option.some.inj H
    go_enter Try.func42, Try.ntmps42
    go_wp2
    go_ret
    exact ⟨by first | rfl | (simp [errW_none, errW_some] <;> rfl) | (simp only [← hji4, ← hji5, ← hji6, ← hji7]; first | rfl | (simp [errW_none, errW_some] <;> rfl)) | (simp [*, errW_none, errW_some] <;> rfl), rfl⟩
  · rw [if_neg c8] at H
    have c8b0 : (a1 == 0) = false := beq_eq_false_iff_ne.mpr c8
    have c8b1 : (a1 != 0) = true := bne_iff_ne.mpr c8
    obtain rfl := Option.some.inj H
    go_enter Try.func42, Try.ntmps42
    go_wp2
    go_ret
    exact ⟨by first | rfl | (simp [errW_none, errW_some] <;> rfl) | (simp only [← hji4, ← hji5, ← hji6, ← hji7]; first | rfl | (simp [errW_none, errW_some] <;> rfl)) | (simp [*, errW_none, errW_some] <;> rfl), rfl⟩
set_option maxHeartbeats 8000000 in
set_option maxRecDepth 100000 in
theorem wringerref15_Move.same (a0 : Int) (a1 : Int) (a2 : Int) (r : Int) (w : World) (h : wringerref15_Move.f a0 a1 a2 = some r) :
    Calls Try.prog 43 #[.int .i64 a0, .int .i64 a1, .int .i64 a2] w fun e w' => e = .returned (.int .i64 r) ∧ w' = w := by
  have H : (if a1 = 0 then (some (wrap64 ((mx 0 (mn a0 4096)) - ((mx 0 (mn a0 4096)) / 2 ^ (mx 1 (mn a2 12)).toNat)))) else (some (wrap64 ((mx 0 (mn a0 4096)) + ((4096 - (mx 0 (mn a0 4096))) / 2 ^ (mx 1 (mn a2 12)).toNat))))) = some r := h
  clear h
  obtain ⟨ji4, hji4⟩ : ∃ j_ : Int, (mn a0 4096) = j_ := ⟨_, rfl⟩
  replace H : (if a1 = 0 then (some (wrap64 ((mx 0 (ji4)) - ((mx 0 (ji4)) / 2 ^ (mx 1 (mn a2 12)).toNat)))) else (some (wrap64 ((mx 0 (ji4)) + ((4096 - (mx 0 (ji4))) / 2 ^ (mx 1 (mn a2 12)).toNat))))) = some r := by first | (rw [hji4] at H; exact H) | (simp only [hji4] at H ⊢; exact H)
  (try (have hji4h : ji4 ≤ 4096 := by (rw [← hji4]; unfold mn; (repeat' split) <;> omega)))
  (try (have hji4g : ji4 ≤ 64 := by omega))
  have hji4_ : (if 4096 < a0 then 4096 else a0) = ji4 := hji4
  obtain ⟨ji5, hji5⟩ : ∃ j_ : Int, (mx 0 (ji4)) = j_ := ⟨_, rfl⟩
  replace H : (if a1 = 0 then (some (wrap64 ((ji5) - ((ji5) / 2 ^ (mx 1 (mn a2 12)).toNat)))) else (some (wrap64 ((ji5) + ((4096 - (ji5)) / 2 ^ (mx 1 (mn a2 12)).toNat))))) = some r := by first | (rw [hji5] at H; exact H) | (simp only [hji5] at H ⊢; exact H)
  have hji5_ : (if 0 < (ji4) then (ji4) else 0) = ji5 := hji5
  obtain ⟨ji6, hji6⟩ : ∃ j_ : Int, (mn a2 12) = j_ := ⟨_, rfl⟩
  replace H : (if a1 = 0 then (some (wrap64 ((ji5) - ((ji5) / 2 ^ (mx 1 (ji6)).toNat)))) else (some (wrap64 ((ji5) + ((4096 - (ji5)) / 2 ^ (mx 1 (ji6)).toNat))))) = some r := by first | (rw [hji6] at H; exact H) | (simp only [hji6] at H ⊢; exact H)
  (try (have hji6h : ji6 ≤ 12 := by (rw [← hji6]; unfold mn; (repeat' split) <;> omega)))
  (try (have hji6g : ji6 ≤ 64 := by omega))
  have hji6_ : (if 12 < a2 then 12 else a2) = ji6 := hji6
  obtain ⟨ji7, hji7⟩ : ∃ j_ : Int, (mx 1 (ji6)) = j_ := ⟨_, rfl⟩
  replace H : (if a1 = 0 then (some (wrap64 ((ji5) - ((ji5) / 2 ^ (ji7).toNat)))) else (some (wrap64 ((ji5) + ((4096 - (ji5)) / 2 ^ (ji7).toNat))))) = some r := by first | (rw [hji7] at H; exact H) | (simp only [hji7] at H ⊢; exact H)
  have hji7_ : (if 1 < (ji6) then (ji6) else 1) = ji7 := hji7
  by_cases c8 : a1 = 0
  · rw [if_pos c8] at H
    have c8b0 : (a1 == 0) = true := beq_iff_eq.mpr c8
    have c8b1 : (a1 != 0) = false := bne_eq_false_iff_eq.mpr c8
    clear c8
    obtain rfl := Option.some.inj H
    go_enter Try.func43, Try.ntmps43
    go_wp2
    go_ret
    exact ⟨by first | rfl | (simp [errW_none, errW_some] <;> rfl) | (simp only [← hji4, ← hji5, ← hji6, ← hji7]; first | rfl | (simp [errW_none, errW_some] <;> rfl)) | (simp [*, errW_none, errW_some] <;> rfl), rfl⟩
  · rw [if_neg c8] at H
    have c8b0 : (a1 == 0) = false := beq_eq_false_iff_ne.mpr c8
    have c8b1 : (a1 != 0) = true := bne_iff_ne.mpr c8
    obtain rfl := Option.some.inj H
    go_enter Try.func43, Try.ntmps43
    go_wp2
    go_ret
    exact ⟨by first | rfl | (simp [errW_none, errW_some] <;> rfl) | (simp only [← hji4, ← hji5, ← hji6, ← hji7]; first | rfl | (simp [errW_none, errW_some] <;> rfl)) | (simp [*, errW_none, errW_some] <;> rfl), rfl⟩
attribute [local go_sem ↓] Go.wp_at_zero Go.wp_at_succ
set_option maxRecDepth 100000 in
theorem z85 (w : World) : Sem.run Try.prog (zeroValue 85) w = .ok (.agg (chCells (List.replicate 128 0) 0)) w := by kernel_rfl
theorem z85_size : (chCells (List.replicate 128 0) 0).size = 129 := by kernel_rfl
theorem chCells_shift (p : List Int) (sh x : Int) (h : p.length = 128) : (chCells p sh).setIfInBounds 128 (.int .i64 x) = chCells p x := by
  unfold chCells i64s
  rw [List.setIfInBounds_toArray, List.set_append_right (h := by rw [List.length_map]; omega), List.length_map, h, Nat.sub_self]
  rfl
theorem rep_set (i : Nat) (h : i < 128) : (List.replicate i (2048 : Int) ++ List.replicate (128 - i) 0).set i 2048 = List.replicate (i + 1) 2048 ++ List.replicate (128 - (i + 1)) 0 := by
  rw [List.set_append_right (h := by rw [List.length_replicate]; exact Nat.le_refl _), List.length_replicate, Nat.sub_self, show 128 - i = (128 - (i + 1)) + 1 by omega, List.replicate_succ, List.set_cons_zero, List.replicate_succ', List.append_assoc]
  rfl
set_option maxHeartbeats 4000000 in
set_option maxRecDepth 100000 in
theorem made.calls (sh : Int) (w : World) :
    Calls Try.prog 45 #[.int .i64 sh] w fun e w' => e = .returned (.pointer (some ⟨w.heap.size, 0, none⟩)) ∧ ChAt w' w.heap.size (List.replicate 128 2048) sh ∧ Below w.heap.size w w' := by
  have hu85 := Try.underlying85
  have hu83 := Try.underlying83
  obtain ⟨Z, hZ⟩ : ∃ Z, chCells (List.replicate 128 0) 0 = Z := ⟨_, rfl⟩
  have hz := z85 w
  have hs := z85_size
  have hset := chCells_shift (List.replicate 128 0) 0 sh (by rw [List.length_replicate])
  rw [hZ] at hz hs hset
  obtain ⟨Y, hY⟩ : ∃ Y, chCells (List.replicate 128 0) sh = Y := ⟨_, rfl⟩
  rw [hY] at hset
  have HY := Aside0.mk hY
  clear hZ hY
  go_enter Try.func45, Try.ntmps45
  go_wp2_with fail
  have HC : Aside0 (ChAt (w.alloc (.cells Y 85)) w.heap.size (List.replicate 128 0) sh) := ⟨by rw [← HY.out]; exact ⟨blk_new _ _, List.length_replicate⟩⟩
  have HB : Aside0 (Below w.heap.size w (w.alloc (.cells Y 85))) := ⟨below_alloc (Below.refl _ _) _⟩
  clear hz hs hset
  generalize w.alloc (.cells Y 85) = w1 at *
  obtain ⟨gh, hgh⟩ : ∃ gh, w.heap.size = gh := ⟨_, rfl⟩
  rw [hgh] at HC ⊢
  have HG := Aside0.mk hgh
  clear hgh
  go_loopg [8] 129 (fun kq v8 w' => ∃ i : Nat, v8 = .int .i64 (i : Int) ∧ Aside0 (kq = 128 - i + 1) ∧ Aside0 (i ≤ 128) ∧ Aside0 (ChAt w' gh (List.replicate i 2048 ++ List.replicate (128 - i) 0) sh) ∧ Aside0 (Below w.heap.size w w'))
  case atStart => exact ⟨0, rfl, ⟨rfl⟩, ⟨Nat.zero_le _⟩, HC, HB⟩
  case round =>
    clear HC HB
    obtain ⟨i, rfl, hk, hi, HC, HB⟩ := hrel
    cases gk with
    | zero => exact absurd hk.out (by omega)
    | succ k1 =>
      have hi2 := hi.out
      by_cases hil : i < 128
      · have hil1 : decide ((i : Int) < 128) = true := decide_eq_true (by omega)
        have hi0 := eq_true (show (0 : Int) ≤ (i : Int) by omega)
        have hi1 := eq_true (show (i : Int) < 128 by omega)
        obtain ⟨hcell, hfz⟩ := HC.out.cell i hil
        have HP := HC.out.put i hil 2048
        rw [rep_set i hil] at HP
        have HP2 := Aside0.mk HP
        have HB2 := Aside0.mk (Mine.to_below (Mine.set (S := (· = gh)) (i := i) (Mine.refl _ wr) (Or.inl rfl) (.int .i64 2048)) HB.out HB.out.size (fun k hk => by rw [hk, HG.out]; exact Nat.le_refl _))
        clear HP
        go_wp2_with fail
        go_roundg k1
        case measure => have := hk.out; omega
        case rel => exact ⟨i + 1, by first | rfl | exact wrap_one i (by omega), ⟨by have := hk.out; omega⟩, ⟨hil⟩, HP2, HB2⟩
      · have hil1 : decide ((i : Int) < 128) = false := decide_eq_false (by omega)
        obtain rfl : i = 128 := by omega
        go_wp2
        go_ret
        refine ⟨by rw [HG.out]; rfl, ?_, HB.out⟩
        rw [HG.out]
        have h := HC.out
        rw [Nat.sub_self, List.replicate_zero, List.append_nil] at h
        exact h
set_option maxHeartbeats 4000000 in
set_option maxRecDepth 100000 in
theorem move.calls (p : List Int) (sh bit : Int) (n g : Nat) (w : World) (hS : Aside0 (ChAt w g p sh)) (hn : n < 128) :
    Calls Try.prog 46 #[.pointer (some ⟨g, 0, none⟩), .int .i64 (n : Int), .int .i64 bit] w fun r w' => r = .returned (.tuple #[]) ∧ ChAt w' g (p.set n (mvI (p.getD n 0) bit sh)) sh ∧ Mine (· = g) w w' := by
  have hu85 := Try.underlying85
  have hu83 := Try.underlying83
  obtain ⟨hcell, hfz⟩ := hS.out.cell n hn
  have hsh := hS.out.shift
  have hn0 := eq_true (show (0 : Int) ≤ (n : Int) by omega)
  have hn1 := eq_true (show (n : Int) < 128 by omega)
  have hmv := Aside0.mk (move_f (p.getD n 0) bit sh)
  obtain ⟨x, hx⟩ : ∃ x, p.getD n 0 = x := ⟨_, rfl⟩
  rw [hx] at hcell hmv ⊢
  obtain ⟨y, hy⟩ : ∃ y, mvI x bit sh = y := ⟨_, rfl⟩
  rw [hy] at hmv ⊢
  clear hx hy
  go_enter Try.func46, Try.ntmps46
  go_region_with (first | (go_at_call 42; refine (tree_Move.same _ _ _ _ _ hmv.out).mono ?_; rintro r w2 ⟨rfl, hw⟩; have hw := hw.symm; subst hw))
  all_goals
    refine bodyPost_end (results_none rfl _ _ _) rfl ?_
    exact ⟨rfl, ⟨blk_drew (hS.out.put n hn y).1, (hS.out.put n hn y).2⟩, Mine.drew (Mine.set (S := (· = g)) (Mine.refl _ _) (Or.inl rfl) _)⟩
end Go.Proofs.Ytgldblakdhalkaa
/- What the program's Put of classes comes to. Conditions: as the contract states. -/
namespace Go.Proofs.Ytgldblakdhalkaa
set_option linter.unusedVariables false
open Go.RowKit Go.Proofs.YtgldblakdhalkaaW.PrintWords Go.Proofs.YtgldblakdhalkaaW.PrintLast Go.Proofs.YtgldblakdhalkaaW.PrintMore Go.Proofs.Ytgldblakdhalkaa.PBase
theorem row_of_R {w : World} {B : Nat} {ok : Nat → Prop} {v : Value} {l : List Int} (h : (Kd.int .i64).R 3 w B ok v l) (hl : 0 < l.length) :
    ∃ b C, v = .slice (some ⟨b, 0, none⟩) l.length C ∧ w.ownsRow B 3 1 (.slice (some ⟨b, 0, none⟩) l.length C) l.length (i64s l) ∧ B ≤ b ∧ b < w.heap.size ∧ ok b := by
  have ho : w.ownsRow B 3 1 v l.length (i64s l) := Kd.own_of_R (h1 := fun _ => rfl) h
  obtain ⟨b, C, rfl, h1, h2⟩ := World.ownsRow.form ho hl
  exact ⟨b, C, rfl, ho, h1, h2, h.1 b rfl⟩
theorem i64s_get (l : List Int) (j : Nat) (x : Int) (h : l[j]? = some x) : (i64s l)[j]? = some (.int .i64 x) := by unfold i64s; rw [List.getElem?_map, h]; rfl
/-- An encoder and the chances, apart. -/
structure PutAt (w : World) (B g gh : Nat) (t : TS) (sh : Int) (v : Value) : Prop where
  enc : EncAt w B g t.e v
  ch : ChAt w gh t.p sh
  apart : ¬ foot g v gh
  gB : B ≤ g
  hB : B ≤ gh
def footP (g gh : Nat) (v : Value) (k : Nat) : Prop := foot g v k ∨ k = gh
theorem PutAt.up {w : World} {B g gh : Nat} {t : TS} {sh : Int} {v : Value} (h : PutAt w B g gh t sh v) : ∀ k, footP g gh v k → B ≤ k := by
  rintro k ((hk | hk) | hk)
  · rw [hk]; exact h.gB
  · exact h.enc.ge k hk
  · rw [hk]; exact h.hB
theorem PutAt.lt {w : World} {B g gh : Nat} {t : TS} {sh : Int} {v : Value} (h : PutAt w B g gh t sh v) : ∀ k, footP g gh v k → k < w.heap.size := by
  rintro k (hk | hk)
  · exact h.enc.lt2 k hk
  · rw [hk]; exact h.ch.lt
theorem PutAt.below {w w' : World} {B g gh : Nat} {t : TS} {sh : Int} {v : Value} (h : PutAt w B g gh t sh v) (hb : Below w.heap.size w w') : PutAt w' B g gh t sh v :=
  ⟨h.enc.below hb, h.ch.below hb, h.apart, h.gB, h.hB⟩
/-- The foot behind the encoder's step. -/
theorem foot_moved {g : Nat} {w w' : World} {v v' : Value} (hm : Moved g w v w' v') : ∀ k, foot g v' k → foot g v k ∨ w.heap.size ≤ k := by
  rintro k (hk | hk)
  · exact Or.inl (Or.inl hk)
  · rcases hm.own with h | ⟨k', h, h2⟩
    · exact Or.inl (Or.inr (h.symm.trans hk))
    · rw [h] at hk; injection hk with hk; exact Or.inr (hk ▸ h2)
/-- The encoder put a bit, then the chance moved. -/
theorem PutAt.step {w w1 w2 : World} {B g gh : Nat} {t : TS} {sh : Int} {v v' : Value} {n : Nat} {b : Bool} (h : PutAt w B g gh t sh v) (h1 : EncAt w1 B g (bitE (t.at_ n) b t.e) v') (hm : Moved g w v w1 v')
    (h2 : ChAt w2 gh (t.p.set n (mvI (t.p.getD n 0) (bI b) sh)) sh) (hm2 : Mine (· = gh) w1 w2) : PutAt w2 B g gh (stepT sh n b t) sh v' ∧ (∀ k, footP g gh v' k → footP g gh v k ∨ w.heap.size ≤ k) ∧ Mine (footP g gh v) w w2 := by
  have hf := foot_moved hm
  have hap : ¬ foot g v' gh := fun hk => (hf gh hk).elim h.apart (fun h3 => by have := h.ch.lt; omega)
  refine ⟨⟨h1.mine hm2 (fun hg => hap (Or.inl hg.symm)) (fun k hk hg => hap (Or.inr (by rw [← hg]; exact hk))), h2, hap, h.gB, h.hB⟩, ?_, ?_⟩
  · rintro k (hk | hk)
    · exact (hf k hk).imp Or.inl id
    · exact Or.inl (Or.inr hk)
  · exact Mine.then_ (hm.mine.mono (fun k hk => Or.inl hk)) hm2 (fun k hk => Or.inl (Or.inr hk))
theorem mayS_no (sh : Int) (h : mayS sh = false) (w : World) : Calls Try.prog 44 #[.int .i64 sh] w fun e w' => e = .returned (.bool false) ∧ Drawn0 w w' := tree_mayShift.calls sh false w (by rw [mayS_f, h])
attribute [local go_sem ↓] Go.wp_at_zero Go.wp_at_succ
set_option maxHeartbeats 4000000 in
set_option maxRecDepth 100000 in
theorem tput.main (A : Option Addr) (cap : Nat) (l : List Int) (sh : Int) (W : World) (hC : Aside0 ((Kd.int .i64).C W A l.length l)) (hl : l.length ≤ 1000) (hsh : mayS sh = true) :
    Calls Try.prog 14 #[.slice A l.length cap, .int .i64 sh] W fun e w' => e = .returned (.tuple #[.string (putS sh l).1, .int .i64 ((putS sh l).2 : Int)]) ∧ Below W.heap.size W w' := by
  have hu85 := Try.underlying85
  have hu83 := Try.underlying83
  have hu25 := Try.underlying25
  have hmf : ∀ (fn : Fn) (first cap : Array Value) (w : World), (Instr.makeFunc fn first cap).run Try.prog w = .ok (.func fn first cap) w := fun _ _ _ _ => rfl
  obtain ⟨S, er, hS⟩ : ∃ S er, putS sh l = (S, er) := ⟨_, _, rfl⟩
  have HS := Aside0.mk hS
  rw [hS]
  clear hS
  have HSH := Aside0.mk hsh
  have hms := Aside0.mk (mayS_f sh)
  rw [hsh] at hms
  clear hsh
  go_enter Try.func14, Try.ntmps14
  go_wp2_with fail
  refine (tree_mayShift.calls sh true _ hms.out).mono ?_
  rintro r w1 ⟨rfl, hd⟩
  have HB1 := Aside0.mk hd.below
  clear hd
  go_wp2_with fail
  refine (chance_New.calls _).mono ?_
  rintro r w2 ⟨g, v, rfl, hE, hg, hb⟩
  have HB2 := Aside0.mk (below_step HB1.out hb)
  have HE := Aside0.mk hE
  have hgW : Aside0 (W.heap.size ≤ g) := ⟨Nat.le_trans HB1.out.size hg⟩
  clear hE hg hb
  go_wp2_with fail
  refine (made.calls sh w2).mono ?_
  rintro r w3 ⟨rfl, hM, hb⟩
  have HP : Aside0 (PutAt w3 W.heap.size g w2.heap.size TS.new sh v) := ⟨⟨(show EncAt w2 W.heap.size g Enc.new v from ⟨HE.out.blk, own_base HE.out.own HB1.out.size, HE.out.far⟩).below hb, hM, fun hk => by have := HE.out.lt2 _ hk; omega, hgW.out, HB2.out.size⟩⟩
  have HB3 := Aside0.mk (below_step HB2.out hb)
  clear hM hb HE
  obtain ⟨gh, hgh⟩ : ∃ gh, w2.heap.size = gh := ⟨_, rfl⟩
  rw [hgh] at HP ⊢
  clear hgh HB1 HB2
  go_wp2_with fail
  obtain ⟨len, hlen⟩ : ∃ len, l.length = len := ⟨_, rfl⟩
  rw [hlen] at hC hl ⊢
  have HLEN := Aside0.mk hlen
  clear hlen
  go_loopg [25] (len + 1) (fun kq v25 w' => ∃ (i : Nat) (v : Value), v25 = .int .i64 (i : Int) ∧ Aside0 (kq = len - i + 1) ∧ Aside0 (i ≤ len) ∧ Aside0 (∀ (j : Nat) (c : Int), j < i → l[j]? = some c → isC c = true) ∧ Aside0 (PutAt w' W.heap.size g gh (putL sh (l.take i) TS.new) sh v) ∧ Aside0 (Below W.heap.size W w'))
  case atStart => exact ⟨0, v, rfl, ⟨rfl⟩, ⟨Nat.zero_le _⟩, ⟨fun j c hj => absurd hj (Nat.not_lt_zero j)⟩, HP, HB3⟩
  case round =>
    clear HP HB3
    obtain ⟨i, v, rfl, hk, hi, hall, HP, HB⟩ := hrel
    cases gk with
    | zero => exact absurd hk.out (by omega)
    | succ k1 =>
      have hi2 := hi.out
      by_cases hil : i < len
      · have hil1 : decide ((i : Int) < (len : Int)) = true := decide_eq_true (by omega)
        have hil2 := eq_true (show (i : Int) < (len : Int) by omega)
        have hi0 := eq_true (show (0 : Int) ≤ (i : Int) by omega)
        obtain ⟨ad, rfl, hcA⟩ := Kd.at_int hC.out (i : Int) (by omega) (by omega)
        obtain ⟨c, hlc⟩ : ∃ c, l[i]? = some c := ⟨l[i]'(by rw [HLEN.out]; exact hil), List.getElem?_eq_getElem _⟩
        have hrd : rd l (i : Int) = c := by unfold rd; rw [Int.toNat_natCast, List.getD_eq_getElem?_getD, hlc]; rfl
        rw [hrd, Int.toNat_natCast] at hcA
        have hcA2 : wr.cell? (ad.add i) = some (.int .i64 c) := by rw [HB.out.cell (World.block_lt_of_cell? _ _ hcA)]; exact hcA
        have HLC := Aside0.mk hlc
        clear hlc hrd hcA
        cases hcc : isC c
        · have hisf := Aside0.mk (isC_f c)
          rw [hcc] at hisf
          have HCC := Aside0.mk hcc
          clear hcc
          go_wp2_with fail
          refine (tree_isClass.calls c false _ hisf.out).mono ?_
          rintro r w5 ⟨rfl, hd⟩
          have HB5 := Aside0.mk (below_step HB.out hd.below)
          clear hd
          go_wp2
          go_ret2
          have hs := HS.out
          rw [putS_no sh l i c HLC.out HCC.out] at hs
          injection hs with h1 h2
          subst h1 h2
          exact ⟨rfl, HB5.out⟩
        · have hisf := Aside0.mk (isC_f c)
          rw [hcc] at hisf
          obtain ⟨m, rfl, hm65⟩ := isC_nat hcc
          have HCC := Aside0.mk hcc
          clear hcc
          go_wp2_with fail
          refine (tree_isClass.calls _ true _ hisf.out).mono ?_
          rintro r w5 ⟨rfl, hd⟩
          have HB5 := Aside0.mk (below_step HB.out hd.below)
          have HP5 := Aside0.mk (HP.out.below hd.below)
          clear hd hcA2
          go_wp2_with fail
          refine (tree_Nodes.calls 30 _ _ _ w5 (nodes_ok m hm65).1).mono ?_
          rintro r w6 ⟨v0, v1, rfl, hR0, hR1, hb⟩
          obtain ⟨b0, C0, rfl, ho0, hb0, hb0l, hne0⟩ := row_of_R hR0 (by rw [nodesI_length]; decide)
          obtain ⟨b1, C1, rfl, ho1, hb1, hb1l, hne1⟩ := row_of_R hR1 (by rw [bitsI_length]; decide)
          rw [nodesI_length] at ho0
          rw [bitsI_length] at ho1
          have HN6 := Aside0.mk ho0
          have HT6 := Aside0.mk ho1
          have HP6 := Aside0.mk (HP5.out.below hb)
          have HB6 := Aside0.mk (below_step HB5.out hb)
          have hfar : Aside0 (∀ k, footP g gh v k → k ≠ b0 ∧ k ≠ b1) := ⟨fun k hk => by have := HP5.out.lt k hk; omega⟩
          have hbW : Aside0 (b0 < w6.heap.size ∧ b1 < w6.heap.size) := ⟨hb0l, hb1l⟩
          clear ho0 ho1 hR0 hR1 hb hb0 hb1 hb0l hb1l hne0 hne1 HP HB HP5 HB5
          simp only [nodesI_length, bitsI_length]
          go_wp2_with fail
          have hokt := Aside0.mk (putL_ok sh (l.take i) TS.new_ok)
          have hLt := Aside0.mk (putL_L sh (l.take i) TS.new)
          have hnx := Aside0.mk (putL_next sh l i (m : Int) TS.new HLC.out)
          have hLt2 : Aside0 ((putL sh (l.take i) TS.new).e.L ≤ 30000) := ⟨by have h1 := hLt.out; rw [List.length_take, HLEN.out] at h1; have : TS.new.e.L = 1 := rfl; omega⟩
          clear hLt
          obtain ⟨t, ht⟩ : ∃ t, putL sh (l.take i) TS.new = t := ⟨_, rfl⟩
          rw [ht] at HP6 hokt hLt2 hnx
          rw [Int.toNat_natCast] at hnx
          clear ht
          go_loopg [39] 8 (fun kq v39 w' => ∃ (j : Nat) (v : Value), v39 = .int .i64 (j : Int) ∧ Aside0 (kq = 7 - j + 1) ∧ Aside0 (j ≤ 7) ∧ Aside0 (PutAt w' W.heap.size g gh (putN sh m j t) sh v) ∧ Aside0 (w'.ownsRow w5.heap.size 3 1 (.slice (some ⟨b0, 0, none⟩) 7 C0) 7 (i64s (nodesI m))) ∧ Aside0 (w'.ownsRow w5.heap.size 3 1 (.slice (some ⟨b1, 0, none⟩) 7 C1) 7 (i64s (bitsI m))) ∧ Aside0 (∀ k, footP g gh v k → k ≠ b0 ∧ k ≠ b1) ∧ Aside0 (Below W.heap.size W w'))
          case atStart => exact ⟨0, v, rfl, ⟨rfl⟩, ⟨Nat.zero_le _⟩, HP6, HN6, HT6, hfar, HB6⟩
          case round =>
            clear HP6 HN6 HT6 hfar HB6
            obtain ⟨j, v, rfl, hkj, hj, HP, HN, HT, hfar, HB⟩ := hrel
            cases gk with
            | zero => exact absurd hkj.out (by omega)
            | succ k2 =>
              have hj2 := hj.out
              by_cases hjl : j < 7
              · have hjl1 : decide ((j : Int) < 7) = true := decide_eq_true (by omega)
                have hjl2 := eq_true (show (j : Int) < 7 by omega)
                have hj0 := eq_true (show (0 : Int) ≤ (j : Int) by omega)
                have hcN := (row_cell HN.out j _ (i64s_get _ j _ (nodesI_get m j hjl))).1
                have hcT := (row_cell HT.out j _ (i64s_get _ j _ (bitsI_get m j hjl))).1
                have hn128 := nodeN_lt m j hm65 hjl
                have hcC := (HP.out.ch.cell (nodeN m j) hn128).1
                have hok2 := Aside0.mk (putN_ok sh m j hokt.out)
                have hL2 : Aside0 ((putN sh m j t).e.L ≤ 31000) := ⟨by have h1 := putN_L sh m j t; have := hLt2.out; omega⟩
                have hnj : Aside0 (putN sh m (j + 1) t = stepT sh (nodeN m j) (nbit m j) (putN sh m j t)) := ⟨rfl⟩
                obtain ⟨u, hu⟩ : ∃ u, putN sh m j t = u := ⟨_, rfl⟩
                rw [hu] at HP hok2 hL2 hnj hcC
                obtain ⟨n, hn⟩ : ∃ n, nodeN m j = n := ⟨_, rfl⟩
                rw [hn] at hcN hn128 hcC hnj
                obtain ⟨b, hb⟩ : ∃ b, nbit m j = b := ⟨_, rfl⟩
                rw [hb] at hcT hnj
                have HBN : Aside0 (nbit m j = b) := ⟨hb⟩
                have hn0 := eq_true (show (0 : Int) ≤ (n : Int) by omega)
                have hn1 := eq_true (show (n : Int) < 128 by omega)
                have HPd : Aside0 (PutAt wr.drew W.heap.size g gh u sh v) := ⟨HP.out.below (below_drew (Below.refl _ _))⟩
                have HBd : Aside0 (Below W.heap.size W wr.drew) := ⟨below_drew HB.out⟩
                clear hu hn hb
                go_wp2_with fail
                go_region_with (first | (go_at_call 26; refine (enc_Bit.calls u.e v W.heap.size g (u.p.getD n 0) (bI b) b (bI_ne b) wr.drew ⟨HPd.out.enc⟩ ⟨hok2.out.2⟩ ⟨by have := hL2.out; omega⟩ ⟨HBd.out.size⟩).mono ?_; rintro r w7 ⟨rfl, v', hE7, hm7⟩))
                all_goals
                  have HE7 := Aside0.mk hE7
                  have HM7 := Aside0.mk hm7
                  have HC7 : Aside0 (ChAt w7 gh u.p sh) := ⟨HPd.out.ch.mine hm7.mine HPd.out.apart⟩
                  have HN7 : Aside0 (w7.ownsRow w5.heap.size 3 1 (.slice (some ⟨b0, 0, none⟩) 7 C0) 7 (i64s (nodesI m))) := ⟨own_mine (own_frame (w' := wr.drew) HN.out (fun _ _ => rfl)) hm7.mine (fun k hk hf => (hfar.out k (Or.inl hf)).1 (own_eq hk).symm)⟩
                  have HT7 : Aside0 (w7.ownsRow w5.heap.size 3 1 (.slice (some ⟨b1, 0, none⟩) 7 C1) 7 (i64s (bitsI m))) := ⟨own_mine (own_frame (w' := wr.drew) HT.out (fun _ _ => rfl)) hm7.mine (fun k hk hf => (hfar.out k (Or.inl hf)).2 (own_eq hk).symm)⟩
                  have HB7 : Aside0 (Below W.heap.size W w7) := ⟨hm7.to_below HBd.out HBd.out.size HPd.out.gB HPd.out.enc.ge⟩
                  clear hE7 hm7 hcN hcT hcC
                  have hcT : w7.cell? ⟨b1, j, none⟩ = some (.int .i64 (bI b)) := by
                    have h := (row_cell HT7.out j _ (i64s_get _ j _ (bitsI_get m j hjl))).1
                    rw [HBN.out] at h
                    exact h
                  go_wp2_with fail
                  refine (move.calls u.p sh (bI b) n gh w7 HC7 hn128).mono ?_
                  rintro r w8 ⟨rfl, hC8, hm8⟩
                  obtain ⟨hP8, hf8, hM8⟩ := HPd.out.step HE7.out HM7.out hC8 hm8
                  rw [← hnj.out] at hP8
                  have HP8 := Aside0.mk hP8
                  have hfar8 : Aside0 (∀ k, footP g gh v' k → k ≠ b0 ∧ k ≠ b1) := ⟨fun k hk => (hf8 k hk).elim (hfar.out k) (fun h => by
                    have h0 := (HN.out.lt b0 rfl).2
                    have h1 := (HT.out.lt b1 rfl).2
                    have h2 : wr.heap.size ≤ k := h
                    omega)⟩
                  have HN8 : Aside0 (w8.ownsRow w5.heap.size 3 1 (.slice (some ⟨b0, 0, none⟩) 7 C0) 7 (i64s (nodesI m))) := ⟨own_mine HN7.out hm8 (fun k hk (hf : k = gh) => (hfar.out k (Or.inr hf)).1 (own_eq hk).symm)⟩
                  have HT8 : Aside0 (w8.ownsRow w5.heap.size 3 1 (.slice (some ⟨b1, 0, none⟩) 7 C1) 7 (i64s (bitsI m))) := ⟨own_mine HT7.out hm8 (fun k hk (hf : k = gh) => (hfar.out k (Or.inr hf)).2 (own_eq hk).symm)⟩
                  have HB8 : Aside0 (Below W.heap.size W w8) := ⟨Mine.to_below hM8 HBd.out HBd.out.size HPd.out.up⟩
                  clear hC8 hm8 hP8 hf8 hM8 hcT
                  go_wp2_with fail
                  go_roundg k2
                  case measure => have := hkj.out; omega
                  case rel => exact ⟨j + 1, v', by first | rfl | exact wrap_one j (by omega), ⟨by have := hkj.out; omega⟩, ⟨hjl⟩, HP8, HN8, HT8, hfar8, HB8⟩
              · have hjl1 : decide ((j : Int) < 7) = false := decide_eq_false (by omega)
                obtain rfl : j = 7 := by omega
                go_wp2_with fail
                go_roundg k1
                case measure => have := hk.out; omega
                case rel =>
                  refine ⟨i + 1, v, by first | rfl | exact wrap_one i (by omega), ⟨by have := hk.out; omega⟩, ⟨hil⟩, ⟨?_⟩, ⟨by rw [hnx.out]; exact HP.out⟩, HB⟩
                  intro j c hjc hjl
                  by_cases hji : j = i
                  · subst hji
                    rw [HLC.out] at hjl
                    injection hjl with hjl
                    rw [← hjl]
                    exact HCC.out
                  · exact hall.out j c (by omega) hjl
      · have hil1 : decide ((i : Int) < (len : Int)) = false := decide_eq_false (by omega)
        have htl : l.take i = l := List.take_of_length_le (by rw [HLEN.out]; omega)
        rw [htl] at HP
        have hs := HS.out
        rw [putS_ok sh l HSH.out (fun j c h => hall.out j c (by have h2 := (List.getElem?_eq_some_iff.1 h).1; rw [HLEN.out] at h2; omega) h)] at hs
        injection hs with h1 h2
        subst h1 h2
        have hLf := putL_L sh l TS.new
        have hokf := putL_ok sh l TS.new_ok
        rw [HLEN.out] at hLf
        have hL1 : Aside0 (1 ≤ (putL sh l TS.new).e.L ∧ (putL sh l TS.new).e.L ≤ 1000000000) := ⟨hokf.2.1, by have : TS.new.e.L = 1 := rfl; omega⟩
        clear hLf hokf htl
        obtain ⟨F, hF⟩ : ∃ F, (putL sh l TS.new).e = F := ⟨_, rfl⟩
        rw [hF] at hL1
        have HF := Aside0.mk hF
        have HEF : Aside0 (EncAt wr W.heap.size g F v) := ⟨by rw [← hF]; exact HP.out.enc⟩
        clear hF HP
        go_wp2_with fail
        refine (enc_Bytes.calls F v _ g wr HEF hL1).mono ?_
        rintro r w9 ⟨rfl, hb⟩
        have HB9 := Aside0.mk (below_step HB.out hb)
        clear hb
        go_wp2
        go_ret2
        exact ⟨by rw [HF.out]; rfl, HB9.out⟩
set_option maxHeartbeats 4000000 in
set_option maxRecDepth 100000 in
theorem tput.out (A : Option Addr) (cap : Nat) (l : List Int) (sh : Int) (W : World) (hsh : mayS sh = false) :
    Calls Try.prog 14 #[.slice A l.length cap, .int .i64 sh] W fun e w' => e = .returned (.tuple #[.string (putS sh l).1, .int .i64 ((putS sh l).2 : Int)]) ∧ Below W.heap.size W w' := by
  have hms := Aside0.mk (mayS_f sh)
  rw [hsh] at hms
  rw [putS_sh sh l hsh]
  clear hsh
  go_enter Try.func14, Try.ntmps14
  go_wp2_with fail
  refine (tree_mayShift.calls sh false _ hms.out).mono ?_
  rintro r w1 ⟨rfl, hd⟩
  have HB1 := Aside0.mk hd.below
  clear hd
  go_wp2
  go_ret2
  exact ⟨rfl, HB1.out⟩
/-- Put, as a Lean function: of lists that are not too long. -/
def tree_Put.f (l : List Int) (sh : Int) : Option (ByteArray × Int) := if l.length ≤ 1000 then some ((putS sh l).1, ((putS sh l).2 : Int)) else none
theorem tree_Put.calls (A0 : Option Addr) (c0 : Nat) (l0 : List Int) (a1 : Int) (r1 : ByteArray) (r2 : Int) (w : World) (hr0 : Kd.C (Kd.int .i64) w A0 l0.length l0) (hc0 : l0.length ≤ c0) (h : tree_Put.f l0 a1 = some (r1, r2)) :
    Calls Try.prog 14 #[.slice A0 l0.length c0, .int .i64 a1] w fun e w' => e = .returned (.tuple #[.string r1, .int .i64 r2]) ∧ Below w.heap.size w w' := by
  unfold tree_Put.f at h
  by_cases hl : l0.length ≤ 1000
  · rw [if_pos hl] at h
    injection h with h
    injection h with h1 h2
    subst h1 h2
    cases hs : mayS a1
    · exact tput.out A0 c0 l0 a1 w hs
    · exact tput.main A0 c0 l0 a1 w ⟨hr0⟩ hl hs
  · rw [if_neg hl] at h
    cases h
end Go.Proofs.Ytgldblakdhalkaa
/- What the reference's PutTree comes to. Conditions: as the contract states. -/
namespace Go.Proofs.Ytgldblakdhalkaa
set_option linter.unusedVariables false
open Go.RowKit Go.Proofs.YtgldblakdhalkaaW.PrintWords Go.Proofs.YtgldblakdhalkaaW.PrintLast Go.Proofs.YtgldblakdhalkaaW.PrintMore Go.Proofs.Ytgldblakdhalkaa.PBase
/-- The reference's chances: a row of its own. -/
def HalfAt (w : World) (B g C : Nat) (p : List Int) : Prop := w.ownsRow B 3 1 (.slice (some ⟨g, 0, none⟩) 128 C) 128 (i64s p) ∧ p.length = 128
theorem HalfAt.cell {w : World} {B g C : Nat} {p : List Int} (h : HalfAt w B g C p) (n : Nat) (hn : n < 128) : w.cell? ⟨g, n, none⟩ = some (.int .i64 (p.getD n 0)) ∧ w.frozen? ⟨g, n, none⟩ = false :=
  row_cell h.1 n _ (i64s_get p n _ (by rw [List.getD_eq_getElem?_getD, List.getElem?_eq_getElem (by rw [h.2]; exact hn)]; rfl))
theorem HalfAt.put {w : World} {B g C : Nat} {p : List Int} (h : HalfAt w B g C p) (n : Nat) (x : Int) : HalfAt (w.setCell ⟨g, n, none⟩ (.int .i64 x)) B g C (p.set n x) :=
  ⟨by
    have h2 := row_put h.1 n (.int .i64 x)
    have e : (i64s p).set n (.int .i64 x) = i64s (p.set n x) := by unfold i64s; rw [List.map_set]
    rw [e] at h2
    exact h2, by rw [List.length_set]; exact h.2⟩
theorem HalfAt.mine {S : Nat → Prop} {w w' : World} {B g C : Nat} {p : List Int} (h : HalfAt w B g C p) (hm : Mine S w w') (hg : ¬ S g) : HalfAt w' B g C p := ⟨own_mine h.1 hm (fun k hk => by rw [← own_eq hk]; exact hg), h.2⟩
theorem HalfAt.below {w w' : World} {B g C : Nat} {p : List Int} (h : HalfAt w B g C p) (hb : Below w.heap.size w w') : HalfAt w' B g C p := h.mine (Mine.of_below (fun _ => False) hb) (fun h => h)
theorem HalfAt.lt {w : World} {B g C : Nat} {p : List Int} (h : HalfAt w B g C p) : g < w.heap.size := (h.1.lt g rfl).2
theorem halves_ok : (wringerref15_halves.f 200 128 == some (List.replicate 128 2048)) = true := by decide +kernel
/-- The reference's coder and the chances, apart. -/
structure PutRAt (w : World) (B g gh C : Nat) (t : TS) (v : Value) : Prop where
  cod : CodAt w B g t.e v
  ch : HalfAt w B gh C t.p
  apart : ¬ foot g v gh
  gB : B ≤ g
  hB : B ≤ gh
theorem PutRAt.up {w : World} {B g gh C : Nat} {t : TS} {v : Value} (h : PutRAt w B g gh C t v) : ∀ k, footP g gh v k → B ≤ k := by
  rintro k ((hk | hk) | hk)
  · rw [hk]; exact h.gB
  · exact h.cod.ge k hk
  · rw [hk]; exact h.hB
theorem PutRAt.lt {w : World} {B g gh C : Nat} {t : TS} {v : Value} (h : PutRAt w B g gh C t v) : ∀ k, footP g gh v k → k < w.heap.size := by
  rintro k (hk | hk)
  · exact h.cod.lt2 k hk
  · rw [hk]; exact h.ch.lt
theorem PutRAt.below {w w' : World} {B g gh C : Nat} {t : TS} {v : Value} (h : PutRAt w B g gh C t v) (hb : Below w.heap.size w w') : PutRAt w' B g gh C t v :=
  ⟨h.cod.below hb, h.ch.below hb, h.apart, h.gB, h.hB⟩
theorem PutRAt.step {w w1 w2 : World} {B g gh C : Nat} {t : TS} {sh : Int} {v v' : Value} {n : Nat} {b : Bool} (h : PutRAt w B g gh C t v) (h1 : CodAt w1 B g (bitE (t.at_ n) b t.e) v') (hm : Moved g w v w1 v')
    (h2 : HalfAt w2 B gh C (t.p.set n (mvI (t.p.getD n 0) (bI b) sh))) (hm2 : Mine (· = gh) w1 w2) : PutRAt w2 B g gh C (stepT sh n b t) v' ∧ (∀ k, footP g gh v' k → footP g gh v k ∨ w.heap.size ≤ k) ∧ Mine (footP g gh v) w w2 := by
  have hf := foot_moved hm
  have hap : ¬ foot g v' gh := fun hk => (hf gh hk).elim h.apart (fun h3 => by have := h.ch.lt; omega)
  refine ⟨⟨h1.mine hm2 (fun hg => hap (Or.inl hg.symm)) (fun k hk hg => hap (Or.inr (by rw [← hg]; exact hk))), h2, hap, h.gB, h.hB⟩, ?_, ?_⟩
  · rintro k (hk | hk)
    · exact (hf k hk).imp Or.inl id
    · exact Or.inl (Or.inr hk)
  · exact Mine.then_ (hm.mine.mono (fun k hk => Or.inl hk)) hm2 (fun k hk => Or.inl (Or.inr hk))
def textV (s : ByteArray) (er : Int) : Value := .agg #[.string s, .int .i64 er]
theorem mayS_true {sh : Int} (h : mayS sh = true) : 4 ≤ sh ∧ sh ≤ 7 := by
  unfold mayS at h
  rw [Bool.and_eq_true] at h
  exact ⟨of_decide_eq_true h.1, of_decide_eq_true h.2⟩
theorem below_of_set2 {w wr : World} {gr : Nat} {a b : Value} (h : Below w.heap.size w wr) (hg : w.heap.size = gr) : Below w.heap.size w ((wr.setCell ⟨gr, 0, none⟩ a).setCell ⟨gr, 1, none⟩ b) :=
  Mine.to_below (w := wr) (S := (· = gr)) (Mine.set (Mine.set (Mine.refl (· = gr) _) (Or.inl rfl) _) (Or.inl rfl) _) h h.size (fun k hk => by rw [hk, ← hg]; exact Nat.le_refl _)
set_option maxHeartbeats 2000000 in
set_option maxRecDepth 100000 in
theorem rput.out (A : Option Addr) (cap : Nat) (l : List Int) (sh : Int) (W : World) (hsh : mayS sh = false) :
    Calls Try.prog 40 #[.slice A l.length cap, .int .i64 sh] W fun e w' => e = .returned (textV (putS sh l).1 ((putS sh l).2 : Int)) ∧ Below W.heap.size W w' := by
  have hu71 := Try.underlying71
  rw [putS_sh sh l hsh]
  unfold mayS at hsh
  by_cases h4 : sh < 4
  · have h41 : decide (sh < 4) = true := decide_eq_true h4
    go_enter Try.func40, Try.ntmps40
    go_wp2
    refine bodyPost_ret (results_cell_row rfl _ _ W.heap.size 71 _ (0, 0) _ rfl (by first | exact blk_new _ _ | exact blk_set (blk_set (blk_new _ _) 0 _) 1 _) hu71 rfl rfl) rfl ⟨rfl, ?_⟩
    first | exact below_alloc (Below.refl _ _) _ | exact below_of_set2 (below_alloc (Below.refl _ _) _) rfl
  · have h41 : decide (sh < 4) = false := decide_eq_false h4
    have h7 : 7 < sh := by
      rw [decide_eq_true (by omega), Bool.true_and] at hsh
      have := of_decide_eq_false hsh
      omega
    have h71 : decide (sh > 7) = true := decide_eq_true h7
    have h72 : decide (7 < sh) = true := decide_eq_true h7
    go_enter Try.func40, Try.ntmps40
    go_wp2
    refine bodyPost_ret (results_cell_row rfl _ _ W.heap.size 71 _ (0, 0) _ rfl (by first | exact blk_new _ _ | exact blk_set (blk_set (blk_new _ _) 0 _) 1 _) hu71 rfl rfl) rfl ⟨rfl, ?_⟩
    first | exact below_alloc (Below.refl _ _) _ | exact below_of_set2 (below_alloc (Below.refl _ _) _) rfl
attribute [local go_sem ↓] Go.wp_at_zero Go.wp_at_succ
set_option maxHeartbeats 4000000 in
set_option maxRecDepth 100000 in
theorem rput.main (A : Option Addr) (cap : Nat) (l : List Int) (sh : Int) (W : World) (hC : Aside0 ((Kd.int .i64).C W A l.length l)) (hl : l.length ≤ 1000) (hsh : mayS sh = true) :
    Calls Try.prog 40 #[.slice A l.length cap, .int .i64 sh] W fun e w' => e = .returned (textV (putS sh l).1 ((putS sh l).2 : Int)) ∧ Below W.heap.size W w' := by
  have hu71 := Try.underlying71
  have hu25 := Try.underlying25
  obtain ⟨S, er, hS⟩ : ∃ S er, putS sh l = (S, er) := ⟨_, _, rfl⟩
  have HS := Aside0.mk hS
  rw [hS]
  clear hS
  have HSH := Aside0.mk hsh
  have hshr := mayS_true hsh
  have h41 : decide (sh < 4) = false := decide_eq_false (by omega)
  have h71 : decide (sh > 7) = false := decide_eq_false (by omega)
  have h72 : decide (7 < sh) = false := decide_eq_false (by omega)
  clear hsh hshr
  have HB0 : Aside0 (Below W.heap.size W (W.alloc (.cells #[.string ⟨#[]⟩, .int .i64 0] 71))) := ⟨below_alloc (Below.refl _ _) _⟩
  have NA : (W.alloc (.cells #[.string ⟨#[]⟩, .int .i64 0] 71)).heap[W.heap.size]? = some (.cells #[.string ⟨#[]⟩, .int .i64 0] 71 (0, 0)) := blk_new _ _
  obtain ⟨w1, hw1⟩ : ∃ w1, W.alloc (.cells #[.string ⟨#[]⟩, .int .i64 0] 71) = w1 := ⟨_, rfl⟩
  rw [hw1] at NA HB0
  obtain ⟨gr, hgr⟩ : ∃ gr, W.heap.size = gr := ⟨_, rfl⟩
  rw [hgr] at NA
  have NA1 := Aside0.mk NA
  have HG := Aside0.mk hgr
  clear NA
  go_enter Try.func40, Try.ntmps40
  go_wp2_with fail
  refine (ref_New.calls w1).mono ?_
  rintro r w2 ⟨g, v, rfl, hE, hg, hb⟩
  have HB2 := Aside0.mk (below_step HB0.out hb)
  have HE := Aside0.mk hE
  have NA2 := Aside0.mk (blk_below NA1.out hb)
  have hg1 := Aside0.mk hg
  have hgl : Aside0 (gr < w1.heap.size) := ⟨blk_lt NA1.out⟩
  have hs12 : Aside0 (w1.heap.size ≤ w2.heap.size) := ⟨hb.size⟩
  clear hE hg hb
  go_wp2_with fail
  refine (wringerref15_halves.calls 200 128 _ w2 (eq_of_beq halves_ok)).mono ?_
  rintro r w3 ⟨vh, rfl, hR, hb⟩
  obtain ⟨gh, C, rfl, hoh, hgh, hghl, _⟩ := row_of_R hR (by rw [List.length_replicate]; decide)
  rw [List.length_replicate] at hoh
  have NA3 := Aside0.mk (blk_below NA2.out hb)
  have HP : Aside0 (PutRAt w3 w1.heap.size g gh C TS.new v) := ⟨⟨HE.out.below hb, ⟨own_base hoh hs12.out, List.length_replicate⟩, fun hk => by have := HE.out.lt2 _ hk; omega, hg1.out, Nat.le_trans hs12.out hgh⟩⟩
  have HB3 := Aside0.mk (below_step HB2.out hb)
  simp only [List.length_replicate]
  clear hR hb HE hoh hgh hghl HB2 NA1 NA2
  have hW1 : Aside0 (W.heap.size ≤ w1.heap.size) := ⟨HB0.out.size⟩
  clear HB0
  go_wp2_with fail
  obtain ⟨len, hlen⟩ : ∃ len, l.length = len := ⟨_, rfl⟩
  rw [hlen] at hC hl ⊢
  have HLEN := Aside0.mk hlen
  clear hlen
  go_loopg [7] (len + 1) (fun kq v7 w' => ∃ (i : Nat) (v : Value), v7 = .int .i64 (i : Int) ∧ Aside0 (kq = len - i + 1) ∧ Aside0 (i ≤ len) ∧ Aside0 (∀ (j : Nat) (c : Int), j < i → l[j]? = some c → isC c = true) ∧ Aside0 (PutRAt w' w1.heap.size g gh C (putL sh (l.take i) TS.new) v) ∧ Aside0 (w'.heap[gr]? = some (.cells #[.string ⟨#[]⟩, .int .i64 0] 71 (0, 0))) ∧ Aside0 (Below W.heap.size W w'))
  case atStart => exact ⟨0, v, rfl, ⟨rfl⟩, ⟨Nat.zero_le _⟩, ⟨fun j c hj => absurd hj (Nat.not_lt_zero j)⟩, HP, NA3, HB3⟩
  case round =>
    clear HP HB3 NA3
    obtain ⟨i, v, rfl, hk, hi, hall, HP, NA, HB⟩ := hrel
    cases gk with
    | zero => exact absurd hk.out (by omega)
    | succ k1 =>
      have hi2 := hi.out
      by_cases hil : i < len
      · have hil1 : decide ((i : Int) < (len : Int)) = true := decide_eq_true (by omega)
        have hil2 := eq_true (show (i : Int) < (len : Int) by omega)
        have hi0 := eq_true (show (0 : Int) ≤ (i : Int) by omega)
        obtain ⟨ad, rfl, hcA⟩ := Kd.at_int hC.out (i : Int) (by omega) (by omega)
        obtain ⟨c, hlc⟩ : ∃ c, l[i]? = some c := ⟨l[i]'(by rw [HLEN.out]; exact hil), List.getElem?_eq_getElem _⟩
        have hrd : rd l (i : Int) = c := by unfold rd; rw [Int.toNat_natCast, List.getD_eq_getElem?_getD, hlc]; rfl
        rw [hrd, Int.toNat_natCast] at hcA
        have hcA2 : wr.cell? (ad.add i) = some (.int .i64 c) := by rw [HB.out.cell (World.block_lt_of_cell? _ _ hcA)]; exact hcA
        have HLC := Aside0.mk hlc
        clear hlc hrd hcA
        cases hcc : isC c
        · have hno := Aside0.mk (nodes_no c hcc).2
          have HCC := Aside0.mk hcc
          clear hcc
          go_wp2_with fail
          refine (wringerref15_Nodes.calls 30 _ _ _ _ hno.out).mono ?_
          rintro r w6 ⟨v0, v1, rfl, hR0, hR1, hb⟩
          obtain ⟨A0, D0, rfl⟩ := Kd.R_slice hR0
          have HB6 := Aside0.mk (below_step HB.out hb)
          have NA6 := Aside0.mk (blk_below NA.out hb)
          clear hR0 hR1 hb
          have hr0 := blk_cell NA6.out 0
          have hr1 := blk_cell NA6.out 1
          have hq0 := blk_frozen NA6.out 0
          have hq1 := blk_frozen NA6.out 1
          simp at hr0 hr1
          simp only [List.length_nil]
          have hs := HS.out
          rw [putS_no sh l i c HLC.out HCC.out] at hs
          injection hs with h1 h2
          subst h1 h2
          go_wp2
          refine bodyPost_ret (results_cell_row rfl _ _ gr 71 _ (0, 0) _ rfl (blk_set (blk_set NA6.out 0 _) 1 _) hu71 rfl rfl) rfl ⟨rfl, ?_⟩
          exact below_of_set2 HB6.out HG.out
        · obtain ⟨m, rfl, hm65⟩ := isC_nat hcc
          have HCC := Aside0.mk hcc
          clear hcc
          go_wp2_with fail
          refine (wringerref15_Nodes.calls 30 _ _ _ _ (nodes_ok m hm65).2).mono ?_
          rintro r w6 ⟨v0, v1, rfl, hR0, hR1, hb⟩
          obtain ⟨b0, C0, rfl, ho0, hb0, hb0l, hne0⟩ := row_of_R hR0 (by rw [nodesI_length]; decide)
          obtain ⟨b1, C1, rfl, ho1, hb1, hb1l, hne1⟩ := row_of_R hR1 (by rw [bitsI_length]; decide)
          rw [nodesI_length] at ho0
          rw [bitsI_length] at ho1
          have HN6 := Aside0.mk ho0
          have HT6 := Aside0.mk ho1
          have HP6 := Aside0.mk (HP.out.below hb)
          have HB6 := Aside0.mk (below_step HB.out hb)
          have NA6 := Aside0.mk (blk_below NA.out hb)
          have hfar : Aside0 (∀ k, footP g gh v k → k ≠ b0 ∧ k ≠ b1) := ⟨fun k hk => by have := HP.out.lt k hk; omega⟩
          have hbW : Aside0 (b0 < w6.heap.size ∧ b1 < w6.heap.size) := ⟨hb0l, hb1l⟩
          clear ho0 ho1 hR0 hR1 hb hb0 hb1 hb0l hb1l hne0 hne1 HP HB NA hcA2
          simp only [nodesI_length, bitsI_length]
          have hokt := Aside0.mk (putL_ok sh (l.take i) TS.new_ok)
          have hLt := Aside0.mk (putL_L sh (l.take i) TS.new)
          have hnx := Aside0.mk (putL_next sh l i (m : Int) TS.new HLC.out)
          have hLt2 : Aside0 ((putL sh (l.take i) TS.new).e.L ≤ 30000) := ⟨by have h1 := hLt.out; rw [List.length_take, HLEN.out] at h1; have : TS.new.e.L = 1 := rfl; omega⟩
          clear hLt
          obtain ⟨t, ht⟩ : ∃ t, putL sh (l.take i) TS.new = t := ⟨_, rfl⟩
          rw [ht] at HP6 hokt hLt2 hnx
          rw [Int.toNat_natCast] at hnx
          clear ht
          obtain ⟨B6, hB6⟩ : ∃ B6, wr.heap.size = B6 := ⟨_, rfl⟩
          rw [hB6] at HN6 HT6
          clear hB6
          go_wp2_with fail
          go_loopg [10] 8 (fun kq v10 w' => ∃ (j : Nat) (v : Value), v10 = .int .i64 (j : Int) ∧ Aside0 (kq = 7 - j + 1) ∧ Aside0 (j ≤ 7) ∧ Aside0 (PutRAt w' w1.heap.size g gh C (putN sh m j t) v) ∧ Aside0 (w'.ownsRow B6 3 1 (.slice (some ⟨b0, 0, none⟩) 7 C0) 7 (i64s (nodesI m))) ∧ Aside0 (w'.ownsRow B6 3 1 (.slice (some ⟨b1, 0, none⟩) 7 C1) 7 (i64s (bitsI m))) ∧ Aside0 (∀ k, footP g gh v k → k ≠ b0 ∧ k ≠ b1) ∧ Aside0 (w'.heap[gr]? = some (.cells #[.string ⟨#[]⟩, .int .i64 0] 71 (0, 0))) ∧ Aside0 (Below W.heap.size W w'))
          case atStart => exact ⟨0, v, rfl, ⟨rfl⟩, ⟨Nat.zero_le _⟩, HP6, HN6, HT6, hfar, NA6, HB6⟩
          case round =>
            clear HP6 HN6 HT6 hfar HB6 NA6
            obtain ⟨j, v, rfl, hkj, hj, HP, HN, HT, hfar, NA, HB⟩ := hrel
            cases gk with
            | zero => exact absurd hkj.out (by omega)
            | succ k2 =>
              have hj2 := hj.out
              by_cases hjl : j < 7
              · have hjl1 : decide ((j : Int) < 7) = true := decide_eq_true (by omega)
                have hjl2 := eq_true (show (j : Int) < 7 by omega)
                have hj0 := eq_true (show (0 : Int) ≤ (j : Int) by omega)
                have hcN := (row_cell HN.out j _ (i64s_get _ j _ (nodesI_get m j hjl))).1
                have hcT := (row_cell HT.out j _ (i64s_get _ j _ (bitsI_get m j hjl))).1
                have hn128 := nodeN_lt m j hm65 hjl
                have hcC := (HP.out.ch.cell (nodeN m j) hn128).1
                have hok2 := Aside0.mk (putN_ok sh m j hokt.out)
                have hL2 : Aside0 ((putN sh m j t).e.L ≤ 31000) := ⟨by have h1 := putN_L sh m j t; have := hLt2.out; omega⟩
                have hnj : Aside0 (putN sh m (j + 1) t = stepT sh (nodeN m j) (nbit m j) (putN sh m j t)) := ⟨rfl⟩
                obtain ⟨u, hu⟩ : ∃ u, putN sh m j t = u := ⟨_, rfl⟩
                rw [hu] at HP hok2 hL2 hnj hcC
                obtain ⟨n, hn⟩ : ∃ n, nodeN m j = n := ⟨_, rfl⟩
                rw [hn] at hcN hn128 hcC hnj
                obtain ⟨b, hb⟩ : ∃ b, nbit m j = b := ⟨_, rfl⟩
                rw [hb] at hcT hnj
                have HBN : Aside0 (nbit m j = b) := ⟨hb⟩
                have HNN : Aside0 (nodeN m j = n) := ⟨hn⟩
                have hn0 := eq_true (show (0 : Int) ≤ (n : Int) by omega)
                have hn1 := eq_true (show (n : Int) < 128 by omega)
                have HPd : Aside0 (PutRAt wr.drew w1.heap.size g gh C u v) := ⟨HP.out.below (below_drew (Below.refl _ _))⟩
                have HBd : Aside0 (Below W.heap.size W wr.drew) := ⟨below_drew HB.out⟩
                obtain ⟨x, hx⟩ : ∃ x, u.p.getD n 0 = x := ⟨_, rfl⟩
                rw [hx] at hcC
                have HX := Aside0.mk hx
                clear hu hn hb hx
                go_wp2_with fail
                go_still_tail 12, (by kernel_rfl)
                change wpList _ _ _ _ _ wr.drew
                go_wp2_with fail
                refine (ref_Bit.calls u.e v w1.heap.size g x (bI b) b (bI_ne b) wr.drew ⟨HPd.out.cod⟩ ⟨hok2.out.2⟩ ⟨by have := hL2.out; omega⟩ ⟨by have := HPd.out.gB; have := HPd.out.cod.lt2 g (Or.inl rfl); omega⟩).mono ?_
                rintro r w7 ⟨rfl, v', hE7, hm7⟩
                have HE7 := Aside0.mk hE7
                have HM7 := Aside0.mk hm7
                have HC7 : Aside0 (HalfAt w7 w1.heap.size gh C u.p) := ⟨HPd.out.ch.mine hm7.mine HPd.out.apart⟩
                have HN7 : Aside0 (w7.ownsRow B6 3 1 (.slice (some ⟨b0, 0, none⟩) 7 C0) 7 (i64s (nodesI m))) := ⟨own_mine (own_frame (w' := wr.drew) HN.out (fun _ _ => rfl)) hm7.mine (fun k hk hf => (hfar.out k (Or.inl hf)).1 (own_eq hk).symm)⟩
                have HT7 : Aside0 (w7.ownsRow B6 3 1 (.slice (some ⟨b1, 0, none⟩) 7 C1) 7 (i64s (bitsI m))) := ⟨own_mine (own_frame (w' := wr.drew) HT.out (fun _ _ => rfl)) hm7.mine (fun k hk hf => (hfar.out k (Or.inl hf)).2 (own_eq hk).symm)⟩
                have HB7 : Aside0 (Below W.heap.size W w7) := ⟨hm7.to_below HBd.out HBd.out.size (Nat.le_trans hW1.out HPd.out.gB) (fun k hk => Nat.le_trans hW1.out (HPd.out.cod.ge k hk))⟩
                clear hE7 hm7 hcN hcT hcC
                have hcN : w7.cell? ⟨b0, j, none⟩ = some (.int .i64 (n : Int)) := by
                  have h := (row_cell HN7.out j _ (i64s_get _ j _ (nodesI_get m j hjl))).1
                  rw [HNN.out] at h
                  exact h
                have hcT : w7.cell? ⟨b1, j, none⟩ = some (.int .i64 (bI b)) := by
                  have h := (row_cell HT7.out j _ (i64s_get _ j _ (bitsI_get m j hjl))).1
                  rw [HBN.out] at h
                  exact h
                have hcC : w7.cell? ⟨gh, n, none⟩ = some (.int .i64 x) := by
                  have h := (HC7.out.cell n hn128).1
                  rw [HX.out] at h
                  exact h
                have hfC := (HC7.out.cell n hn128).2
                have hmv := Aside0.mk (rmove_f x (bI b) sh)
                obtain ⟨y, hy⟩ : ∃ y, mvI x (bI b) sh = y := ⟨_, rfl⟩
                rw [hy] at hmv
                have HY := Aside0.mk hy
                clear hy
                go_wp2_with fail
                go_still_tail 19, (by kernel_rfl)
                still_call (wringerref15_Move.same _ _ _ _ _ hmv.out)
                repeat still_step
                refine wpStill_nil ?_
                change wpList _ _ _ _ _ w7.drew
                have hcC : w7.drew.cell? ⟨gh, n, none⟩ = some (.int .i64 x) := by
                  have h := (HC7.out.cell n hn128).1
                  rw [HX.out] at h
                  exact h
                have hfC : w7.drew.frozen? ⟨gh, n, none⟩ = false := (HC7.out.cell n hn128).2
                go_wp2_with fail
                have hC8 : HalfAt (w7.setCell ⟨gh, n, none⟩ (.int .i64 y)).drew w1.heap.size gh C (u.p.set n (mvI (u.p.getD n 0) (bI b) sh)) := by
                  rw [HX.out, HY.out]
                  exact ⟨own_frame (HC7.out.put n y).1 (fun _ _ => rfl), (HC7.out.put n y).2⟩
                have hm8 : Mine (· = gh) w7 (w7.setCell ⟨gh, n, none⟩ (.int .i64 y)).drew := Mine.drew (Mine.set (S := (· = gh)) (Mine.refl _ _) (Or.inl rfl) _)
                obtain ⟨hP8, hf8, hM8⟩ := HPd.out.step (by have h := HE7.out; rw [← HX.out] at h; exact h) HM7.out hC8 hm8
                rw [← hnj.out] at hP8
                have HP8 := Aside0.mk hP8
                have hfar8 : Aside0 (∀ k, footP g gh v' k → k ≠ b0 ∧ k ≠ b1) := ⟨fun k hk => (hf8 k hk).elim (hfar.out k) (fun h => by
                  have h0 := (HN.out.lt b0 rfl).2
                  have h1 := (HT.out.lt b1 rfl).2
                  have h2 : wr.heap.size ≤ k := h
                  omega)⟩
                have HN8 : Aside0 ((w7.setCell ⟨gh, n, none⟩ (.int .i64 y)).drew.ownsRow B6 3 1 (.slice (some ⟨b0, 0, none⟩) 7 C0) 7 (i64s (nodesI m))) := ⟨own_mine HN7.out hm8 (fun k hk (hf : k = gh) => (hfar.out k (Or.inr hf)).1 (own_eq hk).symm)⟩
                have HT8 : Aside0 ((w7.setCell ⟨gh, n, none⟩ (.int .i64 y)).drew.ownsRow B6 3 1 (.slice (some ⟨b1, 0, none⟩) 7 C1) 7 (i64s (bitsI m))) := ⟨own_mine HT7.out hm8 (fun k hk (hf : k = gh) => (hfar.out k (Or.inr hf)).2 (own_eq hk).symm)⟩
                have HB8 : Aside0 (Below W.heap.size W (w7.setCell ⟨gh, n, none⟩ (.int .i64 y)).drew) := ⟨Mine.to_below hM8 HBd.out HBd.out.size (fun k hk => Nat.le_trans hW1.out (HPd.out.up k hk))⟩
                have NA8 : Aside0 ((w7.setCell ⟨gh, n, none⟩ (.int .i64 y)).drew.heap[gr]? = some (.cells #[.string ⟨#[]⟩, .int .i64 0] 71 (0, 0))) := ⟨blk_mine (show wr.drew.heap[gr]? = _ from NA.out) hM8 (fun hf => by have := HPd.out.up gr hf; have := hgl.out; omega)⟩
                go_roundg k2
                case measure => have := hkj.out; omega
                case rel => exact ⟨j + 1, v', by first | rfl | exact wrap_one j (by omega), ⟨by have := hkj.out; omega⟩, ⟨hjl⟩, HP8, HN8, HT8, hfar8, NA8, HB8⟩
              · have hjl1 : decide ((j : Int) < 7) = false := decide_eq_false (by omega)
                obtain rfl : j = 7 := by omega
                go_wp2_with fail
                go_roundg k1
                case measure => have := hk.out; omega
                case rel =>
                  refine ⟨i + 1, v, by first | rfl | exact wrap_one i (by omega), ⟨by have := hk.out; omega⟩, ⟨hil⟩, ⟨?_⟩, ⟨by rw [hnx.out]; exact HP.out⟩, NA, HB⟩
                  intro j c hjc hjl
                  by_cases hji : j = i
                  · subst hji
                    rw [HLC.out] at hjl
                    injection hjl with hjl
                    rw [← hjl]
                    exact HCC.out
                  · exact hall.out j c (by omega) hjl
      · have hil1 : decide ((i : Int) < (len : Int)) = false := decide_eq_false (by omega)
        have htl : l.take i = l := List.take_of_length_le (by rw [HLEN.out]; omega)
        rw [htl] at HP
        have hs := HS.out
        rw [putS_ok sh l HSH.out (fun j c h => hall.out j c (by have h2 := (List.getElem?_eq_some_iff.1 h).1; rw [HLEN.out] at h2; omega) h)] at hs
        injection hs with h1 h2
        subst h1 h2
        obtain ⟨F, hF⟩ : ∃ F, (putL sh l TS.new).e = F := ⟨_, rfl⟩
        have HF := Aside0.mk hF
        have HEF : Aside0 (CodAt wr w1.heap.size g F v) := ⟨by rw [← hF]; exact HP.out.cod⟩
        clear hF HP htl
        obtain ⟨bs, hbs⟩ : ∃ bs, bytesE F = bs := ⟨_, rfl⟩
        have HBS := Aside0.mk hbs
        have hq0 := blk_frozen NA.out 0
        have hq1 := blk_frozen NA.out 1
        have hr0 := blk_cell NA.out 0
        have hr1 := blk_cell NA.out 1
        simp at hr0 hr1
        go_wp2_with fail
        refine (ref_Bytes.same F v _ g wr HEF bs HBS.out).mono ?_
        rintro r w9 ⟨rfl, hw⟩
        have hw := hw.symm
        subst hw
        go_wp2
        refine bodyPost_ret (results_cell_row rfl _ _ gr 71 _ (0, 0) _ rfl (blk_set (blk_set NA.out 0 _) 1 _) hu71 rfl rfl) rfl ⟨?_, ?_⟩
        · rw [HF.out, HBS.out]; rfl
        · exact below_of_set2 HB.out HG.out
/-- The reference's PutTree, as a Lean function: of lists that are not too long. -/
def wringerref15_PutTree.f (l : List Int) (sh : Int) : Option (ByteArray × Int) := if l.length ≤ 1000 then some ((putS sh l).1, ((putS sh l).2 : Int)) else none
theorem wringerref15_PutTree.calls (A0 : Option Addr) (c0 : Nat) (l0 : List Int) (a1 : Int) (r1 : ByteArray) (r2 : Int) (w : World) (hr0 : Kd.C (Kd.int .i64) w A0 l0.length l0) (hc0 : l0.length ≤ c0) (h : wringerref15_PutTree.f l0 a1 = some (r1, r2)) :
    Calls Try.prog 40 #[.slice A0 l0.length c0, .int .i64 a1] w fun e w' => e = .returned (.agg #[.string r1, .int .i64 r2]) ∧ Below w.heap.size w w' := by
  unfold wringerref15_PutTree.f at h
  by_cases hl : l0.length ≤ 1000
  · rw [if_pos hl] at h
    injection h with h
    injection h with h1 h2
    subst h1 h2
    cases hs : mayS a1
    · exact rput.out A0 c0 l0 a1 w hs
    · exact rput.main A0 c0 l0 a1 w ⟨hr0⟩ hl hs
  · rw [if_neg hl] at h
    cases h
end Go.Proofs.Ytgldblakdhalkaa
/- What the program's Get of classes comes to. Conditions: as the contract states. -/
namespace Go.Proofs.Ytgldblakdhalkaa
set_option linter.unusedVariables false
open Go.RowKit Go.Proofs.YtgldblakdhalkaaW.PrintWords Go.Proofs.YtgldblakdhalkaaW.PrintLast Go.Proofs.YtgldblakdhalkaaW.PrintMore Go.Proofs.Ytgldblakdhalkaa.PBase
theorem hi3 : Try.prog.info? 3 = some Try.t3 := by kernel_rfl
theorem bI_nat (b : Bool) : (if b = true then (1 : Int) else 0) = (b.toNat : Int) := by cases b <;> rfl
theorem bI_nat2 (b : Bool) : bI b = (b.toNat : Int) := by cases b <;> rfl
theorem toNat_le1 (b : Bool) : b.toNat ≤ 1 := by cases b <;> decide
theorem i64s_snoc (l : List Int) (x : Int) : i64s (l ++ [x]) = i64s l ++ [.int .i64 x] := by unfold i64s; rw [List.map_append]; rfl
/-- The list that was told so far. -/
structure OutAt (w : World) (B g1 g2 : Nat) (l : List Int) (v : Value) : Prop where
  own : w.ownsRow B 3 1 v l.length (i64s l)
  far : ∀ k, v.ownBlock = some k → k ≠ g1 ∧ k ≠ g2
theorem OutAt.nil (w : World) (B g1 g2 : Nat) : OutAt w B g1 g2 [] (.slice none 0 0) := ⟨⟨rfl, .inl ⟨rfl, rfl⟩⟩, fun k hk => by simp [Value.ownBlock] at hk⟩
theorem OutAt.mine {S : Nat → Prop} {w w' : World} {B g1 g2 : Nat} {l : List Int} {v : Value} (h : OutAt w B g1 g2 l v) (hm : Mine S w w') (hS : ∀ k, S k → k = g1 ∨ k = g2) : OutAt w' B g1 g2 l v :=
  ⟨own_mine h.own hm (fun k hk hs => by have := h.far k hk; have := hS k hs; omega), h.far⟩
theorem OutAt.below {w w' : World} {B g1 g2 : Nat} {l : List Int} {v : Value} (h : OutAt w B g1 g2 l v) (hb : Below w.heap.size w w') : OutAt w' B g1 g2 l v := h.mine (Mine.of_below (fun _ => False) hb) (fun _ h => h.elim)
theorem OutAt.toR {w : World} {B g1 g2 : Nat} {l : List Int} {v : Value} (h : OutAt w B g1 g2 l v) : (Kd.int .i64).R 3 w B (fun _ => True) v l := Kd.R_of_own h.own (fun _ _ => trivial)
theorem getS_err {s : ByteArray} {n : Nat} {sh : Int} {er : Nat} {L : List Int} {t : TS} (h : getC s sh n [] TS.new = (er, L, t)) (he : er ≠ 0) : getS s n sh = ([], er) := by
  unfold getS
  rw [h, if_neg he]
theorem getS_end {s : ByteArray} {n : Nat} {sh : Int} {L : List Int} {t : TS} (h : getC s sh n [] TS.new = (0, L, t)) : getS s n sh = if endE s t.e = 0 then (L, 0) else ([], 3) := by
  unfold getS
  rw [h, if_pos rfl]
attribute [local go_sem ↓] Go.wp_at_zero Go.wp_at_succ
set_option maxHeartbeats 4000000 in
set_option maxRecDepth 100000 in
theorem tget.main (s : ByteArray) (n : Nat) (sh : Int) (W : World) (hsz : Aside0 (s.size ≤ 1000000000)) (hn : n ≤ 1000) (hsh : mayS sh = true) :
    Calls Try.prog 15 #[.string s, .int .i64 (n : Int), .int .i64 sh] W fun e w' => ∃ v, e = .returned (.tuple #[v, .int .i64 ((getS s n sh).2 : Int)]) ∧ (Kd.int .i64).R 3 w' W.heap.size (fun _ => True) v (getS s n sh).1 ∧ Below W.heap.size W w' := by
  have hu85 := Try.underlying85
  have hu83 := Try.underlying83
  have hu25 := Try.underlying25
  have hmf : ∀ (fn : Fn) (first cap : Array Value) (w : World), (Instr.makeFunc fn first cap).run Try.prog w = .ok (.func fn first cap) w := fun _ _ _ _ => rfl
  obtain ⟨Lf, ef, hS⟩ : ∃ Lf ef, getS s n sh = (Lf, ef) := ⟨_, _, rfl⟩
  have HS := Aside0.mk hS
  rw [hS]
  clear hS
  have hms := Aside0.mk (mayS_f sh)
  rw [hsh] at hms
  clear hsh
  have hn0 : decide ((n : Int) < 0) = false := decide_eq_false (by omega)
  have hn4 : decide ((n : Int) > 4096) = false := decide_eq_false (by omega)
  have hn5 : decide (4096 < (n : Int)) = false := decide_eq_false (by omega)
  go_enter Try.func15, Try.ntmps15
  go_wp2_with fail
  refine (tree_mayShift.calls sh true _ hms.out).mono ?_
  rintro r w1 ⟨rfl, hd⟩
  have HB1 := Aside0.mk hd.below
  clear hd
  go_wp2_with fail
  refine (chance_From.calls s w1).mono ?_
  rintro r w2 ⟨rfl, hD, hb⟩
  have HD : Aside0 (LiveAt w2 w1.heap.size s Enc.new) := ⟨0, 0, hD, DecIn.start _⟩
  have HB2 := Aside0.mk (below_step HB1.out hb)
  have hgdW : Aside0 (W.heap.size ≤ w1.heap.size) := ⟨HB1.out.size⟩
  obtain ⟨gd, hgd⟩ : ∃ gd, w1.heap.size = gd := ⟨_, rfl⟩
  rw [hgd] at HD hgdW ⊢
  clear hD hb hgd HB1
  go_wp2_with fail
  refine (made.calls sh w2).mono ?_
  rintro r w3 ⟨rfl, hM, hb⟩
  have HD3 := Aside0.mk (HD.out.below hb)
  have HM3 := Aside0.mk hM
  have HB3 := Aside0.mk (below_step HB2.out hb)
  have hghW : Aside0 (W.heap.size ≤ w2.heap.size ∧ gd < w2.heap.size) := ⟨HB2.out.size, dec_blk HD.out⟩
  obtain ⟨gh, hgh⟩ : ∃ gh, w2.heap.size = gh := ⟨_, rfl⟩
  rw [hgh] at HM3 hghW ⊢
  clear hM hb hgh HB2 HD
  go_wp2_with fail
  obtain ⟨erG, LG, tG, hG⟩ : ∃ er L t, getC s sh n [] TS.new = (er, L, t) := ⟨_, _, _, rfl⟩
  have HGC := Aside0.mk hG
  clear hG
  go_loopg [11, 33] (n + 1) (fun kq v11 v33 w' => ∃ (i : Nat) (l : List Int) (t : TS), v33 = .int .i64 (i : Int) ∧ Aside0 (kq = n - i + 1) ∧ Aside0 (i ≤ n ∧ l.length = i) ∧ Aside0 (getC s sh (n - i) l t = (erG, LG, tG)) ∧ Aside0 (LiveAt w' gd s t.e) ∧ Aside0 (ChAt w' gh t.p sh) ∧ Aside0 t.ok ∧ Aside0 (t.e.L ≤ 1 + 28 * i) ∧ Aside0 (OutAt w' W.heap.size gd gh l v11) ∧ Aside0 (Below W.heap.size W w'))
  case atStart => exact ⟨0, [], TS.new, rfl, ⟨rfl⟩, ⟨Nat.zero_le _, rfl⟩, HGC, HD3, HM3, ⟨TS.new_ok⟩, ⟨by decide⟩, ⟨OutAt.nil _ _ _ _⟩, HB3⟩
  case round =>
    clear HD3 HM3 HB3
    obtain ⟨i, l, t, rfl, hk, hi, hgc, HD, HM, hok, hL, HO, HB⟩ := hrel
    cases gk with
    | zero => exact absurd hk.out (by omega)
    | succ k1 =>
      have hi2 := hi.out.1
      by_cases hil : i < n
      · have hil1 : decide ((i : Int) < (n : Int)) = true := decide_eq_true (by omega)
        obtain ⟨q, hq⟩ : ∃ q, n - i = q + 1 := ⟨n - i - 1, by omega⟩
        rw [hq] at hgc
        obtain ⟨er1, m, t1, hB0⟩ : ∃ er m t1, getB s sh 7 1 t = (er, m, t1) := ⟨_, _, _, rfl⟩
        have HGB := Aside0.mk hB0
        have HQ := Aside0.mk hq
        clear hB0 hq
        go_wp2_with fail
        go_loopg [12] 8 (fun kq v12 w' => ∃ (k nd : Nat) (u : TS), v12 = .int .i64 (nd : Int) ∧ Aside0 (kq = k + 1) ∧ Aside0 (k ≤ 7 ∧ 2 ^ (7 - k) ≤ nd ∧ nd < 2 ^ (8 - k)) ∧ Aside0 (getB s sh k nd u = (er1, m, t1)) ∧ Aside0 (LiveAt w' gd s u.e) ∧ Aside0 (ChAt w' gh u.p sh) ∧ Aside0 u.ok ∧ Aside0 (u.e.L ≤ t.e.L + 4 * (7 - k)) ∧ Aside0 (OutAt w' W.heap.size gd gh l u11) ∧ Aside0 (Below W.heap.size W w'))
        case atStart => exact ⟨7, 1, t, rfl, ⟨rfl⟩, ⟨by decide⟩, HGB, HD, HM, hok, ⟨by omega⟩, HO, HB⟩
        case round =>
          clear HD HM HO HB
          obtain ⟨k, nd, u, rfl, hkj, hr, hgb, HD, HM, hou, hLu, HO, HB⟩ := hrel
          cases gk with
          | zero => exact absurd hkj.out (by omega)
          | succ k2 =>
            cases k with
            | zero =>
              have hnd : 128 ≤ nd ∧ nd < 256 := hr.out.2
              have hnd1 : decide ((nd : Int) < 128) = false := decide_eq_false (by omega)
              have hgb2 := hgb.out
              rw [getB_zero] at hgb2
              injection hgb2 with e1 e2
              injection e2 with e2 e3
              subst e1 e2 e3
              have hL2 : Aside0 (u.e.L ≤ 1 + 28 * (i + 1)) := ⟨by have := hLu.out; have := hL.out; omega⟩
              obtain ⟨c, hc⟩ : ∃ c, nd - 128 = c := ⟨_, rfl⟩
              have hcw : (nd : Int) - 128 = (c : Int) := by omega
              have hcI : Aside0 (((nd : Int) - 128) = (c : Int)) := ⟨hcw⟩
              have hisf := Aside0.mk (isC_f (c : Int))
              by_cases h65 : c < 65
              · rw [isC_of h65] at hisf
                have hgn := Aside0.mk (getC_ok s sh q l t nd u HGB.out (by omega))
                rw [hgc.out] at hgn
                go_wp2_with fail
                refine (tree_isClass.calls _ true _ hisf.out).mono ?_
                rintro r w5 ⟨rfl, hd⟩
                have hb5 := hd.below
                have HD5 := Aside0.mk (HD.out.below hb5)
                have HM5 := Aside0.mk (HM.out.below hb5)
                have HO5 := Aside0.mk (HO.out.below hb5)
                have HB5 := Aside0.mk (below_step HB.out hb5)
                clear hb5 hd
                have hb0 : Aside0 (l.length + 1 ≤ maxLen) := ⟨by have := hi.out.2; unfold maxLen; omega⟩
                have hb1 : Aside0 ((l.length + 1) * 8 ≤ 140737488355328) := ⟨by have := hi.out.2; omega⟩
                have hBw : Aside0 (W.heap.size ≤ w5.heap.size) := ⟨HB5.out.size⟩
                go_wp2_with (first | (at_builtin; refine list_one (by rfl) _ _ _ (by rfl) W.heap.size 3 Try.t3 (.int .i64 0) 8 Try.underlying25 hi3 (by rfl) (by rfl) (by rfl) (by rfl) u11 l.length (i64s l) (by rfl) (World.ownsRow.alloc HO5.out.own _) w5.heap.size (.int .i64 (c : Int)) (by rfl) (blk_new _ _) (by rfl) hb0.out hb1.out (by rw [Below_alloc_size]; exact Nat.le_succ_of_le hBw.out) ?_; intro b2 C2 w6 ho2 hg2 hp2))
                have hM6 : Mine (fun k => u11.ownBlock = some k) w5 w6 := Mine.grown (Mine.alloc (Mine.refl _ _) (.cells #[.int .i64 (c : Int)] 3)) hg2 (fun k hk => Or.inl hk)
                have HD6 := Aside0.mk (HD5.out.mine hM6 (fun h => (HO5.out.far _ h).1 rfl))
                have HM6 := Aside0.mk (HM5.out.mine hM6 (fun h => (HO5.out.far _ h).2 rfl))
                have HB6 := Aside0.mk (Mine.to_below hM6 HB5.out HB5.out.size (fun k hk => (HO5.out.own.lt k hk).1))
                have HO6 : Aside0 (OutAt w6 W.heap.size gd gh (l ++ [(c : Int)]) (.slice (some ⟨b2, 0, none⟩) (l.length + 1) C2)) := ⟨⟨by rw [i64s_snoc, List.length_append]; exact ho2, fun k hk => by
                  have hkb := own_eq hk
                  rcases hp2 with h | h
                  · have := HO5.out.far b2 h; omega
                  · rw [Below_alloc_size] at h
                    have h1 := dec_blk HD5.out
                    have h2 := HM5.out.lt
                    omega⟩⟩
                clear hM6 ho2 hg2 hp2
                go_roundg k1
                case measure => have := hk.out; omega
                case rel => exact ⟨i + 1, l ++ [(c : Int)], u, by first | rfl | exact wrap_one i (by omega), ⟨by have := hk.out; omega⟩, ⟨⟨hil, by rw [List.length_append, hi.out.2]; rfl⟩⟩, ⟨by rw [show n - (i + 1) = q by have := HQ.out; omega]; have h := hgn.out; rw [hcI.out] at h; exact h.symm⟩, HD6, HM6, hou, hL2, HO6, HB6⟩
              · have hcc : isC (c : Int) = false := by unfold isC; rw [decide_eq_false (show ¬ (c : Int) < 65 by omega), Bool.and_false]
                rw [hcc] at hisf
                have hgn := getC_form s sh q l t nd u HGB.out (by omega)
                rw [hgc.out] at hgn
                injection hgn with e1 _
                subst e1
                have hs := HS.out
                rw [getS_err HGC.out (by decide)] at hs
                injection hs with e1 e2
                subst e1 e2
                clear hcc
                go_wp2_with fail
                refine (tree_isClass.calls _ false _ hisf.out).mono ?_
                rintro r w5 ⟨rfl, hd⟩
                have HB5 := Aside0.mk (below_step HB.out hd.below)
                clear hd
                go_wp2
                go_ret2
                exact ⟨_, rfl, Kd.R_nil _ _ _ _ _, HB5.out⟩
            | succ k =>
              have hk7 : k ≤ 6 := by have := hr.out.1; omega
              have hnd : nd < 128 := Nat.lt_of_lt_of_le hr.out.2.2 (by have : 2 ^ (8 - (k + 1)) ≤ 2 ^ 7 := Nat.pow_le_pow_right (by decide) (by omega); exact this)
              have hnd1 : decide ((nd : Int) < 128) = true := decide_eq_true (by omega)
              have hnd0 := eq_true (show (0 : Int) ≤ (nd : Int) by omega)
              have hnd2 := eq_true (show (nd : Int) < 128 by omega)
              have hcC := (HM.out.cell nd hnd).1
              obtain ⟨x, hx⟩ : ∃ x, u.p.getD nd 0 = x := ⟨_, rfl⟩
              rw [hx] at hcC
              have HX : Aside0 (u.at_ nd = x) := ⟨hx⟩
              have HX2 : Aside0 (u.p.getD nd 0 = x) := ⟨hx⟩
              have hLb : Aside0 (u.e.L ≤ 1000000) := ⟨by have := hLu.out; have := hL.out; omega⟩
              clear hx
              rcases errE_small s u.e with he | he
              · have HE := Aside0.mk he
                clear he
                obtain ⟨bb, hbb⟩ : ∃ bb, decide (dE s u.e < shareN u.e.R x) = bb := ⟨_, rfl⟩
                have HBB := Aside0.mk hbb
                clear hbb
                go_wp2_with fail
                refine (dec_Bit.ok s u.e gd x wr HD ⟨hou.out.2⟩ ⟨by have := hLb.out; omega⟩ hsz HE bb HBB.out).mono ?_
                rintro r w5 ⟨rfl, hD5, hm5⟩
                rw [bI_nat]
                have hgn := Aside0.mk (getB_ok s sh k nd u HE.out bb (by rw [HX.out]; exact HBB.out))
                rw [hgb.out] at hgn
                have hbi := Aside0.mk (bI_nat2 bb)
                have hbl := toNat_le1 bb
                obtain ⟨d, hd⟩ : ∃ d, bb.toNat = d := ⟨_, rfl⟩
                rw [hd] at hbi hbl hgn ⊢
                have HD5 := Aside0.mk hD5
                have HM5 := Aside0.mk (HM.out.mine hm5 (by have := hghW.out; show ¬ gh = gd; omega))
                have HO5 := Aside0.mk (HO.out.mine hm5 (fun k hk => Or.inl hk))
                have HB5 := Aside0.mk (Mine.to_below hm5 HB.out HB.out.size (fun k hk => by rw [hk]; exact hgdW.out))
                clear hD5 hm5 hd hcC
                go_wp2_with fail
                refine (move.calls u.p sh (d : Int) nd gh w5 HM5 hnd).mono ?_
                rintro r w6 ⟨rfl, hM6, hm6⟩
                have hst : (stepT sh nd bb u).p = u.p.set nd (mvI (u.p.getD nd 0) (d : Int) sh) := by unfold stepT TS.at_; rw [hbi.out]
                have hse : (stepT sh nd bb u).e = bitE x bb u.e := by unfold stepT; rw [HX.out]
                rw [← hst] at hM6
                have HM6 := Aside0.mk hM6
                have HD6 : Aside0 (LiveAt w6 gd s (stepT sh nd bb u).e) := ⟨by rw [hse]; exact HD5.out.mine hm6 (by have := hghW.out; show ¬ gd = gh; omega)⟩
                have HO6 := Aside0.mk (HO5.out.mine hm6 (fun k hk => Or.inr hk))
                have HB6 := Aside0.mk (Mine.to_below hm6 HB5.out HB5.out.size (fun k hk => by rw [hk]; exact hghW.out.1))
                have hou6 := Aside0.mk (stepT_ok hou.out sh nd bb)
                have hLu6 : Aside0 ((stepT sh nd bb u).e.L ≤ t.e.L + 4 * (7 - k)) := ⟨by have h1 := stepT_L sh nd bb u; have := hLu.out; omega⟩
                have hr6 : Aside0 (k ≤ 7 ∧ 2 ^ (7 - k) ≤ 2 * nd + d ∧ 2 * nd + d < 2 ^ (8 - k)) := ⟨by
                  have h := hr.out
                  have p1 : 2 ^ (7 - k) = 2 ^ (7 - (k + 1)) * 2 := by rw [← Nat.pow_succ]; congr 1; omega
                  have p2 : 2 ^ (8 - k) = 2 ^ (8 - (k + 1)) * 2 := by rw [← Nat.pow_succ]; congr 1; omega
                  omega⟩
                clear hM6 hm6 hst hse
                go_wp2_with fail
                go_roundg k2
                case measure => have := hkj.out; omega
                case rel => exact ⟨k, 2 * nd + d, stepT sh nd bb u, by first | rfl | exact val_i64 (by omega), ⟨by have := hkj.out; omega⟩, hr6, ⟨hgn.out.symm⟩, HD6, HM6, hou6, hLu6, HO6, HB6⟩
              · obtain ⟨er, her⟩ : ∃ er, errE s u.e = er := ⟨_, rfl⟩
                have HER := Aside0.mk her
                rw [her] at he
                have hgn := getB_err s sh k nd u (by omega)
                rw [hgb.out] at hgn
                injection hgn with e1 _
                rw [her] at e1
                subst e1
                have hgn := getC_err s sh q l t _ _ _ HGB.out (by omega)
                rw [hgc.out] at hgn
                injection hgn with e1 _
                subst e1
                have hs := HS.out
                rw [getS_err HGC.out (by omega)] at hs
                injection hs with e1 e2
                subst e1 e2
                clear her
                rcases he with rfl | rfl
                all_goals
                  go_wp2_with fail
                  refine (dec_Bit.err s u.e gd x wr HD ⟨hou.out.2⟩ ⟨by have := hLb.out; omega⟩ hsz _ HER (by decide)).mono ?_
                  rintro r w5 ⟨rfl, hD5, hm5⟩
                  have HB5 := Aside0.mk (Mine.to_below hm5 HB.out HB.out.size (fun k hk => by rw [hk]; exact hgdW.out))
                  clear hD5 hm5
                  go_wp2
                  go_ret2
                  exact ⟨_, rfl, Kd.R_nil _ _ _ _ _, HB5.out⟩
      · have hil1 : decide ((i : Int) < (n : Int)) = false := decide_eq_false (by omega)
        have hgc2 := hgc.out
        rw [show n - i = 0 by omega, getC_zero] at hgc2
        injection hgc2 with e1 e2
        injection e2 with e2 e3
        subst e1 e2 e3
        have hs := HS.out
        rw [getS_end HGC.out] at hs
        obtain ⟨N, hN⟩ : ∃ N, endE s t.e = N := ⟨_, rfl⟩
        have HN := Aside0.mk hN
        rw [hN] at hs
        clear hN
        have hLb : Aside0 (t.e.L ≤ 1000000000) := ⟨by have := hL.out; omega⟩
        by_cases hN0 : N = 0
        · subst hN0
          rw [if_pos rfl] at hs
          injection hs with e1 e2
          subst e1 e2
          go_wp2_with fail
          refine (dec_End.live s t.e gd wr HD ⟨hok.out.2⟩ hLb hsz 0 HN).mono ?_
          rintro r w5 ⟨rfl, _, _, hm5⟩
          have HO5 := Aside0.mk (HO.out.mine hm5 (fun k hk => Or.inl hk))
          have HB5 := Aside0.mk (Mine.to_below hm5 HB.out HB.out.size (fun k hk => by rw [hk]; exact hgdW.out))
          clear hm5
          go_wp2
          go_ret2
          exact ⟨_, rfl, HO5.out.toR, HB5.out⟩
        · rw [if_neg hN0] at hs
          injection hs with e1 e2
          subst e1 e2
          have hNb : ((N : Int) != 0) = true := bne_iff_ne.2 (by omega)
          clear hN0
          go_wp2_with fail
          refine (dec_End.live s t.e gd wr HD ⟨hok.out.2⟩ hLb hsz N HN).mono ?_
          rintro r w5 ⟨rfl, _, _, hm5⟩
          have HB5 := Aside0.mk (Mine.to_below hm5 HB.out HB.out.size (fun k hk => by rw [hk]; exact hgdW.out))
          clear hm5
          go_wp2
          go_ret2
          exact ⟨_, rfl, Kd.R_nil _ _ _ _ _, HB5.out⟩
set_option maxHeartbeats 4000000 in
set_option maxRecDepth 100000 in
theorem tget.out (s : ByteArray) (n sh : Int) (W : World) (h : n < 0 ∨ 4096 < n ∨ mayS sh = false) :
    Calls Try.prog 15 #[.string s, .int .i64 n, .int .i64 sh] W fun e w' => ∃ v, e = .returned (.tuple #[v, .int .i64 1]) ∧ (Kd.int .i64).R 3 w' W.heap.size (fun _ => True) v [] ∧ Below W.heap.size W w' := by
  by_cases h0 : n < 0
  · have hn0 : decide (n < 0) = true := decide_eq_true h0
    go_enter Try.func15, Try.ntmps15
    go_wp2
    go_ret2
    exact ⟨_, rfl, Kd.R_nil _ _ _ _ _, Below.refl _ _⟩
  · have hn0 : decide (n < 0) = false := decide_eq_false h0
    by_cases h4 : 4096 < n
    · have hn4 : decide (n > 4096) = true := decide_eq_true h4
      have hn5 : decide (4096 < n) = true := decide_eq_true h4
      go_enter Try.func15, Try.ntmps15
      go_wp2
      go_ret2
      exact ⟨_, rfl, Kd.R_nil _ _ _ _ _, Below.refl _ _⟩
    · have hn4 : decide (n > 4096) = false := decide_eq_false h4
      have hn5 : decide (4096 < n) = false := decide_eq_false h4
      have hsh : mayS sh = false := by rcases h with h | h | h; exact absurd h h0; exact absurd h h4; exact h
      have hms := Aside0.mk (mayS_f sh)
      rw [hsh] at hms
      clear hsh h h0 h4
      go_enter Try.func15, Try.ntmps15
      go_wp2_with fail
      refine (tree_mayShift.calls sh false _ hms.out).mono ?_
      rintro r w1 ⟨rfl, hd⟩
      have HB1 := Aside0.mk hd.below
      clear hd
      go_wp2
      go_ret2
      exact ⟨_, rfl, Kd.R_nil _ _ _ _ _, HB1.out⟩
/-- Get, as a Lean function: of strings and numbers of classes that are not too large. -/
def tree_Get.f (s : ByteArray) (n sh : Int) : Option (List Int × Int) := if n < 0 ∨ 4096 < n ∨ mayS sh = false then some ([], 1) else if s.size ≤ 1000000000 ∧ n ≤ 1000 then some ((getS s n.toNat sh).1, ((getS s n.toNat sh).2 : Int)) else none
theorem tree_Get.calls (a0 : ByteArray) (a1 a2 : Int) (r1 : List Int) (r2 : Int) (w : World) (h : tree_Get.f a0 a1 a2 = some (r1, r2)) :
    Calls Try.prog 15 #[.string a0, .int .i64 a1, .int .i64 a2] w fun e w' => ∃ v0_ : Value, e = .returned (.tuple #[v0_, .int .i64 r2]) ∧ Kd.R (Kd.int .i64) 3 w' w.heap.size (fun _ => True) v0_ r1 ∧ Below w.heap.size w w' := by
  unfold tree_Get.f at h
  by_cases hb : a1 < 0 ∨ 4096 < a1 ∨ mayS a2 = false
  · rw [if_pos hb] at h
    injection h with h
    injection h with h1 h2
    subst h1 h2
    exact tget.out a0 a1 a2 w hb
  · rw [if_neg hb] at h
    by_cases hs : a0.size ≤ 1000000000 ∧ a1 ≤ 1000
    · rw [if_pos hs] at h
      injection h with h
      injection h with h1 h2
      subst h1 h2
      obtain ⟨n, rfl⟩ : ∃ n : Nat, a1 = (n : Int) := ⟨a1.toNat, by omega⟩
      rw [Int.toNat_natCast]
      have hms : mayS a2 = true := by
        cases hm : mayS a2
        · exact absurd (Or.inr (Or.inr hm)) hb
        · rfl
      exact tget.main a0 n a2 w ⟨hs.1⟩ (by omega) hms
    · rw [if_neg hs] at h
      cases h
end Go.Proofs.Ytgldblakdhalkaa
/- What the reference's GetTree comes to. Conditions: as the contract states. -/
namespace Go.Proofs.Ytgldblakdhalkaa
set_option linter.unusedVariables false
open Go.RowKit Go.Proofs.YtgldblakdhalkaaW.PrintWords Go.Proofs.YtgldblakdhalkaaW.PrintLast Go.Proofs.YtgldblakdhalkaaW.PrintMore Go.Proofs.Ytgldblakdhalkaa.PBase
theorem tn_bool (b : Bool) : (if b = true then 1 else 0 : Nat) = b.toNat := by cases b <;> rfl
def zeros74 : Array Value := #[.slice none 0 0, .int .i64 0]
/-- The reader, the chances, the list told so far and the result's place, all apart. -/
structure GRAt (w : World) (B g gc gh C gr : Nat) (s : ByteArray) (t : TS) (vr : Value) (l : List Int) (vo : Value) (BW : Nat) : Prop where
  rd : ReadAt w B g gc s t.e vr
  ch : HalfAt w B gh C t.p
  apart : ¬ rfoot g gc vr gh
  up : ∀ k, rfoot g gc vr k → B ≤ k
  hB : B ≤ gh
  own : w.ownsRow BW 3 1 vo l.length (i64s l)
  far : ∀ k, vo.ownBlock = some k → k ≠ gh ∧ B ≤ k ∧ ¬ rfoot g gc vr k
  res : w.heap[gr]? = some (.cells #[.slice none 0 0, .int .i64 0] 74 (0, 0))
  gr : gr < B
section
variable {w w1 w2 : World} {B g gc gh C gr : Nat} {s : ByteArray} {t : TS} {vr vr' : Value} {l : List Int} {vo : Value} {BW : Nat}
theorem GRAt.below (h : GRAt w B g gc gh C gr s t vr l vo BW) (hb : Below w.heap.size w w1) : GRAt w1 B g gc gh C gr s t vr l vo BW :=
  ⟨h.rd.below hb, h.ch.below hb, h.apart, h.up, h.hB, own_mine h.own (Mine.of_below (fun _ => False) hb) (fun _ _ h => h), h.far, blk_below h.res hb, h.gr⟩
theorem GRAt.read (h : GRAt w B g gc gh C gr s t vr l vo BW) {f : Enc} (hr : ReadAt w1 B g gc s f vr') (hm : RMoved g gc w vr w1 vr') (hBw : B ≤ w.heap.size) : GRAt w1 B g gc gh C gr s ⟨t.p, f⟩ vr' l vo BW := by
  have hf := hm.foot
  refine ⟨hr, h.ch.mine hm.mine h.apart, ?_, ?_, h.hB, own_mine h.own hm.mine (fun k hk => (h.far k hk).2.2), ?_, blk_mine h.res hm.mine (fun hk => by have := h.up gr hk; have := h.gr; omega), h.gr⟩
  · exact fun hk => (hf gh hk).elim h.apart (fun h3 => by have := h.ch.lt; omega)
  · exact fun k hk => (hf k hk).elim (h.up k) (fun h3 => by omega)
  · exact fun k hk => ⟨(h.far k hk).1, (h.far k hk).2.1, fun hk2 => (hf k hk2).elim (h.far k hk).2.2 (fun h3 => by have := (h.own.lt k hk).2; omega)⟩
theorem GRAt.half (h : GRAt w B g gc gh C gr s t vr l vo BW) {p : List Int} (hc : HalfAt w1 B gh C p) (hm : Mine (· = gh) w w1) : GRAt w1 B g gc gh C gr s ⟨p, t.e⟩ vr l vo BW :=
  ⟨h.rd.mine hm (fun k hk hkg => h.apart (by rw [← hkg]; exact hk)), hc, h.apart, h.up, h.hB, own_mine h.own hm (fun k hk => (h.far k hk).1), h.far, blk_mine h.res hm (by have := h.gr; have := h.hB; show ¬ gr = gh; omega), h.gr⟩
theorem GRAt.rlt (h : GRAt w B g gc gh C gr s t vr l vo BW) : ∀ k, rfoot g gc vr k → k < w.heap.size := h.rd.lt
/-- One class more. -/
theorem GRAt.app (h : GRAt w B g gc gh C gr s t vr l vo BW) {c : Int} {b Cb : Nat} {o : Obj} (ho : w2.ownsRow BW 3 1 (.slice (some ⟨b, 0, none⟩) (l.length + 1) Cb) (l.length + 1) (i64s l ++ [.int .i64 c])) (hg : (w.alloc o).grownBy w2 vo.ownBlock) (hp : vo.ownBlock = some b ∨ b = (w.alloc o).heap.size) (hBw : B ≤ w.heap.size) :
    GRAt w2 B g gc gh C gr s t vr (l ++ [c]) (.slice (some ⟨b, 0, none⟩) (l.length + 1) Cb) BW ∧ Mine (fun k => vo.ownBlock = some k) w w2 := by
  have hm : Mine (fun k => vo.ownBlock = some k) w w2 := Mine.grown (Mine.alloc (Mine.refl _ _) o) hg (fun k hk => Or.inl hk)
  refine ⟨⟨h.rd.mine hm (fun k hk hv => (h.far k hv).2.2 hk), h.ch.mine hm (fun hv => (h.far gh hv).1 rfl), h.apart, h.up, h.hB, ?_, ?_, blk_mine h.res hm (fun hv => by have := (h.far gr hv).2.1; have := h.gr; omega), h.gr⟩, hm⟩
  · rw [i64s_snoc, List.length_append]; exact ho
  · intro k hk
    have hkb := own_eq hk
    rcases hp with h1 | h1
    · rw [← hkb]; exact h.far b h1
    · rw [Below_alloc_size] at h1
      have h2 := h.ch.lt
      exact ⟨by omega, by omega, fun hk2 => by have := h.rlt k hk2; omega⟩
theorem GRAt.toR (h : GRAt w B g gc gh C gr s t vr l vo BW) : (Kd.int .i64).R 3 w BW (fun _ => True) vo l := Kd.R_of_own h.own (fun _ _ => trivial)
end
set_option maxHeartbeats 2000000 in
set_option maxRecDepth 100000 in
theorem rget.out (s : ByteArray) (n sh : Int) (W : World) (h : n < 0 ∨ 4096 < n ∨ mayS sh = false) :
    Calls Try.prog 41 #[.string s, .int .i64 n, .int .i64 sh] W fun e w' => ∃ v, e = .returned (.agg #[v, .int .i64 1]) ∧ (Kd.int .i64).R 3 w' W.heap.size (fun _ => True) v [] ∧ Below W.heap.size W w' := by
  have hu74 := Try.underlying74
  by_cases h0 : n < 0
  · have hn0 : decide (n < 0) = true := decide_eq_true h0
    go_enter Try.func41, Try.ntmps41
    go_wp2
    refine bodyPost_ret (results_cell_row rfl _ _ W.heap.size 74 _ (0, 0) _ rfl (by first | exact blk_new _ _ | exact blk_set (blk_set (blk_new _ _) 0 _) 1 _) hu74 rfl rfl) rfl ⟨_, rfl, Kd.R_nil _ _ _ _ _, ?_⟩
    first | exact below_alloc (Below.refl _ _) _ | exact below_of_set2 (below_alloc (Below.refl _ _) _) rfl
  · have hn0 : decide (n < 0) = false := decide_eq_false h0
    by_cases h4 : 4096 < n
    · have hn4 : decide (n > 4096) = true := decide_eq_true h4
      have hn5 : decide (4096 < n) = true := decide_eq_true h4
      go_enter Try.func41, Try.ntmps41
      go_wp2
      refine bodyPost_ret (results_cell_row rfl _ _ W.heap.size 74 _ (0, 0) _ rfl (by first | exact blk_new _ _ | exact blk_set (blk_set (blk_new _ _) 0 _) 1 _) hu74 rfl rfl) rfl ⟨_, rfl, Kd.R_nil _ _ _ _ _, ?_⟩
      first | exact below_alloc (Below.refl _ _) _ | exact below_of_set2 (below_alloc (Below.refl _ _) _) rfl
    · have hn4 : decide (n > 4096) = false := decide_eq_false h4
      have hn5 : decide (4096 < n) = false := decide_eq_false h4
      have hsh : mayS sh = false := by rcases h with h | h | h; exact absurd h h0; exact absurd h h4; exact h
      unfold mayS at hsh
      by_cases hs4 : sh < 4
      · have h41 : decide (sh < 4) = true := decide_eq_true hs4
        go_enter Try.func41, Try.ntmps41
        go_wp2
        refine bodyPost_ret (results_cell_row rfl _ _ W.heap.size 74 _ (0, 0) _ rfl (by first | exact blk_new _ _ | exact blk_set (blk_set (blk_new _ _) 0 _) 1 _) hu74 rfl rfl) rfl ⟨_, rfl, Kd.R_nil _ _ _ _ _, ?_⟩
        first | exact below_alloc (Below.refl _ _) _ | exact below_of_set2 (below_alloc (Below.refl _ _) _) rfl
      · have h41 : decide (sh < 4) = false := decide_eq_false hs4
        have h7 : 7 < sh := by
          rw [decide_eq_true (by omega), Bool.true_and] at hsh
          have := of_decide_eq_false hsh
          omega
        have h71 : decide (sh > 7) = true := decide_eq_true h7
        have h72 : decide (7 < sh) = true := decide_eq_true h7
        go_enter Try.func41, Try.ntmps41
        go_wp2
        refine bodyPost_ret (results_cell_row rfl _ _ W.heap.size 74 _ (0, 0) _ rfl (by first | exact blk_new _ _ | exact blk_set (blk_set (blk_new _ _) 0 _) 1 _) hu74 rfl rfl) rfl ⟨_, rfl, Kd.R_nil _ _ _ _ _, ?_⟩
        first | exact below_alloc (Below.refl _ _) _ | exact below_of_set2 (below_alloc (Below.refl _ _) _) rfl
attribute [local go_sem ↓] Go.wp_at_zero Go.wp_at_succ
set_option maxHeartbeats 4000000 in
set_option maxRecDepth 100000 in
theorem rget.main (s : ByteArray) (n : Nat) (sh : Int) (W : World) (hsz : Aside0 (s.size ≤ 1000000000)) (hn : n ≤ 1000) (hsh : mayS sh = true) :
    Calls Try.prog 41 #[.string s, .int .i64 (n : Int), .int .i64 sh] W fun e w' => ∃ v, e = .returned (.agg #[v, .int .i64 ((getS s n sh).2 : Int)]) ∧ (Kd.int .i64).R 3 w' W.heap.size (fun _ => True) v (getS s n sh).1 ∧ Below W.heap.size W w' := by
  have hu74 := Try.underlying74
  have hu56 := Try.underlying56
  have hu25 := Try.underlying25
  obtain ⟨Lf, ef, hS⟩ : ∃ Lf ef, getS s n sh = (Lf, ef) := ⟨_, _, rfl⟩
  have HS := Aside0.mk hS
  rw [hS]
  clear hS
  have hshr := mayS_true hsh
  have h41 : decide (sh < 4) = false := decide_eq_false (by omega)
  have h71 : decide (sh > 7) = false := decide_eq_false (by omega)
  have h72 : decide (7 < sh) = false := decide_eq_false (by omega)
  clear hsh hshr
  have hn0 : decide ((n : Int) < 0) = false := decide_eq_false (by omega)
  have hn4 : decide ((n : Int) > 4096) = false := decide_eq_false (by omega)
  have hn5 : decide (4096 < (n : Int)) = false := decide_eq_false (by omega)
  have HB0 : Aside0 (Below W.heap.size W (W.alloc (.cells #[.slice none 0 0, .int .i64 0] 74))) := ⟨below_alloc (Below.refl _ _) _⟩
  have NA : (W.alloc (.cells #[.slice none 0 0, .int .i64 0] 74)).heap[W.heap.size]? = some (.cells #[.slice none 0 0, .int .i64 0] 74 (0, 0)) := blk_new _ _
  obtain ⟨w1, hw1⟩ : ∃ w1, W.alloc (.cells #[.slice none 0 0, .int .i64 0] 74) = w1 := ⟨_, rfl⟩
  rw [hw1] at NA HB0
  obtain ⟨gr, hgr⟩ : ∃ gr, W.heap.size = gr := ⟨_, rfl⟩
  rw [hgr] at NA
  have NA1 := Aside0.mk NA
  have HG := Aside0.mk hgr
  clear NA
  have hgl : Aside0 (gr < w1.heap.size) := ⟨blk_lt NA1.out⟩
  go_enter Try.func41, Try.ntmps41
  go_wp2_with fail
  refine (ref_From.calls s w1).mono ?_
  rintro r w2 ⟨g, gc, vr, rfl, hR, hup, hb⟩
  have HB2 := Aside0.mk (below_step HB0.out hb)
  have HR2 := Aside0.mk hR
  have NA2 := Aside0.mk (blk_below NA1.out hb)
  have hup2 := Aside0.mk hup
  have hs12 : Aside0 (w1.heap.size ≤ w2.heap.size) := ⟨hb.size⟩
  clear hR hup hb
  go_wp2_with fail
  refine (wringerref15_halves.calls 200 128 _ w2 (eq_of_beq halves_ok)).mono ?_
  rintro r w3 ⟨vh, rfl, hRh, hb⟩
  obtain ⟨gh, C, rfl, hoh, hgh, hghl, _⟩ := row_of_R hRh (by rw [List.length_replicate]; decide)
  rw [List.length_replicate] at hoh
  have HP : Aside0 (GRAt w3 w1.heap.size g gc gh C gr s TS.new vr [] (.slice none 0 0) W.heap.size) := ⟨⟨HR2.out.below hb, ⟨own_base hoh hs12.out, List.length_replicate⟩, fun hk => by have := HR2.out.lt _ hk; omega, hup2.out, Nat.le_trans hs12.out hgh, ⟨rfl, .inl ⟨rfl, rfl⟩⟩, fun k hk => by simp [Value.ownBlock] at hk, blk_below NA2.out hb, hgl.out⟩⟩
  have HB3 := Aside0.mk (below_step HB2.out hb)
  have hW1 : Aside0 (W.heap.size ≤ w1.heap.size) := ⟨HB0.out.size⟩
  have hw13 : Aside0 (w1.heap.size ≤ w3.heap.size) := ⟨Nat.le_trans hs12.out hb.size⟩
  simp only [List.length_replicate]
  clear hRh hb hoh hgh hghl HB2 NA1 NA2 HB0 HR2 hup2
  go_wp2_with fail
  obtain ⟨erG, LG, tG, hG⟩ : ∃ er L t, getC s sh n [] TS.new = (er, L, t) := ⟨_, _, _, rfl⟩
  have HGC := Aside0.mk hG
  clear hG
  go_loopg [9] (n + 1) (fun kq v9 w' => ∃ (l : List Int) (t : TS) (vr : Value) (A : Option Addr) (Co : Nat), v9 = .slice A l.length Co ∧ Aside0 (kq = n - l.length + 1) ∧ Aside0 (l.length ≤ n) ∧ Aside0 (getC s sh (n - l.length) l t = (erG, LG, tG)) ∧ Aside0 (GRAt w' w1.heap.size g gc gh C gr s t vr l (.slice A l.length Co) W.heap.size) ∧ Aside0 t.ok ∧ Aside0 (t.e.L ≤ 1 + 28 * l.length) ∧ Aside0 (w1.heap.size ≤ w'.heap.size) ∧ Aside0 (Below W.heap.size W w'))
  case atStart => exact ⟨[], TS.new, vr, none, 0, rfl, ⟨rfl⟩, ⟨Nat.zero_le _⟩, HGC, HP, ⟨TS.new_ok⟩, ⟨by decide⟩, hw13, HB3⟩
  case round =>
    clear HP HB3 hw13
    obtain ⟨l, t, vr, A, Co, rfl, hk, hi, hgc, HP, hok, hL, hw, HB⟩ := hrel
    cases gk with
    | zero => exact absurd hk.out (by omega)
    | succ k1 =>
      have hi2 := hi.out
      obtain ⟨len, hlen⟩ : ∃ len, l.length = len := ⟨_, rfl⟩
      have HLEN := Aside0.mk hlen
      rw [hlen] at hk hi hgc hL hi2 HP ⊢
      clear hlen
      by_cases hil : len < n
      · have hil1 : decide ((len : Int) < (n : Int)) = true := decide_eq_true (by omega)
        obtain ⟨q, hq⟩ : ∃ q, n - len = q + 1 := ⟨n - len - 1, by omega⟩
        rw [hq] at hgc
        obtain ⟨er1, m, t1, hB0⟩ : ∃ er m t1, getB s sh 7 1 t = (er, m, t1) := ⟨_, _, _, rfl⟩
        have HGB := Aside0.mk hB0
        have HQ := Aside0.mk hq
        clear hB0 hq
        go_wp2_with fail
        go_loopg [10, 11] 8 (fun kq v10 v11 w' => ∃ (k nd : Nat) (u : TS) (vr : Value), v10 = .int .i64 (nd : Int) ∧ v11 = .int .i64 ((7 - k : Nat) : Int) ∧ Aside0 (kq = k + 1) ∧ Aside0 (k ≤ 7 ∧ 2 ^ (7 - k) ≤ nd ∧ nd < 2 ^ (8 - k)) ∧ Aside0 (getB s sh k nd u = (er1, m, t1)) ∧ Aside0 (GRAt w' w1.heap.size g gc gh C gr s u vr l (.slice A len Co) W.heap.size) ∧ Aside0 u.ok ∧ Aside0 (u.e.L ≤ t.e.L + 4 * (7 - k)) ∧ Aside0 (w1.heap.size ≤ w'.heap.size) ∧ Aside0 (Below W.heap.size W w'))
        case atStart => exact ⟨7, 1, t, vr, rfl, rfl, ⟨rfl⟩, ⟨by decide⟩, HGB, HP, hok, ⟨by omega⟩, hw, HB⟩
        case round =>
          clear HP hw HB
          obtain ⟨k, nd, u, vr, rfl, rfl, hkj, hr, hgb, HP, hou, hLu, hw, HB⟩ := hrel
          cases gk with
          | zero => exact absurd hkj.out (by omega)
          | succ k2 =>
            cases k with
            | zero =>
              have hnd : 128 ≤ nd ∧ nd < 256 := hr.out.2
              have hgb2 := hgb.out
              rw [getB_zero] at hgb2
              injection hgb2 with e1 e2
              injection e2 with e2 e3
              subst e1 e2 e3
              have hL2 : Aside0 (u.e.L ≤ 1 + 28 * (len + 1)) := ⟨by have := hLu.out; have := hL.out; omega⟩
              obtain ⟨c, hc⟩ : ∃ c, nd - 128 = c := ⟨_, rfl⟩
              have hcw : (nd : Int) - 128 = (c : Int) := by omega
              have hcI : Aside0 (((nd : Int) - 128) = (c : Int)) := ⟨hcw⟩
              by_cases h65 : c < 65
              · have h651 : decide ((c : Int) ≥ 65) = false := decide_eq_false (by omega)
                have h652 : decide (65 ≤ (c : Int)) = false := decide_eq_false (by omega)
                have h653 : decide (65 ≤ c) = false := decide_eq_false (by omega)
                have hgn := Aside0.mk (getC_ok s sh q l t nd u HGB.out (by omega))
                rw [hgc.out] at hgn
                have hb0 : Aside0 (l.length + 1 ≤ maxLen) := ⟨by have := HLEN.out; unfold maxLen; omega⟩
                have hb1 : Aside0 ((l.length + 1) * 8 ≤ 140737488355328) := ⟨by have := HLEN.out; omega⟩
                have hBw : Aside0 (W.heap.size ≤ wr.heap.size) := ⟨HB.out.size⟩
                have HOW : Aside0 (wr.ownsRow W.heap.size 3 1 (.slice A len Co) l.length (i64s l)) := ⟨HP.out.own⟩
                go_wp2_with (first | (at_builtin; refine list_one (by rfl) _ _ _ (by rfl) W.heap.size 3 Try.t3 (.int .i64 0) 8 Try.underlying25 hi3 (by rfl) (by rfl) (by rfl) (by rfl) (.slice A len Co) l.length (i64s l) (by rfl) (World.ownsRow.alloc HOW.out _) wr.heap.size (.int .i64 (c : Int)) (by rfl) (blk_new _ _) (by rfl) hb0.out hb1.out (by rw [Below_alloc_size]; exact Nat.le_succ_of_le hBw.out) ?_; intro b2 C2 w6 ho2 hg2 hp2))
                obtain ⟨hP6, hm6⟩ := HP.out.app ho2 hg2 hp2 hw.out
                have HP6 := Aside0.mk hP6
                have HB6 := Aside0.mk (Mine.to_below hm6 HB.out HB.out.size (fun k hk => (HP.out.own.lt k hk).1))
                have hw6 : Aside0 (w1.heap.size ≤ w6.heap.size) := ⟨Nat.le_trans hw.out hm6.size⟩
                have hlx : (l ++ [(c : Int)]).length = l.length + 1 := by rw [List.length_append]; rfl
                clear ho2 hg2 hp2 hP6 hm6
                go_roundg k1
                case measure => have := hk.out; omega
                case rel =>
                  refine ⟨l ++ [(c : Int)], u, vr, _, C2, by rw [hlx], ⟨by rw [hlx, HLEN.out]; have := hk.out; omega⟩, ⟨by rw [hlx, HLEN.out]; exact hil⟩, ⟨?_⟩, ⟨by rw [hlx]; exact HP6.out⟩, hou, ⟨by rw [hlx, HLEN.out]; exact hL2.out⟩, hw6, HB6⟩
                  rw [hlx, HLEN.out, show n - (len + 1) = q by have := HQ.out; omega]
                  have h := hgn.out
                  rw [hcI.out] at h
                  exact h.symm
              · have h651 : decide ((c : Int) ≥ 65) = true := decide_eq_true (by omega)
                have h652 : decide (65 ≤ (c : Int)) = true := decide_eq_true (by omega)
                have h653 : decide (65 ≤ c) = true := decide_eq_true (by omega)
                have hgn := getC_form s sh q l t nd u HGB.out (by omega)
                rw [hgc.out] at hgn
                injection hgn with e1 _
                subst e1
                have hs := HS.out
                rw [getS_err HGC.out (by decide)] at hs
                injection hs with e1 e2
                subst e1 e2
                have hq0 := blk_frozen HP.out.res 0
                have hq1 := blk_frozen HP.out.res 1
                have hr0 := blk_cell HP.out.res 0
                have hr1 := blk_cell HP.out.res 1
                simp at hr0 hr1
                go_wp2
                refine bodyPost_ret (results_cell_row rfl _ _ gr 74 _ (0, 0) _ rfl (blk_set (blk_set HP.out.res 0 _) 1 _) hu74 rfl rfl) rfl ⟨_, rfl, Kd.R_nil _ _ _ _ _, ?_⟩
                exact below_of_set2 HB.out HG.out
            | succ k =>
              have hk7 : k ≤ 6 := by have := hr.out.1; omega
              have hnd : nd < 128 := Nat.lt_of_lt_of_le hr.out.2.2 (by have : 2 ^ (8 - (k + 1)) ≤ 2 ^ 7 := Nat.pow_le_pow_right (by decide) (by omega); exact this)
              have hnd0 := eq_true (show (0 : Int) ≤ (nd : Int) by omega)
              have hnd2 := eq_true (show (nd : Int) < 128 by omega)
              obtain ⟨j, hj⟩ : ∃ j, 7 - (k + 1) = j := ⟨_, rfl⟩
              have hjl : j < 7 := by omega
              have hj1 : decide ((j : Int) < 7) = true := decide_eq_true (by omega)
              have HJ := Aside0.mk hj
              rw [hj]
              clear hj
              have hcC := (HP.out.ch.cell nd hnd).1
              obtain ⟨x, hx⟩ : ∃ x, u.p.getD nd 0 = x := ⟨_, rfl⟩
              rw [hx] at hcC
              have HX : Aside0 (u.at_ nd = x) := ⟨hx⟩
              have HX2 : Aside0 (u.p.getD nd 0 = x) := ⟨hx⟩
              have hLb : Aside0 (u.e.L ≤ 1000000) := ⟨by have := hLu.out; have := hL.out; omega⟩
              clear hx
              rcases errE_small s u.e with he | he
              · have HE := Aside0.mk he
                clear he
                obtain ⟨bb, hbb⟩ : ∃ bb, decide (dE s u.e < shareN u.e.R x) = bb := ⟨_, rfl⟩
                have HBB := Aside0.mk hbb
                clear hbb
                go_wp2_with fail
                refine (ref_RBit.ok s u.e vr w1.heap.size g gc x wr ⟨HP.out.rd⟩ ⟨hou.out.2⟩ ⟨by have := hLb.out; omega⟩ hsz hw HE bb HBB).mono ?_
                rintro r w5 ⟨rfl, vr', hR5, hm5⟩
                rw [tn_bool]
                have hgn := Aside0.mk (getB_ok s sh k nd u HE.out bb (by rw [HX.out]; exact HBB.out))
                rw [hgb.out] at hgn
                have hbi := Aside0.mk (bI_nat2 bb)
                have hbl := toNat_le1 bb
                obtain ⟨d, hd⟩ : ∃ d, bb.toNat = d := ⟨_, rfl⟩
                rw [hd] at hbi hbl hgn ⊢
                have HP5 := Aside0.mk (HP.out.read hR5 hm5 hw.out)
                have HB5 := Aside0.mk (hm5.to_below HB.out HB.out.size (fun k hk => Nat.le_trans hW1.out (HP.out.up k hk)))
                have hw5 : Aside0 (w1.heap.size ≤ w5.heap.size) := ⟨Nat.le_trans hw.out hm5.mine.size⟩
                clear hR5 hm5 hd hcC
                unfold got
                go_wp2_with fail
                obtain ⟨w6, hw6⟩ : ∃ w6, w5.alloc (.cells #[.int .u64 (d : Int), .int .i64 0, .int .i64 0] 56) = w6 := ⟨_, rfl⟩
                obtain ⟨gb, hgb6⟩ : ∃ gb, w5.heap.size = gb := ⟨_, rfl⟩
                have DB : w6.heap[gb]? = some (.cells #[.int .u64 (d : Int), .int .i64 0, .int .i64 0] 56 (0, 0)) := by rw [← hw6, ← hgb6]; exact blk_new _ _
                have hb6 : Below w5.heap.size w5 w6 := by rw [← hw6]; exact below_alloc (Below.refl _ _) _
                have HP6 := Aside0.mk (HP5.out.below hb6)
                have HB6 := Aside0.mk (below_step HB5.out hb6)
                have hw6s : Aside0 (w1.heap.size ≤ w6.heap.size) := ⟨Nat.le_trans hw5.out hb6.size⟩
                have hghb : gh < gb := by rw [← hgb6]; exact HP5.out.ch.lt
                rw [hw6, hgb6]
                clear hw6 hgb6 hb6 HP5 HB5 hw5
                have hcC : w6.cell? ⟨gh, nd, none⟩ = some (.int .i64 x) := by
                  have h := (HP6.out.ch.cell nd hnd).1
                  have e : (TS.mk u.p (bitE x bb u.e)).p.getD nd 0 = x := HX2.out
                  rw [e] at h
                  exact h
                have hfC : w6.frozen? ⟨gh, nd, none⟩ = false := (HP6.out.ch.cell nd hnd).2
                have hcB := blk_cell DB 0
                simp at hcB
                have hne1 : (gb = gh) = False := eq_false (by omega)
                have hne2 : (gh = gb) = False := eq_false (by omega)
                have hwd : IntKind.i64.wrap (d : Int) = (d : Int) := by rw [IntKind.wrap_i64]; omega
                have hmv := Aside0.mk (rmove_f x (d : Int) sh)
                obtain ⟨y, hy⟩ : ∃ y, mvI x (d : Int) sh = y := ⟨_, rfl⟩
                rw [hy] at hmv
                have HY := Aside0.mk hy
                clear hy
                go_still_tail 12, (by kernel_rfl)
                still_call (wringerref15_Move.same _ _ _ _ _ hmv.out)
                repeat still_step
                refine wpStill_nil ?_
                change wpList _ _ _ _ _ w6.drew
                have hcC2 : w6.drew.cell? ⟨gh, nd, none⟩ = some (.int .i64 x) := hcC
                have hfC2 : w6.drew.frozen? ⟨gh, nd, none⟩ = false := hfC
                have DB2 : ((w6.setCell ⟨gh, nd, none⟩ (.int .i64 y))).heap[gb]? = some (.cells #[.int .u64 (d : Int), .int .i64 0, .int .i64 0] 56 (0, 0)) := blk_far DB (p := ⟨gh, nd, none⟩) (by show gb ≠ gh; omega) _
                have hcB2 := blk_cell DB2 0
                simp at hcB2
                go_wp2_with fail
                have hst : (stepT sh nd bb u).p = u.p.set nd y := by
                  have h1 : (stepT sh nd bb u).p = u.p.set nd (mvI (u.at_ nd) (bI bb) sh) := rfl
                  rw [h1, hbi.out, HX.out, HY.out]
                have hse : (stepT sh nd bb u).e = bitE x bb u.e := by unfold stepT; rw [HX.out]
                have hC7 : HalfAt (w6.setCell ⟨gh, nd, none⟩ (.int .i64 y)).drew w1.heap.size gh C (u.p.set nd y) := ⟨own_frame (HP6.out.ch.put nd y).1 (fun _ _ => rfl), (HP6.out.ch.put nd y).2⟩
                have hm7 : Mine (· = gh) w6 (w6.setCell ⟨gh, nd, none⟩ (.int .i64 y)).drew := Mine.drew (Mine.set (S := (· = gh)) (Mine.refl _ _) (Or.inl rfl) _)
                have hP7 := HP6.out.half hC7 hm7
                have ht7 : TS.mk (u.p.set nd y) (bitE x bb u.e) = stepT sh nd bb u := by
                  rw [← hst, ← hse]
                have HP7 : Aside0 (GRAt (w6.setCell ⟨gh, nd, none⟩ (.int .i64 y)).drew w1.heap.size g gc gh C gr s (stepT sh nd bb u) vr' l (.slice A len Co) W.heap.size) := ⟨by rw [← ht7]; exact hP7⟩
                have HB7 : Aside0 (Below W.heap.size W (w6.setCell ⟨gh, nd, none⟩ (.int .i64 y)).drew) := ⟨Mine.to_below hm7 HB6.out HB6.out.size (fun k hk => by rw [hk]; exact Nat.le_trans hW1.out HP6.out.hB)⟩
                have hw7 : Aside0 (w1.heap.size ≤ (w6.setCell ⟨gh, nd, none⟩ (.int .i64 y)).drew.heap.size) := ⟨Nat.le_trans hw6s.out hm7.size⟩
                have hou7 := Aside0.mk (stepT_ok hou.out sh nd bb)
                have hLu7 : Aside0 ((stepT sh nd bb u).e.L ≤ t.e.L + 4 * (7 - k)) := ⟨by have h1 := stepT_L sh nd bb u; have := hLu.out; omega⟩
                have hr7 : Aside0 (k ≤ 7 ∧ 2 ^ (7 - k) ≤ 2 * nd + d ∧ 2 * nd + d < 2 ^ (8 - k)) := ⟨by
                  have h := hr.out
                  have p1 : 2 ^ (7 - k) = 2 ^ (7 - (k + 1)) * 2 := by rw [← Nat.pow_succ]; congr 1; omega
                  have p2 : 2 ^ (8 - k) = 2 ^ (8 - (k + 1)) * 2 := by rw [← Nat.pow_succ]; congr 1; omega
                  omega⟩
                go_roundg k2
                case measure => have := hkj.out; omega
                case rel => exact ⟨k, 2 * nd + d, stepT sh nd bb u, vr', by first | rfl | exact val_i64 (by omega), val_i64 (by have := HJ.out; omega), ⟨by have := hkj.out; omega⟩, hr7, ⟨hgn.out.symm⟩, HP7, hou7, hLu7, hw7, HB7⟩
              · obtain ⟨er, her⟩ : ∃ er, errE s u.e = er := ⟨_, rfl⟩
                have HER := Aside0.mk her
                rw [her] at he
                have hgn := getB_err s sh k nd u (by omega)
                rw [hgb.out] at hgn
                injection hgn with e1 _
                rw [her] at e1
                subst e1
                have hgn := getC_err s sh q l t _ _ _ HGB.out (by omega)
                rw [hgc.out] at hgn
                injection hgn with e1 _
                subst e1
                have hs := HS.out
                rw [getS_err HGC.out (by omega)] at hs
                injection hs with e1 e2
                subst e1 e2
                clear her
                rcases he with rfl | rfl
                all_goals
                  go_wp2_with fail
                  refine (ref_RBit.err s u.e vr w1.heap.size g gc x wr ⟨HP.out.rd⟩ ⟨hou.out.2⟩ ⟨by have := hLb.out; omega⟩ hsz _ HER (by decide)).mono ?_
                  rintro r w5 ⟨rfl, _, hm5⟩
                  have HB5 := Aside0.mk (Mine.to_below hm5 HB.out HB.out.size (fun k hk => by rw [hk]; exact Nat.le_trans hW1.out (HP.out.up g (Or.inl rfl))))
                  have NA5 := Aside0.mk (blk_mine HP.out.res hm5 (by have := HP.out.up g (Or.inl rfl); have := hgl.out; show ¬ gr = g; omega))
                  clear hm5 hcC
                  have hglt : gr < w5.heap.size := blk_lt NA5.out
                  have hne1 : (gr = w5.heap.size) = False := eq_false (by omega)
                  have hne2 : (w5.heap.size = gr) = False := eq_false (by omega)
                  have hq0 := blk_frozen NA5.out 0
                  have hq1 := blk_frozen NA5.out 1
                  have hr0 := blk_cell NA5.out 0
                  have hr1 := blk_cell NA5.out 1
                  simp at hr0 hr1
                  unfold got
                  go_wp2
                  refine bodyPost_ret (results_cell_row rfl _ _ gr 74 _ (0, 0) _ rfl (by first | exact blk_alloc (blk_set (blk_set NA5.out 0 _) 1 _) _ | exact blk_set (blk_set (blk_alloc NA5.out _) 0 _) 1 _) hu74 rfl rfl) rfl ⟨_, rfl, Kd.R_nil _ _ _ _ _, ?_⟩
                  first | exact below_alloc (below_of_set2 HB5.out HG.out) _ | exact below_of_set2 (below_alloc HB5.out _) HG.out
      · have hil1 : decide ((len : Int) < (n : Int)) = false := decide_eq_false (by omega)
        have hgc2 := hgc.out
        rw [show n - len = 0 by omega, getC_zero] at hgc2
        injection hgc2 with e1 e2
        injection e2 with e2 e3
        subst e1 e2 e3
        have hs := HS.out
        rw [getS_end HGC.out] at hs
        obtain ⟨N, hN⟩ : ∃ N, endE s t.e = N := ⟨_, rfl⟩
        have HN := Aside0.mk hN
        rw [hN] at hs
        clear hN
        have hLb : Aside0 (t.e.L ≤ 1000000000) := ⟨by have := hL.out; omega⟩
        by_cases hN0 : N = 0
        · subst hN0
          rw [if_pos rfl] at hs
          injection hs with e1 e2
          subst e1 e2
          go_wp2_with fail
          refine (ref_REnd.calls s t.e vr w1.heap.size g gc wr ⟨HP.out.rd⟩ ⟨hok.out.2⟩ hLb hsz 0 HN).mono ?_
          rintro r w5 ⟨rfl, _, _, hm5⟩
          have HB5 := Aside0.mk (Mine.to_below hm5 HB.out HB.out.size (fun k hk => by rw [hk]; exact Nat.le_trans hW1.out (HP.out.up g (Or.inl rfl))))
          have NA5 := Aside0.mk (blk_mine HP.out.res hm5 (by have := HP.out.up g (Or.inl rfl); have := hgl.out; show ¬ gr = g; omega))
          have HO5 : Aside0 (w5.ownsRow W.heap.size 3 1 (.slice A len Co) l.length (i64s l)) := ⟨own_mine HP.out.own hm5 (fun k hk (hkg : k = g) => (HP.out.far k hk).2.2 (Or.inl hkg))⟩
          have hfo : Aside0 (∀ k, (Value.slice A len Co).ownBlock = some k → k ≠ gr) := ⟨fun k hk => by have := (HP.out.far k hk).2.1; have := hgl.out; omega⟩
          clear hm5
          have hq0 := blk_frozen NA5.out 0
          have hq1 := blk_frozen NA5.out 1
          have hr0 := blk_cell NA5.out 0
          have hr1 := blk_cell NA5.out 1
          simp at hr0 hr1
          go_wp2
          refine bodyPost_ret (results_cell_row rfl _ _ gr 74 _ (0, 0) _ rfl (blk_set (blk_set NA5.out 0 _) 1 _) hu74 rfl rfl) rfl ⟨_, rfl, ?_, ?_⟩
          · exact Kd.R_of_own (own_mine HO5.out (Mine.set (Mine.set (Mine.refl (· = gr) _) (Or.inl rfl) _) (Or.inl rfl) _) hfo.out) (fun _ _ => trivial)
          · exact below_of_set2 HB5.out HG.out
        · rw [if_neg hN0] at hs
          injection hs with e1 e2
          subst e1 e2
          have hNb : ((N : Int) != 0) = true := bne_iff_ne.2 (by omega)
          clear hN0
          go_wp2_with fail
          refine (ref_REnd.calls s t.e vr w1.heap.size g gc wr ⟨HP.out.rd⟩ ⟨hok.out.2⟩ hLb hsz N HN).mono ?_
          rintro r w5 ⟨rfl, _, _, hm5⟩
          have HB5 := Aside0.mk (Mine.to_below hm5 HB.out HB.out.size (fun k hk => by rw [hk]; exact Nat.le_trans hW1.out (HP.out.up g (Or.inl rfl))))
          have NA5 := Aside0.mk (blk_mine HP.out.res hm5 (by have := HP.out.up g (Or.inl rfl); have := hgl.out; show ¬ gr = g; omega))
          clear hm5
          have hq0 := blk_frozen NA5.out 0
          have hq1 := blk_frozen NA5.out 1
          have hr0 := blk_cell NA5.out 0
          have hr1 := blk_cell NA5.out 1
          simp at hr0 hr1
          go_wp2
          refine bodyPost_ret (results_cell_row rfl _ _ gr 74 _ (0, 0) _ rfl (blk_set (blk_set NA5.out 0 _) 1 _) hu74 rfl rfl) rfl ⟨_, rfl, Kd.R_nil _ _ _ _ _, ?_⟩
          exact below_of_set2 HB5.out HG.out
/-- The reference's GetTree, as a Lean function: of strings and numbers of classes that are not too large. -/
def wringerref15_GetTree.f (s : ByteArray) (n sh : Int) : Option (List Int × Int) := if n < 0 ∨ 4096 < n ∨ mayS sh = false then some ([], 1) else if s.size ≤ 1000000000 ∧ n ≤ 1000 then some ((getS s n.toNat sh).1, ((getS s n.toNat sh).2 : Int)) else none
theorem wringerref15_GetTree.calls (a0 : ByteArray) (a1 a2 : Int) (r1 : List Int) (r2 : Int) (w : World) (h : wringerref15_GetTree.f a0 a1 a2 = some (r1, r2)) :
    Calls Try.prog 41 #[.string a0, .int .i64 a1, .int .i64 a2] w fun e w' => ∃ v0_ : Value, e = .returned (.agg #[v0_, .int .i64 r2]) ∧ Kd.R (Kd.int .i64) 3 w' w.heap.size (fun _ => True) v0_ r1 ∧ Below w.heap.size w w' := by
  unfold wringerref15_GetTree.f at h
  by_cases hb : a1 < 0 ∨ 4096 < a1 ∨ mayS a2 = false
  · rw [if_pos hb] at h
    injection h with h
    injection h with h1 h2
    subst h1 h2
    exact rget.out a0 a1 a2 w hb
  · rw [if_neg hb] at h
    by_cases hs : a0.size ≤ 1000000000 ∧ a1 ≤ 1000
    · rw [if_pos hs] at h
      injection h with h
      injection h with h1 h2
      subst h1 h2
      obtain ⟨n, rfl⟩ : ∃ n : Nat, a1 = (n : Int) := ⟨a1.toNat, by omega⟩
      rw [Int.toNat_natCast]
      have hms : mayS a2 = true := by
        cases hm : mayS a2
        · exact absurd (Or.inr (Or.inr hm)) hb
        · rfl
      exact rget.main a0 n a2 w ⟨hs.1⟩ (by omega) hms
    · rw [if_neg hs] at h
      cases h
end Go.Proofs.Ytgldblakdhalkaa
/- What the laws of the tree share: a list is the same as itself, classes by numbers, rounds. No program in it but the printed Lean functions. -/
namespace Go.Proofs.Ytgldblakdhalkaa
set_option linter.unusedVariables false
open Go.RowKit Go.Proofs.YtgldblakdhalkaaW.PrintWords Go.Proofs.YtgldblakdhalkaaW.PrintLast Go.Proofs.YtgldblakdhalkaaW.PrintMore Go.Proofs.Ytgldblakdhalkaa.PBase
theorem same_loop (l : List Int) (hl : l.length ≤ 1000000) : ∀ (k i : Nat), l.length - i < k → i ≤ l.length → wringerref7_SameInts.l0 k l l (i : Int) = some true
  | 0, i, h, _ => by omega
  | k + 1, i, h, hi => by
    unfold wringerref7_SameInts.l0
    by_cases hil : i < l.length
    · rw [if_pos (by omega), if_pos (by omega), if_pos (by omega), if_pos rfl]
      have e : wrap64 ((i : Int) + 1) = ((i + 1 : Nat) : Int) := by unfold wrap64; omega
      rw [e]
      exact same_loop l hl k (i + 1) (by omega) hil
    · rw [if_neg (by omega)]
theorem same_self (l : List Int) (hl : l.length ≤ 1000000) (k : Nat) (hk : l.length < k) : wringerref7_SameInts.f k l l = some true := by
  unfold wringerref7_SameInts.f
  rw [if_pos rfl]
  exact same_loop l hl k 0 (by omega) (Nat.zero_le _)
theorem nodes_up (c : Int) (r : List Int × List Int) (h : tree_Nodes.f 30 c = some r) : ∀ d, tree_Nodes.f (30 + d) c = some r
  | 0 => h
  | d + 1 => tree_Nodes.mono c (30 + d) r (nodes_up c r h d)
theorem rnodes_up (c : Int) (r : List Int × List Int) (h : wringerref15_Nodes.f 30 c = some r) : ∀ d, wringerref15_Nodes.f (30 + d) c = some r
  | 0 => h
  | d + 1 => wringerref15_Nodes.mono c (30 + d) r (rnodes_up c r h d)
theorem awake16_one : (wringerlaw16_awake.f 30 == some true) = true := by decide +kernel
theorem awake16_up : ∀ d, wringerlaw16_awake.f (30 + d) = some true
  | 0 => eq_of_beq awake16_one
  | d + 1 => wringerlaw16_awake.mono (30 + d) true (awake16_up d)
theorem awake16 (k : Nat) (h : 30 ≤ k) : wringerlaw16_awake.f k = some true := by
  obtain ⟨d, rfl⟩ := Nat.exists_eq_add_of_le h
  exact awake16_up d
/-- Both tell the same nodes of whatever number. -/
theorem nodes_any (c : Int) (k : Nat) (h : 30 ≤ k) : ∃ r : List Int × List Int, tree_Nodes.f k c = some r ∧ wringerref15_Nodes.f k c = some r ∧ r.1.length ≤ 7 ∧ r.2.length ≤ 7 := by
  obtain ⟨d, rfl⟩ := Nat.exists_eq_add_of_le h
  cases hc : isC c
  · obtain ⟨h1, h2⟩ := nodes_no c hc
    exact ⟨([], []), nodes_up c _ h1 d, rnodes_up c _ h2 d, by decide, by decide⟩
  · obtain ⟨n, rfl, hn⟩ := isC_nat hc
    obtain ⟨h1, h2⟩ := nodes_ok n hn
    exact ⟨_, nodes_up _ _ h1 d, rnodes_up _ _ h2 d, by rw [nodesI_length]; exact Nat.le_refl _, by rw [bitsI_length]; exact Nat.le_refl _⟩
theorem u8_rd (l : List Int) (h : ∀ x ∈ l, (Lit.int .u8 x).wf = true) (i : Int) : 0 ≤ rd l i ∧ rd l i ≤ 255 := by
  unfold rd
  rw [List.getD_eq_getElem?_getD]
  by_cases hi : i.toNat < l.length
  · rw [List.getElem?_eq_getElem hi]
    have := h _ (List.getElem_mem hi)
    simp only [Lit.wf, Bool.and_eq_true, decide_eq_true_eq] at this
    exact this
  · rw [List.getElem?_eq_none (by omega)]
    exact ⟨by decide, by decide⟩
theorem classes_loop (x : List Int) (hx : ∀ y ∈ x, (Lit.int .u8 y).wf = true) : ∀ (k : Nat) (i : Nat) (l : List Int), 60 - i < k → i ≤ 60 → l.length = i → (∀ (j : Nat) (c : Int), l[j]? = some c → isC c = true) →
    ∃ r, wringerlaw16_Classes.l0 k x l (i : Int) = some r ∧ r.length ≤ 60 ∧ ∀ (j : Nat) (c : Int), r[j]? = some c → isC c = true
  | 0, i, l, h, _, _, _ => by omega
  | k + 1, i, l, h, hi, hl, hc => by
    unfold wringerlaw16_Classes.l0
    by_cases hil : (i : Int) < (x.length : Int)
    · rw [if_pos hil]
      by_cases h60 : i < 60
      · rw [if_pos (by omega), if_pos (by omega), if_pos (by omega)]
        have e : wrap64 ((i : Int) + 1) = ((i + 1 : Nat) : Int) := by unfold wrap64; omega
        rw [e]
        refine classes_loop x hx k (i + 1) _ (by omega) (by omega) (by rw [List.length_append, hl]; rfl) ?_
        intro j c hj
        by_cases hjl : j < l.length
        · rw [List.getElem?_append_left hjl] at hj
          exact hc j c hj
        · rw [List.getElem?_append_right (by omega)] at hj
          have h0 : j - l.length = 0 := by
            rcases Nat.eq_zero_or_pos (j - l.length) with h0 | h0
            · exact h0
            · rw [List.getElem?_eq_none (by show 1 ≤ _; omega)] at hj; cases hj
          rw [h0] at hj
          have hj2 : wrap64 (Int.tmod (rd x (i : Int)) 65) = c := by simpa using hj
          obtain ⟨h1, h2⟩ := u8_rd x hx (i : Int)
          rw [Int.tmod_eq_emod_of_nonneg h1] at hj2
          have h3 : wrap64 (rd x (i : Int) % 65) = rd x (i : Int) % 65 := by unfold wrap64; omega
          rw [h3] at hj2
          rw [← hj2]
          unfold isC
          rw [decide_eq_true (by omega), decide_eq_true (by omega)]
          rfl
      · rw [if_neg (by omega)]
        exact ⟨l, rfl, by omega, hc⟩
    · rw [if_neg hil]
      exact ⟨l, rfl, by omega, hc⟩
theorem classes_some (x : List Int) (hx : ∀ y ∈ x, (Lit.int .u8 y).wf = true) (k : Nat) (hk : 61 ≤ k) : ∃ r, wringerlaw16_Classes.f k x = some r ∧ r.length ≤ 60 ∧ ∀ (j : Nat) (c : Int), r[j]? = some c → isC c = true :=
  classes_loop x hx k 0 [] (by omega) (by omega) rfl (fun j c h => by simp at h)
end Go.Proofs.Ytgldblakdhalkaa
