/- The plain statement behind XxhSteps: each step leads two numbers to two. Conditions: the arguments are of their Go kinds. -/
import Derived.Test.YtckjigbhdndgdaaPXxhStepsx1
import Derived.Test.YtckjigbhdndgdaaXsum
namespace Go.Proofs.Ytckjigbhdndgdaa.Pure
open Go.RowKit Go.Proofs.Ytckjigbhdndgdaa Go.Proofs.Ytckjigbhdndgdaa.PBits Go.Proofs.Ytckjigbhdndgdaa.PRef Go.Proofs.Ytckjigbhdndgdaa.PXawk Go.Proofs.Ytckjigbhdndgdaa.PXxhSteps Go.Proofs.YtckjigbhdndgdaaW.PrintWords Go.Proofs.YtckjigbhdndgdaaW.PrintLast Go.Proofs.YtckjigbhdndgdaaW.PrintMore
set_option linter.unusedVariables false
set_option linter.unusedSimpArgs false

theorem u64_nat (a : Int) (h : (Lit.int .u64 a).wf = true) : ∃ n : Nat, n < 18446744073709551616 ∧ a = (n : Int) := by
  simp only [Lit.wf, Bool.and_eq_true, decide_eq_true_eq] at h
  have h0 : 0 ≤ a := h.1
  have h1 : a ≤ 18446744073709551615 := h.2
  exact ⟨a.toNat, by omega, by omega⟩
set_option maxRecDepth 100000 in
theorem awake_val : wringerlaw5_awake.f 60 = some true := by decide +kernel
theorem awake_at (k : Nat) (h : 60 ≤ k) : wringerlaw5_awake.f k = some true := at_rounds wringerlaw5_awake.mono h awake_val

/-- An odd factor leads two numbers to two. -/
theorem mul_inj (p q : Nat) (hpq : p * q % 18446744073709551616 = 1) (x y : Nat) (hx : x < 18446744073709551616) (hy : y < 18446744073709551616) (h : x * p % 18446744073709551616 = y * p % 18446744073709551616) : x = y := by
  have back : ∀ z : Nat, z < 18446744073709551616 → z * p % 18446744073709551616 * q % 18446744073709551616 = z := by
    intro z hz
    rw [Nat.mod_mul_mod, Nat.mul_assoc, ← Nat.mul_mod_mod, hpq, Nat.mul_one, Nat.mod_eq_of_lt hz]
  rw [← back x hx, ← back y hy, h]
theorem add_inj (p : Nat) (hp : p < 18446744073709551616) (x y : Nat) (hx : x < 18446744073709551616) (hy : y < 18446744073709551616) (h : (x + p) % 18446744073709551616 = (y + p) % 18446744073709551616) : x = y := by omega
theorem xor_inj (p x y : Nat) (h : x ^^^ p = y ^^^ p) : x = y := by
  have := congrArg (· ^^^ p) h
  simpa [Nat.xor_assoc] using this
theorem rot_inj (n x y : Nat) (hn : n < 64) (hx : x < 18446744073709551616) (hy : y < 18446744073709551616) (h : rotN x n = rotN y n) : x = y := by
  have e64 : (18446744073709551616 : Nat) = 2 ^ (64 - n) * 2 ^ n := by rw [← Nat.pow_add, Nat.sub_add_cancel (by omega)]
  have hlt : ∀ z : Nat, z < 18446744073709551616 → z / 2 ^ (64 - n) < 2 ^ n := fun z hz => Nat.div_lt_of_lt_mul (by rw [← e64]; exact hz)
  have lo : ∀ z : Nat, z < 18446744073709551616 → rotN z n % 2 ^ n = z / 2 ^ (64 - n) := by
    intro z hz
    unfold rotN
    rw [Nat.add_comm, Nat.add_mul_mod_self_right, Nat.mod_eq_of_lt (hlt z hz)]
  have hi : ∀ z : Nat, z < 18446744073709551616 → rotN z n / 2 ^ n = z % 2 ^ (64 - n) := by
    intro z hz
    unfold rotN
    rw [Nat.add_comm, Nat.add_mul_div_right _ _ (Nat.two_pow_pos _), Nat.div_eq_of_lt (hlt z hz), Nat.zero_add]
  have h1 := lo x hx
  have h2 := hi x hx
  rw [h, lo y hy] at h1
  rw [h, hi y hy] at h2
  rw [← Nat.div_add_mod x (2 ^ (64 - n)), ← Nat.div_add_mod y (2 ^ (64 - n)), h1, h2]
theorem shift_inj (s x y : Nat) (hs : 1 < s) (h : x ^^^ x / 2 ^ s = y ^^^ y / 2 ^ s) : x = y := by
  have e : (x ^^^ y) = (x ^^^ y) / 2 ^ s := by
    have h1 : (x ^^^ y) / 2 ^ s = x / 2 ^ s ^^^ y / 2 ^ s := by
      rw [← Nat.shiftRight_eq_div_pow, ← Nat.shiftRight_eq_div_pow, ← Nat.shiftRight_eq_div_pow, Nat.shiftRight_xor_distrib]
    rw [h1]
    have h2 : x = (y ^^^ y / 2 ^ s) ^^^ x / 2 ^ s := by
      rw [← h]
      simp [Nat.xor_assoc]
    conv => lhs; rw [h2]
    generalize x / 2 ^ s = a
    generalize y / 2 ^ s = b
    rw [Nat.xor_comm y b, Nat.xor_assoc, Nat.xor_assoc, Nat.xor_comm a y, ← Nat.xor_assoc y y a, Nat.xor_self, Nat.zero_xor, Nat.xor_comm]
  have h3 : x ^^^ y = 0 := by
    rcases Nat.eq_zero_or_pos (x ^^^ y) with hz | hz
    · exact hz
    · have : (x ^^^ y) / 2 ^ s < x ^^^ y := Nat.div_lt_self hz (by exact Nat.one_lt_two_pow (by omega))
      omega
  have h4 : x = x ^^^ y ^^^ y := by simp [Nat.xor_assoc]
  rw [h4, h3, Nat.zero_xor]
theorem pq1 : 11400714785074694791 * 614540362697595703 % 18446744073709551616 = 1 := by decide
theorem mul1 (x y : Nat) (hx : x < 18446744073709551616) (hy : y < 18446744073709551616) (h : x * 11400714785074694791 % 18446744073709551616 = y * 11400714785074694791 % 18446744073709551616) : x = y := mul_inj 11400714785074694791 _ pq1 x y hx hy h
theorem pq2 : 14029467366897019727 * 839798700976720815 % 18446744073709551616 = 1 := by decide
theorem mul2 (x y : Nat) (hx : x < 18446744073709551616) (hy : y < 18446744073709551616) (h : x * 14029467366897019727 % 18446744073709551616 = y * 14029467366897019727 % 18446744073709551616) : x = y := mul_inj 14029467366897019727 _ pq2 x y hx hy h
theorem pq3 : 1609587929392839161 * 16855272203555305545 % 18446744073709551616 = 1 := by decide
theorem mul3 (x y : Nat) (hx : x < 18446744073709551616) (hy : y < 18446744073709551616) (h : x * 1609587929392839161 % 18446744073709551616 = y * 1609587929392839161 % 18446744073709551616) : x = y := mul_inj 1609587929392839161 _ pq3 x y hx hy h
theorem pq5 : 2870177450012600261 * 14236653164957433613 % 18446744073709551616 = 1 := by decide
theorem mul5 (x y : Nat) (hx : x < 18446744073709551616) (hy : y < 18446744073709551616) (h : x * 2870177450012600261 % 18446744073709551616 = y * 2870177450012600261 % 18446744073709551616) : x = y := mul_inj 2870177450012600261 _ pq5 x y hx hy h
theorem shift32 (x y : Nat) (h : x ^^^ x / 4294967296 = y ^^^ y / 4294967296) : x = y := shift_inj 32 x y (by omega) h
theorem shift29 (x y : Nat) (h : x ^^^ x / 536870912 = y ^^^ y / 536870912) : x = y := shift_inj 29 x y (by omega) h
theorem shift33 (x y : Nat) (h : x ^^^ x / 8589934592 = y ^^^ y / 8589934592) : x = y := shift_inj 33 x y (by omega) h
theorem sh_lt (z s : Nat) (hz : z < 18446744073709551616) : z ^^^ z / s < 18446744073709551616 := xor_lt _ _ hz (Nat.lt_of_le_of_lt (Nat.div_le_self _ _) hz)
def m1 (h : Nat) : Nat := (h ^^^ h / 8589934592) * 14029467366897019727 % 18446744073709551616
def m2 (h : Nat) : Nat := (h ^^^ h / 536870912) * 1609587929392839161 % 18446744073709551616
def m3 (h : Nat) : Nat := h ^^^ h / 4294967296
theorem mixN_eq (h : Nat) : mixN h = m3 (m2 (m1 h)) := by
  unfold mixN m3 m2 m1
  rfl
theorem m1_inj (x y : Nat) (hx : x < 18446744073709551616) (hy : y < 18446744073709551616) (h : m1 x = m1 y) : x = y := by
  have hx' := sh_lt x 8589934592 hx
  have hy' := sh_lt y 8589934592 hy
  refine shift33 x y ?_
  unfold m1 at h
  generalize x ^^^ x / 8589934592 = p at *
  generalize y ^^^ y / 8589934592 = q at *
  exact mul2 p q hx' hy' h
theorem m2_inj (x y : Nat) (hx : x < 18446744073709551616) (hy : y < 18446744073709551616) (h : m2 x = m2 y) : x = y := by
  have hx' := sh_lt x 536870912 hx
  have hy' := sh_lt y 536870912 hy
  refine shift29 x y ?_
  unfold m2 at h
  generalize x ^^^ x / 536870912 = p at *
  generalize y ^^^ y / 536870912 = q at *
  exact mul3 p q hx' hy' h
theorem m3_inj (x y : Nat) (h : m3 x = m3 y) : x = y := by
  unfold m3 at h
  exact shift32 x y h
theorem m1_lt (x : Nat) : m1 x < 18446744073709551616 := by
  unfold m1
  exact md _
theorem mix_inj (x y : Nat) (hx : x < 18446744073709551616) (hy : y < 18446744073709551616) (h : mixN x = mixN y) : x = y := by
  rw [mixN_eq, mixN_eq] at h
  exact m1_inj x y hx hy (m2_inj (m1 x) (m1 y) (m1_lt x) (m1_lt y) (m3_inj (m2 (m1 x)) (m2 (m1 y)) h))
theorem add_r (a p q : Nat) (h : (a + p % 18446744073709551616) % 18446744073709551616 = (a + q % 18446744073709551616) % 18446744073709551616) : p % 18446744073709551616 = q % 18446744073709551616 := by omega
theorem add_l (x y p : Nat) (hx : x < 18446744073709551616) (hy : y < 18446744073709551616) (h : (x + p % 18446744073709551616) % 18446744073709551616 = (y + p % 18446744073709551616) % 18446744073709551616) : x = y := by omega
theorem rnd_inj_r (a x y : Nat) (hx : x < 18446744073709551616) (hy : y < 18446744073709551616) (h : rnd a x = rnd a y) : x = y := by
  unfold rnd at h
  have hh := rot_inj 31 _ _ (by decide) (md _) (md _) (mul1 _ _ (rotN_lt _ 31 (md _) (by decide)) (rotN_lt _ 31 (md _) (by decide)) h)
  exact mul2 x y hx hy (add_r a _ _ hh)
theorem rnd_inj_l (x y a : Nat) (hx : x < 18446744073709551616) (hy : y < 18446744073709551616) (h : rnd x a = rnd y a) : x = y := by
  unfold rnd at h
  have hh := rot_inj 31 _ _ (by decide) (md _) (md _) (mul1 _ _ (rotN_lt _ 31 (md _) (by decide)) (rotN_lt _ 31 (md _) (by decide)) h)
  exact add_l x y _ hx hy hh
theorem byteN_inj_h (x y c : Nat) (hx : x < 18446744073709551616) (hy : y < 18446744073709551616) (h : byteN x c = byteN y c) : x = y := by
  unfold byteN at h
  exact xor_inj _ _ _ (rot_inj 11 _ _ (by decide) (xx _ _ hx) (xx _ _ hy) (mul1 _ _ (rotN_lt _ 11 (xx _ _ hx) (by decide)) (rotN_lt _ 11 (xx _ _ hy) (by decide)) h))
theorem byteN_inj_c (h x y : Nat) (hh : h < 18446744073709551616) (hx : x < 18446744073709551616) (hy : y < 18446744073709551616) (e : byteN h x = byteN h y) : x = y := by
  unfold byteN at e
  have h2 := rot_inj 11 _ _ (by decide) (xx _ _ hh) (xx _ _ hh) (mul1 _ _ (rotN_lt _ 11 (xx _ _ hh) (by decide)) (rotN_lt _ 11 (xx _ _ hh) (by decide)) e)
  rw [Nat.xor_comm, Nat.xor_comm h] at h2
  exact mul5 x y hx hy (xor_inj _ _ _ h2)

theorem beq_iff (a b c d : Int) (h : a = b ↔ c = d) : ((a == b) == (c == d)) = true := by
  by_cases e : c = d
  · have := h.2 e
    subst e
    subst this
    simp
  · have h2 : ¬ a = b := fun x => e (h.1 x)
    rw [beq_eq_false_iff_ne.2 e, beq_eq_false_iff_ne.2 h2]
    rfl
theorem nat_iff (f : Nat → Nat) (x y : Nat) (h : f x = f y → x = y) : ((f x : Int) = (f y : Int)) ↔ ((x : Int) = (y : Int)) := by
  constructor
  · intro e
    rw [h (Int.ofNat.inj e)]
  · intro e
    rw [Int.ofNat.inj e]
theorem XxhSteps : wringerlaw5_XxhSteps.Pure := by
  intro a0 a1 a2 h0 h1 h2
  obtain ⟨a, ha, rfl⟩ := u64_nat a0 h0
  obtain ⟨b, hb, rfl⟩ := u64_nat a1 h1
  obtain ⟨c, hc, rfl⟩ := u64_nat a2 h2
  refine ⟨60, ?_⟩
  unfold wringerlaw5_XxhSteps.f
  rw [mix_val a ha, Option.bind_some, mix_val b hb, Option.bind_some, if_pos (beq_iff _ _ _ _ (nat_iff mixN a b (mix_inj a b ha hb))), round_val, Option.bind_some, round_val, Option.bind_some,
    if_pos (beq_iff _ _ _ _ (nat_iff (rnd c) a b (rnd_inj_r c a b ha hb))), round_val, Option.bind_some, round_val, Option.bind_some, if_pos (beq_iff _ _ _ _ (nat_iff (fun x => rnd x c) a b (rnd_inj_l a b c ha hb))), awake_val]
  rfl
end Go.Proofs.Ytckjigbhdndgdaa.Pure
