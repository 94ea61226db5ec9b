/- The plain statement behind XxhLast: another last byte makes another sum, so does another seed of few bytes. Conditions: the arguments are of their Go kinds. -/
import Derived.Test.YtckjigbhdndgdaaPXxhLastx1
import Derived.Test.YtckjigbhdndgdaaXsum
namespace Go.Proofs.Ytckjigbhdndgdaa.Pure
open Go.RowKit Go.Proofs.Ytckjigbhdndgdaa Go.Proofs.Ytckjigbhdndgdaa.PBits Go.Proofs.Ytckjigbhdndgdaa.PRef Go.Proofs.Ytckjigbhdndgdaa.PXawk Go.Proofs.Ytckjigbhdndgdaa.PXxhLast Go.Proofs.YtckjigbhdndgdaaW.PrintWords Go.Proofs.YtckjigbhdndgdaaW.PrintLast Go.Proofs.YtckjigbhdndgdaaW.PrintMore
set_option linter.unusedVariables false
set_option linter.unusedSimpArgs false

theorem u64_nat (a : Int) (h : (Lit.int .u64 a).wf = true) : ∃ n : Nat, n < 18446744073709551616 ∧ a = (n : Int) := by
  simp only [Lit.wf, Bool.and_eq_true, decide_eq_true_eq] at h
  have h0 : 0 ≤ a := h.1
  have h1 : a ≤ 18446744073709551615 := h.2
  exact ⟨a.toNat, by omega, by omega⟩
set_option maxRecDepth 100000 in
theorem awake_val : wringerlaw5_awake.f 60 = some true := by decide +kernel
theorem awake_at (k : Nat) (h : 60 ≤ k) : wringerlaw5_awake.f k = some true := at_rounds wringerlaw5_awake.mono h awake_val

/-- An odd factor leads two numbers to two. -/
theorem mul_inj (p q : Nat) (hpq : p * q % 18446744073709551616 = 1) (x y : Nat) (hx : x < 18446744073709551616) (hy : y < 18446744073709551616) (h : x * p % 18446744073709551616 = y * p % 18446744073709551616) : x = y := by
  have back : ∀ z : Nat, z < 18446744073709551616 → z * p % 18446744073709551616 * q % 18446744073709551616 = z := by
    intro z hz
    rw [Nat.mod_mul_mod, Nat.mul_assoc, ← Nat.mul_mod_mod, hpq, Nat.mul_one, Nat.mod_eq_of_lt hz]
  rw [← back x hx, ← back y hy, h]
theorem add_inj (p : Nat) (hp : p < 18446744073709551616) (x y : Nat) (hx : x < 18446744073709551616) (hy : y < 18446744073709551616) (h : (x + p) % 18446744073709551616 = (y + p) % 18446744073709551616) : x = y := by omega
theorem xor_inj (p x y : Nat) (h : x ^^^ p = y ^^^ p) : x = y := by
  have := congrArg (· ^^^ p) h
  simpa [Nat.xor_assoc] using this
theorem rot_inj (n x y : Nat) (hn : n < 64) (hx : x < 18446744073709551616) (hy : y < 18446744073709551616) (h : rotN x n = rotN y n) : x = y := by
  have e64 : (18446744073709551616 : Nat) = 2 ^ (64 - n) * 2 ^ n := by rw [← Nat.pow_add, Nat.sub_add_cancel (by omega)]
  have hlt : ∀ z : Nat, z < 18446744073709551616 → z / 2 ^ (64 - n) < 2 ^ n := fun z hz => Nat.div_lt_of_lt_mul (by rw [← e64]; exact hz)
  have lo : ∀ z : Nat, z < 18446744073709551616 → rotN z n % 2 ^ n = z / 2 ^ (64 - n) := by
    intro z hz
    unfold rotN
    rw [Nat.add_comm, Nat.add_mul_mod_self_right, Nat.mod_eq_of_lt (hlt z hz)]
  have hi : ∀ z : Nat, z < 18446744073709551616 → rotN z n / 2 ^ n = z % 2 ^ (64 - n) := by
    intro z hz
    unfold rotN
    rw [Nat.add_comm, Nat.add_mul_div_right _ _ (Nat.two_pow_pos _), Nat.div_eq_of_lt (hlt z hz), Nat.zero_add]
  have h1 := lo x hx
  have h2 := hi x hx
  rw [h, lo y hy] at h1
  rw [h, hi y hy] at h2
  rw [← Nat.div_add_mod x (2 ^ (64 - n)), ← Nat.div_add_mod y (2 ^ (64 - n)), h1, h2]
theorem shift_inj (s x y : Nat) (hs : 1 < s) (h : x ^^^ x / 2 ^ s = y ^^^ y / 2 ^ s) : x = y := by
  have e : (x ^^^ y) = (x ^^^ y) / 2 ^ s := by
    have h1 : (x ^^^ y) / 2 ^ s = x / 2 ^ s ^^^ y / 2 ^ s := by
      rw [← Nat.shiftRight_eq_div_pow, ← Nat.shiftRight_eq_div_pow, ← Nat.shiftRight_eq_div_pow, Nat.shiftRight_xor_distrib]
    rw [h1]
    have h2 : x = (y ^^^ y / 2 ^ s) ^^^ x / 2 ^ s := by
      rw [← h]
      simp [Nat.xor_assoc]
    conv => lhs; rw [h2]
    generalize x / 2 ^ s = a
    generalize y / 2 ^ s = b
    rw [Nat.xor_comm y b, Nat.xor_assoc, Nat.xor_assoc, Nat.xor_comm a y, ← Nat.xor_assoc y y a, Nat.xor_self, Nat.zero_xor, Nat.xor_comm]
  have h3 : x ^^^ y = 0 := by
    rcases Nat.eq_zero_or_pos (x ^^^ y) with hz | hz
    · exact hz
    · have : (x ^^^ y) / 2 ^ s < x ^^^ y := Nat.div_lt_self hz (by exact Nat.one_lt_two_pow (by omega))
      omega
  have h4 : x = x ^^^ y ^^^ y := by simp [Nat.xor_assoc]
  rw [h4, h3, Nat.zero_xor]
theorem pq1 : 11400714785074694791 * 614540362697595703 % 18446744073709551616 = 1 := by decide
theorem mul1 (x y : Nat) (hx : x < 18446744073709551616) (hy : y < 18446744073709551616) (h : x * 11400714785074694791 % 18446744073709551616 = y * 11400714785074694791 % 18446744073709551616) : x = y := mul_inj 11400714785074694791 _ pq1 x y hx hy h
theorem pq2 : 14029467366897019727 * 839798700976720815 % 18446744073709551616 = 1 := by decide
theorem mul2 (x y : Nat) (hx : x < 18446744073709551616) (hy : y < 18446744073709551616) (h : x * 14029467366897019727 % 18446744073709551616 = y * 14029467366897019727 % 18446744073709551616) : x = y := mul_inj 14029467366897019727 _ pq2 x y hx hy h
theorem pq3 : 1609587929392839161 * 16855272203555305545 % 18446744073709551616 = 1 := by decide
theorem mul3 (x y : Nat) (hx : x < 18446744073709551616) (hy : y < 18446744073709551616) (h : x * 1609587929392839161 % 18446744073709551616 = y * 1609587929392839161 % 18446744073709551616) : x = y := mul_inj 1609587929392839161 _ pq3 x y hx hy h
theorem pq5 : 2870177450012600261 * 14236653164957433613 % 18446744073709551616 = 1 := by decide
theorem mul5 (x y : Nat) (hx : x < 18446744073709551616) (hy : y < 18446744073709551616) (h : x * 2870177450012600261 % 18446744073709551616 = y * 2870177450012600261 % 18446744073709551616) : x = y := mul_inj 2870177450012600261 _ pq5 x y hx hy h
theorem shift32 (x y : Nat) (h : x ^^^ x / 4294967296 = y ^^^ y / 4294967296) : x = y := shift_inj 32 x y (by omega) h
theorem shift29 (x y : Nat) (h : x ^^^ x / 536870912 = y ^^^ y / 536870912) : x = y := shift_inj 29 x y (by omega) h
theorem shift33 (x y : Nat) (h : x ^^^ x / 8589934592 = y ^^^ y / 8589934592) : x = y := shift_inj 33 x y (by omega) h
theorem sh_lt (z s : Nat) (hz : z < 18446744073709551616) : z ^^^ z / s < 18446744073709551616 := xor_lt _ _ hz (Nat.lt_of_le_of_lt (Nat.div_le_self _ _) hz)
def m1 (h : Nat) : Nat := (h ^^^ h / 8589934592) * 14029467366897019727 % 18446744073709551616
def m2 (h : Nat) : Nat := (h ^^^ h / 536870912) * 1609587929392839161 % 18446744073709551616
def m3 (h : Nat) : Nat := h ^^^ h / 4294967296
theorem mixN_eq (h : Nat) : mixN h = m3 (m2 (m1 h)) := by
  unfold mixN m3 m2 m1
  rfl
theorem m1_inj (x y : Nat) (hx : x < 18446744073709551616) (hy : y < 18446744073709551616) (h : m1 x = m1 y) : x = y := by
  have hx' := sh_lt x 8589934592 hx
  have hy' := sh_lt y 8589934592 hy
  refine shift33 x y ?_
  unfold m1 at h
  generalize x ^^^ x / 8589934592 = p at *
  generalize y ^^^ y / 8589934592 = q at *
  exact mul2 p q hx' hy' h
theorem m2_inj (x y : Nat) (hx : x < 18446744073709551616) (hy : y < 18446744073709551616) (h : m2 x = m2 y) : x = y := by
  have hx' := sh_lt x 536870912 hx
  have hy' := sh_lt y 536870912 hy
  refine shift29 x y ?_
  unfold m2 at h
  generalize x ^^^ x / 536870912 = p at *
  generalize y ^^^ y / 536870912 = q at *
  exact mul3 p q hx' hy' h
theorem m3_inj (x y : Nat) (h : m3 x = m3 y) : x = y := by
  unfold m3 at h
  exact shift32 x y h
theorem m1_lt (x : Nat) : m1 x < 18446744073709551616 := by
  unfold m1
  exact md _
theorem mix_inj (x y : Nat) (hx : x < 18446744073709551616) (hy : y < 18446744073709551616) (h : mixN x = mixN y) : x = y := by
  rw [mixN_eq, mixN_eq] at h
  exact m1_inj x y hx hy (m2_inj (m1 x) (m1 y) (m1_lt x) (m1_lt y) (m3_inj (m2 (m1 x)) (m2 (m1 y)) h))
theorem add_r (a p q : Nat) (h : (a + p % 18446744073709551616) % 18446744073709551616 = (a + q % 18446744073709551616) % 18446744073709551616) : p % 18446744073709551616 = q % 18446744073709551616 := by omega
theorem add_l (x y p : Nat) (hx : x < 18446744073709551616) (hy : y < 18446744073709551616) (h : (x + p % 18446744073709551616) % 18446744073709551616 = (y + p % 18446744073709551616) % 18446744073709551616) : x = y := by omega
theorem rnd_inj_r (a x y : Nat) (hx : x < 18446744073709551616) (hy : y < 18446744073709551616) (h : rnd a x = rnd a y) : x = y := by
  unfold rnd at h
  have hh := rot_inj 31 _ _ (by decide) (md _) (md _) (mul1 _ _ (rotN_lt _ 31 (md _) (by decide)) (rotN_lt _ 31 (md _) (by decide)) h)
  exact mul2 x y hx hy (add_r a _ _ hh)
theorem rnd_inj_l (x y a : Nat) (hx : x < 18446744073709551616) (hy : y < 18446744073709551616) (h : rnd x a = rnd y a) : x = y := by
  unfold rnd at h
  have hh := rot_inj 31 _ _ (by decide) (md _) (md _) (mul1 _ _ (rotN_lt _ 31 (md _) (by decide)) (rotN_lt _ 31 (md _) (by decide)) h)
  exact add_l x y _ hx hy hh
theorem byteN_inj_h (x y c : Nat) (hx : x < 18446744073709551616) (hy : y < 18446744073709551616) (h : byteN x c = byteN y c) : x = y := by
  unfold byteN at h
  exact xor_inj _ _ _ (rot_inj 11 _ _ (by decide) (xx _ _ hx) (xx _ _ hy) (mul1 _ _ (rotN_lt _ 11 (xx _ _ hx) (by decide)) (rotN_lt _ 11 (xx _ _ hy) (by decide)) h))
theorem byteN_inj_c (h x y : Nat) (hh : h < 18446744073709551616) (hx : x < 18446744073709551616) (hy : y < 18446744073709551616) (e : byteN h x = byteN h y) : x = y := by
  unfold byteN at e
  have h2 := rot_inj 11 _ _ (by decide) (xx _ _ hh) (xx _ _ hh) (mul1 _ _ (rotN_lt _ 11 (xx _ _ hh) (by decide)) (rotN_lt _ 11 (xx _ _ hh) (by decide)) e)
  rw [Nat.xor_comm, Nat.xor_comm h] at h2
  exact mul5 x y hx hy (xor_inj _ _ _ h2)

theorem beq_iff (a b c d : Int) (h : a = b ↔ c = d) : ((a == b) == (c == d)) = true := by
  by_cases e : c = d
  · have := h.2 e
    subst e
    subst this
    simp
  · have h2 : ¬ a = b := fun x => e (h.1 x)
    rw [beq_eq_false_iff_ne.2 e, beq_eq_false_iff_ne.2 h2]
    rfl
theorem nat_iff (f : Nat → Nat) (x y : Nat) (h : f x = f y → x = y) : ((f x : Int) = (f y : Int)) ↔ ((x : Int) = (y : Int)) := by
  constructor
  · intro e
    rw [h (Int.ofNat.inj e)]
  · intro e
    rw [Int.ofNat.inj e]

theorem part_same (s t : ByteArray) (m : Nat) (h : ∀ i, i < m → bn s i = bn t i) (i j : Nat) (hi : i + j ≤ m) : part s i j = part t i j := part_congr s t i i j (fun q hq => h _ (by omega))
theorem lanes_same (s t : ByteArray) (m : Nat) (h : ∀ i, i < m → bn s i = bn t i) : ∀ (q p : Nat) (x : Four), p + 32 * q ≤ m → lanesN s x p q = lanesN t x p q := by
  intro q
  induction q with
  | zero => intro p x _; rw [lanesN_zero, lanesN_zero]
  | succ q ih =>
    intro p x hp
    have e : stepN s x p = stepN t x p := by
      unfold stepN
      rw [part_same s t m h p 8 (by omega), part_same s t m h (p + 8) 8 (by omega), part_same s t m h (p + 16) 8 (by omega), part_same s t m h (p + 24) 8 (by omega)]
    rw [lanesN_succ, lanesN_succ, e]
    exact ih (p + 32) _ (by omega)
theorem words_same (s t : ByteArray) (m : Nat) (h : ∀ i, i < m → bn s i = bn t i) : ∀ (q p x : Nat), p + 8 * q ≤ m → wordsN s x p q = wordsN t x p q := by
  intro q
  induction q with
  | zero => intro p x _; rw [wordsN_zero, wordsN_zero]
  | succ q ih =>
    intro p x hp
    rw [wordsN_succ, wordsN_succ, part_same s t m h p 8 (by omega)]
    exact ih (p + 8) _ (by omega)
theorem bytesN_one (s : ByteArray) (h i : Nat) : bytesN s h i 1 = byteN h (bn s i) := by
  rw [bytesN, bytesN]
theorem rest_last (s t : ByteArray) (m : Nat) (h : ∀ i, i < m → bn s i = bn t i) (p n x : Nat) (hx : x < 18446744073709551616) (hp : p + n = m + 1) (hn : n % 4 = 1) :
    ∃ y, y < 18446744073709551616 ∧ restN s x p n = byteN y (bn s m) ∧ restN t x p n = byteN y (bn t m) := by
  unfold restN
  rw [words_same s t m h (n / 8) p x (by omega)]
  have hy := wordsN_lt t (n / 8) x p hx
  generalize wordsN t x p (n / 8) = y at *
  unfold endN
  by_cases h5 : 4 ≤ n % 8
  · have e : n % 8 - 4 = 1 := by omega
    have e2 : p + 8 * (n / 8) + 4 = m := by omega
    rw [if_pos h5, if_pos h5, e, bytesN_one, bytesN_one, e2, part_same s t m h _ 4 (by omega)]
    exact ⟨_, fourN_lt _ _, rfl, rfl⟩
  · have e : n % 8 = 1 := by omega
    have e2 : p + 8 * (n / 8) = m := by omega
    rw [if_neg h5, if_neg h5, e, bytesN_one, bytesN_one, e2]
    exact ⟨y, hy, rfl, rfl⟩
theorem sum_last (s t : ByteArray) (m seed : Nat) (hs : seed < 18446744073709551616) (h : ∀ i, i < m → bn s i = bn t i) (h4 : m % 4 = 0) (ls : s.size = m + 1) (lt : t.size = m + 1) :
    ∃ y, y < 18446744073709551616 ∧ sumN seed s = mixN (byteN y (bn s m)) ∧ sumN seed t = mixN (byteN y (bn t m)) := by
  unfold sumN
  rw [ls, lt]
  by_cases c : m + 1 < 32
  · rw [if_pos c, if_pos c]
    obtain ⟨y, hy, e1, e2⟩ := rest_last s t m h 0 (m + 1) (addN (addN seed 2870177450012600261) (m + 1)) (addN_lt _ _) (by omega) (by omega)
    exact ⟨y, hy, by rw [e1], by rw [e2]⟩
  · rw [if_neg c, if_neg c, lanes_same s t m h ((m + 1) / 32) 0 (beginN seed) (by omega)]
    obtain ⟨y, hy, e1, e2⟩ := rest_last s t m h (32 * ((m + 1) / 32)) ((m + 1) % 32) (addN (joinN (lanesN t (beginN seed) 0 ((m + 1) / 32))) (m + 1)) (addN_lt _ _) (by omega) (by omega)
    exact ⟨y, hy, by rw [e1], by rw [e2]⟩
theorem bytesN_inj (s : ByteArray) : ∀ d i x y, x < 18446744073709551616 → y < 18446744073709551616 → bytesN s x i d = bytesN s y i d → x = y := by
  intro d
  induction d with
  | zero => intro i x y _ _ h; exact h
  | succ d ih =>
    intro i x y hx hy h
    rw [bytesN, bytesN] at h
    exact byteN_inj_h x y _ hx hy (ih _ _ _ (byteN_lt _ _) (byteN_lt _ _) h)
theorem addN_inj (p x y : Nat) (hx : x < 18446744073709551616) (hy : y < 18446744073709551616) (h : addN x p = addN y p) : x = y := by
  unfold addN at h
  omega
theorem sum_few (s : ByteArray) (hs : s.size < 4) (x y : Nat) (hx : x < 18446744073709551616) (hy : y < 18446744073709551616) (h : sumN x s = sumN y s) : x = y := by
  have e : ∀ z, sumN z s = mixN (bytesN s (addN (addN z 2870177450012600261) s.size) 0 s.size) := by
    intro z
    unfold sumN restN endN
    have e1 : s.size / 8 = 0 := by omega
    have e2 : s.size % 8 = s.size := by omega
    rw [if_pos (by omega), e1, e2, wordsN_zero, if_neg (by omega), Nat.mul_zero, Nat.zero_add]
  rw [e, e] at h
  have h1 := mix_inj _ _ (bytesN_lt _ _ _ _ (addN_lt _ _)) (bytesN_lt _ _ _ _ (addN_lt _ _)) h
  have h2 := bytesN_inj s _ _ _ _ (addN_lt _ _) (addN_lt _ _) h1
  exact addN_inj _ x y hx hy (addN_inj _ _ _ (addN_lt _ _) (addN_lt _ _) h2)
theorem u8_nat (a : Int) (h : (Lit.int .u8 a).wf = true) : ∃ n : Nat, n < 256 ∧ a = (n : Int) := by
  simp only [Lit.wf, Bool.and_eq_true, decide_eq_true_eq] at h
  have h0 : 0 ≤ a := h.1
  have h1 : a ≤ 255 := h.2
  exact ⟨a.toNat, by omega, by omega⟩
theorem one_size (x : Int) : (strOfNums [x]).size = 1 := by rw [← lst_length, lst_nums]; rfl
theorem bn_front (s t : ByteArray) (i : Nat) (h : i < s.size) : bn (s ++ t) i = bn s i := by
  unfold bn
  rw [lst_append, List.getD_eq_getElem?_getD, List.getElem?_append_left (by rw [lst_length]; exact h), ← List.getD_eq_getElem?_getD]
theorem bn_end (s : ByteArray) (n : Nat) (hn : n < 256) : bn (s ++ strOfNums [(n : Int)]) s.size = n := by
  unfold bn
  rw [lst_append, List.getD_eq_getElem?_getD, List.getElem?_append_right (by rw [lst_length]; exact Nat.le_refl _), lst_length, Nat.sub_self, lst_nums]
  show n % 256 = n
  omega
theorem XxhLast : wringerlaw5_XxhLast.Pure := by
  intro a0 a1 s a3 a4 h0 h1 _ h3 h4
  obtain ⟨seed, hseed, rfl⟩ := u64_nat a0 h0
  obtain ⟨other, hother, rfl⟩ := u64_nat a1 h1
  obtain ⟨a, ha, rfl⟩ := u8_nat a3 h3
  obtain ⟨b, hb, rfl⟩ := u8_nat a4 h4
  refine ⟨2000, ?_⟩
  have aw := awake_at 2000 (by omega)
  unfold wringerlaw5_XxhLast.f
  by_cases c : (s.size : Int) > 500
  · rw [if_pos c, aw]
    rfl
  · rw [if_neg c]
    obtain ⟨m, hm⟩ : ∃ m, s.size - s.size % 4 = m := ⟨_, rfl⟩
    have ew : wrap64 ((s.size : Int) - ((s.size : Int) % 4)) = (m : Int) := by unfold wrap64; omega
    rw [ew, if_pos (by omega), if_pos (by omega), Int.toNat_natCast]
    have hs0 : (s.extract 0 m).size = m := by rw [ByteArray.size_extract]; omega
    generalize s.extract 0 m = s0 at *
    have l1 : (s0 ++ strOfNums [(a : Int)]).size = m + 1 := by rw [ByteArray.size_append, hs0, one_size]
    have l2 : (s0 ++ strOfNums [(b : Int)]).size = m + 1 := by rw [ByteArray.size_append, hs0, one_size]
    obtain ⟨y, hy, e1, e2⟩ := sum_last (s0 ++ strOfNums [(a : Int)]) (s0 ++ strOfNums [(b : Int)]) m seed hseed (fun i hi => by rw [bn_front _ _ i (by omega), bn_front _ _ i (by omega)]) (by omega) l1 l2
    have b1 := bn_end s0 a ha
    have b2 := bn_end s0 b hb
    rw [hs0] at b1 b2
    rw [b1] at e1
    rw [b2] at e2
    simp only [Option.bind_some]
    rw [one_size, one_size, hs0, if_pos (by omega), sum_val _ seed 2000 (by omega) hseed (by omega), Option.bind_some, if_pos (by omega), sum_val _ seed 2000 (by omega) hseed (by omega), Option.bind_some, e1, e2]
    obtain ⟨w, hw⟩ : ∃ w : Nat, mn (m : Int) 3 = (w : Int) ∧ w < 4 ∧ w ≤ m := by
      unfold mn
      split
      · exact ⟨3, rfl, by omega, by omega⟩
      · exact ⟨m, rfl, by omega, by omega⟩
    rw [hw.1, if_pos (by omega), if_pos (by omega), Int.toNat_natCast]
    have hf : (s0.extract 0 w).size < 4 := by rw [ByteArray.size_extract]; omega
    generalize s0.extract 0 w = f at *
    rw [if_pos (beq_iff _ _ _ _ (nat_iff (fun z => mixN (byteN y z)) a b (fun h => byteN_inj_c y a b hy (by omega) (by omega) (mix_inj _ _ (byteN_lt _ _) (byteN_lt _ _) h)))), sum_val f seed 2000 (by omega) hseed (by omega), Option.bind_some,
      sum_val f other 2000 (by omega) hother (by omega), Option.bind_some, if_pos (beq_iff _ _ _ _ (nat_iff (fun z => sumN z f) seed other (sum_few f hf seed other hseed hother))), aw]
    rfl
end Go.Proofs.Ytckjigbhdndgdaa.Pure
