/- What both sums come to: the lanes, their sum, what is left, the mix. Conditions: as stated (few bytes, rounds enough). -/
import Derived.Test.YtckjigbhdndgdaaXnum
namespace Go.Proofs.Ytckjigbhdndgdaa
open Go.RowKit Go.Proofs.YtckjigbhdndgdaaW.PrintWords Go.Proofs.YtckjigbhdndgdaaW.PrintLast Go.Proofs.YtckjigbhdndgdaaW.PrintMore Go.Proofs.Ytckjigbhdndgdaa.PReader Go.Proofs.Ytckjigbhdndgdaa.PBits Go.Proofs.Ytckjigbhdndgdaa.PRef
set_option linter.unusedVariables false
set_option maxRecDepth 10000
abbrev Four := Nat × Nat × Nat × Nat
def stepN (s : ByteArray) (t : Four) (i : Nat) : Four := (rnd t.1 (part s i 8), rnd t.2.1 (part s (i + 8) 8), rnd t.2.2.1 (part s (i + 16) 8), rnd t.2.2.2 (part s (i + 24) 8))
def foldT {α : Type} (f : α → Nat → α) (st : Nat) : α → Nat → Nat → α
  | h, _, 0 => h
  | h, i, q + 1 => foldT f st (f h i) (i + st) q
theorem foldT_succ {α : Type} (f : α → Nat → α) (st : Nat) (h : α) (i q : Nat) : foldT f st h i (q + 1) = foldT f st (f h i) (i + st) q := rfl
theorem foldT_zero {α : Type} (f : α → Nat → α) (st : Nat) (h : α) (i : Nat) : foldT f st h i 0 = h := rfl
def lanesN (s : ByteArray) (t : Four) (i q : Nat) : Four := foldT (stepN s) 32 t i q
theorem lanesN_succ (s : ByteArray) (t : Four) (i q : Nat) : lanesN s t i (q + 1) = lanesN s (stepN s t i) (i + 32) q := foldT_succ _ _ _ _ _
theorem lanesN_zero (s : ByteArray) (t : Four) (i : Nat) : lanesN s t i 0 = t := foldT_zero _ _ _ _
def addN (a b : Nat) : Nat := (a + b) % 18446744073709551616
theorem addN_lt (a b : Nat) : addN a b < 18446744073709551616 := md _
def sumRot (t : Four) : Nat := addN (addN (addN (rotN t.1 1) (rotN t.2.1 7)) (rotN t.2.2.1 12)) (rotN t.2.2.2 18)
def joinN (t : Four) : Nat := laneN (laneN (laneN (laneN (sumRot t) (rnd 0 t.1)) (rnd 0 t.2.1)) (rnd 0 t.2.2.1)) (rnd 0 t.2.2.2)
def beginN (seed : Nat) : Four := (addN (addN seed 11400714785074694791) 14029467366897019727, addN seed 14029467366897019727, seed, addN seed 7046029288634856825)
def small (t : Four) : Prop := t.1 < 18446744073709551616 ∧ t.2.1 < 18446744073709551616 ∧ t.2.2.1 < 18446744073709551616 ∧ t.2.2.2 < 18446744073709551616
theorem small_step (s : ByteArray) (t : Four) (i : Nat) : small (stepN s t i) := ⟨rnd_lt _ _, rnd_lt _ _, rnd_lt _ _, rnd_lt _ _⟩
theorem small_begin (seed : Nat) (h : seed < 18446744073709551616) : small (beginN seed) := ⟨addN_lt _ _, addN_lt _ _, h, addN_lt _ _⟩
/-- The sum of a string. -/
def sumN (seed : Nat) (s : ByteArray) : Nat :=
  if s.size < 32 then mixN (restN s (addN (addN seed 2870177450012600261) s.size) 0 s.size)
  else mixN (restN s (addN (joinN (lanesN s (beginN seed) 0 (s.size / 32))) s.size) (32 * (s.size / 32)) (s.size % 32))
theorem add_val (a b : Nat) : IntKind.u64.wrap ((a : Int) + (b : Int)) = (addN a b : Int) := wrap_add2 a b
theorem sub_val (a : Nat) : IntKind.u64.wrap ((a : Int) - 11400714785074694791) = (addN a 7046029288634856825 : Int) := by
  rw [IntKind.wrap_u64]
  unfold addN
  omega
theorem step4_val (k : Nat) (s : ByteArray) (p : Nat) (t : Four) (h : p + 32 ≤ s.size) (hk : 8 < k) (hb : s.size < 9223372036854775000) :
    step4 k (s.extract p s.size) t.1 t.2.1 t.2.2.1 t.2.2.2 = some (((stepN s t p).1 : Int), ((stepN s t p).2.1 : Int), ((stepN s t p).2.2.1 : Int), ((stepN s t p).2.2.2 : Int)) := by
  have hs := extract_size s p (by omega)
  have g : ∀ j : Nat, j + 8 ≤ 32 → vint_GetWord.f k (s.extract p s.size) (j : Int) = some ((part s (p + j) 8 : Int), ((j + 8 : Nat) : Int), 0) := by
    intro j hj
    have := getWord_in k (s.extract p s.size) j (by omega) hk (by omega)
    rw [part_extract] at this
    exact this
  have g0 : vint_GetWord.f k (s.extract p s.size) 0 = some ((part s p 8 : Int), ((0 + 8 : Nat) : Int), 0) := g 0 (by omega)
  have g1 : vint_GetWord.f k (s.extract p s.size) 8 = some ((part s (p + 8) 8 : Int), ((8 + 8 : Nat) : Int), 0) := g 8 (by omega)
  have g2 : vint_GetWord.f k (s.extract p s.size) 16 = some ((part s (p + 16) 8 : Int), ((16 + 8 : Nat) : Int), 0) := g 16 (by omega)
  have g3 : vint_GetWord.f k (s.extract p s.size) 24 = some ((part s (p + 24) 8 : Int), ((24 + 8 : Nat) : Int), 0) := g 24 (by omega)
  unfold step4
  rw [g0, Option.bind_some, g1, Option.bind_some, g2, Option.bind_some, g3, Option.bind_some, round_val, Option.bind_some, round_val, Option.bind_some, round_val, Option.bind_some, round_val, Option.bind_some]
  rfl
theorem join4_val (t : Four) (h : small t) : join4 t.1 t.2.1 t.2.2.1 t.2.2.2 = some (joinN t : Int) := by
  obtain ⟨a, b, c, d⟩ := t
  obtain ⟨ha, hb, hc, hd⟩ := h
  simp only at ha hb hc hd
  have l1 := rotN_lt a 1 ha (by decide)
  have l2 := rotN_lt b 7 hb (by decide)
  have l3 := rotN_lt c 12 hc (by decide)
  have l4 := rotN_lt d 18 hd (by decide)
  unfold join4
  rw [show (1 : Int) = ((1 : Nat) : Int) from rfl, show (7 : Int) = ((7 : Nat) : Int) from rfl, show (12 : Int) = ((12 : Nat) : Int) from rfl, show (18 : Int) = ((18 : Nat) : Int) from rfl, show (0 : Int) = ((0 : Nat) : Int) from rfl]
  rw [rl_val a 1 ha (by decide) (by decide), Option.bind_some, rl_val b 7 hb (by decide) (by decide), Option.bind_some, rl_val c 12 hc (by decide) (by decide), Option.bind_some, rl_val d 18 hd (by decide) (by decide), Option.bind_some,
    round_val, Option.bind_some, round_val, Option.bind_some, round_val, Option.bind_some, round_val, Option.bind_some]
  have e : joinedV (rotN a 1 : Int) (rotN b 7 : Int) (rotN c 12 : Int) (rotN d 18 : Int) = (sumRot (a, b, c, d) : Int) := by
    unfold joinedV sumRot
    rw [u64n, Nat.mod_eq_of_lt l1, add_val, add_val, add_val]
  rw [e, lane_val (sumRot (a, b, c, d)) _ (addN_lt _ _) (rnd_lt _ _), lane_val _ _ (laneN_lt _ _) (rnd_lt _ _), lane_val _ _ (laneN_lt _ _) (rnd_lt _ _), lane_val _ _ (laneN_lt _ _) (rnd_lt _ _)]
  rfl
theorem fin_val (k z h : Nat) (s : ByteArray) (p n : Nat) (hp : p + n = s.size) (hk : n / 8 + 40 < k) (hb : s.size < 9223372036854775000) :
    xxh_Sum.fin k (z : Int) (h : Int) (s.extract p s.size) = some (mixN (restN s (addN h z) p n) : Int) := by
  unfold xxh_Sum.fin xxh_tail.f
  rw [add_val, tail_val s hb (n / 8) p (addN h z) n k hp rfl hk (addN_lt _ _), Option.bind_some, mix_val _ (restN_lt _ _ _ _ (addN_lt _ _))]
theorem extract_all (s : ByteArray) : s.extract 0 s.size = s := by
  apply lst_inj
  rw [lst_extract, List.drop_zero, Nat.sub_zero, List.take_of_length_le (by rw [lst_length]; exact Nat.le_refl _)]
theorem lanes_val (s : ByteArray) (z : Nat) (hb : s.size < 9223372036854775000) : ∀ (q p n k : Nat) (t : Four), p + n = s.size → n / 32 = q → q + 60 < k → small t →
    xxh_Sum.l0 k (z : Int) t.1 t.2.1 t.2.2.1 t.2.2.2 (s.extract p s.size) = some (mixN (restN s (addN (joinN (lanesN s t p q)) z) (p + 32 * q) (n % 32)) : Int) := by
  intro q
  induction q with
  | zero =>
    intro p n k t hp hq hk ht
    obtain ⟨k, rfl⟩ : ∃ m, k = m + 1 := ⟨k - 1, by omega⟩
    have hs := extract_size s p (by omega)
    simp only [xxh_Sum.l0]
    rw [if_neg (by omega), join4_val t ht, Option.bind_some, fin_val k z _ s p n hp (by omega) hb, lanesN_zero, Nat.mul_zero, Nat.add_zero]
    have : n % 32 = n := by omega
    rw [this]
  | succ q ih =>
    intro p n k t hp hq hk ht
    obtain ⟨k, rfl⟩ : ∃ m, k = m + 1 := ⟨k - 1, by omega⟩
    have hs := extract_size s p (by omega)
    have go := ih (p + 32) (n - 32) k (stepN s t p) (by omega) (by omega) (by omega) (small_step _ _ _)
    simp only [xxh_Sum.l0]
    rw [if_pos (by omega), step4_val k s p t (by omega) (by omega) hb, Option.bind_some, extract2 s p 32 (by omega), lanesN_succ]
    have e1 : p + 32 * (q + 1) = p + 32 + 32 * q := by omega
    have e2 : n % 32 = (n - 32) % 32 := by omega
    rw [e1, e2]
    exact go
theorem sum_val (s : ByteArray) (seed k : Nat) (hb : s.size < 9223372036854775000) (hs : seed < 18446744073709551616) (hk : s.size + 100 < k) : xxh_Sum.f k (seed : Int) s = some (sumN seed s : Int) := by
  unfold xxh_Sum.f sumN
  by_cases c : s.size < 32
  · rw [if_pos c, if_pos c, show (2870177450012600261 : Int) = ((2870177450012600261 : Nat) : Int) from rfl, add_val]
    have := fin_val k s.size (addN seed 2870177450012600261) s 0 s.size (by omega) (by omega) hb
    rw [extract_all] at this
    exact this
  · rw [if_neg c, if_neg c, sub_val, show (11400714785074694791 : Int) = ((11400714785074694791 : Nat) : Int) from rfl, add_val, show (14029467366897019727 : Int) = ((14029467366897019727 : Nat) : Int) from rfl, add_val, add_val, u64n, Nat.mod_eq_of_lt (by omega)]
    have := lanes_val s s.size hb (s.size / 32) 0 s.size k (beginN seed) (by omega) rfl (by omega) (small_begin seed hs)
    rw [extract_all, Nat.zero_add] at this
    exact this
/-! ### The reference's sum -/
theorem ref_bytes (s : ByteArray) (hb : s.size < 9223372036854775000) : ∀ (d i h k : Nat), i + d = s.size → d < k → h < 18446744073709551616 →
    wringerref1_Sum.l5 k s (h : Int) (s.size : Int) (i : Int) = some (mixN (bytesN s h i d) : Int) := by
  intro d
  induction d with
  | zero =>
    intro i h k hi hk hh
    obtain ⟨k, rfl⟩ : ∃ m, k = m + 1 := ⟨k - 1, by omega⟩
    simp only [wringerref1_Sum.l5]
    rw [if_neg (by omega), refmix_val h hh]
    rfl
  | succ d ih =>
    intro i h k hi hk hh
    obtain ⟨k, rfl⟩ : ∃ m, k = m + 1 := ⟨k - 1, by omega⟩
    have go := ih (i + 1) (byteN h (bn s i)) k (by omega) (by omega) (byteN_lt _ _)
    simp only [wringerref1_Sum.l5]
    rw [if_pos (by omega), if_pos (by omega), if_pos (by omega), byte_int s h i hh, show (11 : Int) = ((11 : Nat) : Int) from rfl, rol_val _ 11 (xx _ _ hh) (by decide) (by decide), Option.bind_some, show (11400714785074694791 : Int) = ((11400714785074694791 : Nat) : Int) from rfl, wrap_mul, wrap_i i (by omega)]
    exact go
theorem ref_four (s : ByteArray) (hb : s.size < 9223372036854775000) (i h : Nat) (r : Int) (hi : i + 4 ≤ s.size) : ∀ (d j k : Nat), j + d = 4 → d < k →
    (∀ k', k = k' + d + 1 → (((wringerref1_rol.f (Go.bits .xor .u64 (h : Int) (IntKind.u64.wrap ((part s i 4 : Int) * 11400714785074694791))) 23).bind fun t128 => (wringerref1_Sum.j6 k' s (IntKind.u64.wrap ((IntKind.u64.wrap (t128 * 14029467366897019727)) + 1609587929392839161)) (s.size : Int) (wrap64 ((i : Int) + 4))))) = some r) →
    wringerref1_Sum.l4 k s (h : Int) (s.size : Int) (i : Int) (part s i j : Int) (j : Int) = some r := by
  intro d
  induction d with
  | zero =>
    intro j k hj hk hr
    obtain ⟨k, rfl⟩ : ∃ m, k = m + 1 := ⟨k - 1, by omega⟩
    obtain rfl : j = 4 := by omega
    simp only [wringerref1_Sum.l4]
    rw [if_neg (by omega)]
    exact hr k rfl
  | succ d ih =>
    intro j k hj hk hr
    obtain ⟨k, rfl⟩ : ∃ m, k = m + 1 := ⟨k - 1, by omega⟩
    have go := ih (j + 1) k (by omega) (by omega) (fun k' hk' => hr k' (by omega))
    have hp := part_step s i j (by omega)
    have e8 : wrap64 (8 * (j : Int)) = ((8 * j : Nat) : Int) := by unfold wrap64; omega
    have e1 : wrap64 ((i : Int) + (j : Int)) = ((i + j : Nat) : Int) := by unfold wrap64; omega
    simp only [wringerref1_Sum.l4]
    rw [if_pos (by omega), e1, e8, if_pos (by omega), if_pos (by omega), if_pos (by omega), bt_bn, hp, wrap_i j (by omega)]
    exact go
theorem ref_words (s : ByteArray) (hb : s.size < 9223372036854775000) : ∀ (q p h n k : Nat), p + n = s.size → n / 8 = q → q + 40 < k → h < 18446744073709551616 →
    wringerref1_Sum.l3 k s (h : Int) (s.size : Int) (p : Int) = some (mixN (restN s h p n) : Int) := by
  intro q
  induction q with
  | zero =>
    intro p h n k hp hq hk hh
    obtain ⟨k, rfl⟩ : ∃ m, k = m + 1 := ⟨k - 1, by omega⟩
    have e8 : wrap64 ((p : Int) + 8) = ((p + 8 : Nat) : Int) := by unfold wrap64; omega
    have e4 : wrap64 ((p : Int) + 4) = ((p + 4 : Nat) : Int) := by unfold wrap64; omega
    simp only [wringerref1_Sum.l3]
    rw [e8, e4, if_neg (by omega)]
    have er : restN s h p n = endN s h p n := by
      unfold restN
      rw [hq, Nat.mul_zero, Nat.add_zero]
      have : n % 8 = n := by omega
      rw [this, wordsN_zero]
    rw [er]
    unfold endN
    by_cases h4 : 4 ≤ n
    · rw [if_pos (by omega), if_pos h4]
      refine ref_four s hb p h _ (by omega) 4 0 k (by omega) (by omega) (fun k' hk' => ?_)
      obtain ⟨k', rfl⟩ : ∃ m, k' = m + 1 := ⟨k' - 1, by omega⟩
      rw [e4, show (11400714785074694791 : Int) = ((11400714785074694791 : Nat) : Int) from rfl, wrap_mul, xor_val _ _ hh (md _), show (23 : Int) = ((23 : Nat) : Int) from rfl, rol_val _ 23 (xx _ _ hh) (by decide) (by decide), Option.bind_some, four_last]
      simp only [wringerref1_Sum.j6]
      exact ref_bytes s hb (n - 4) (p + 4) (fourN h (part s p 4)) k' (by omega) (by omega) (fourN_lt _ _)
    · obtain ⟨k, rfl⟩ : ∃ m, k = m + 1 := ⟨k - 1, by omega⟩
      rw [if_neg (by omega), if_neg h4]
      simp only [wringerref1_Sum.j6]
      exact ref_bytes s hb n p h k (by omega) (by omega) hh
  | succ q ih =>
    intro p h n k hp hq hk hh
    obtain ⟨k, rfl⟩ : ∃ m, k = m + 1 := ⟨k - 1, by omega⟩
    have go := ih (p + 8) (wordN h (part s p 8)) (n - 8) k (by omega) (by omega) (by omega) (wordN_lt _ _)
    have e8 : wrap64 ((p : Int) + 8) = ((p + 8 : Nat) : Int) := by unfold wrap64; omega
    simp only [wringerref1_Sum.l3]
    rw [e8, if_pos (by omega), refWord_in k s p (by omega) (by omega) hb, Option.bind_some, show (0 : Int) = ((0 : Nat) : Int) from rfl, refround_val, Option.bind_some, xor_val _ _ hh (rnd_lt _ _), show (27 : Int) = ((27 : Nat) : Int) from rfl,
      rol_val _ 27 (xor_lt _ _ hh (rnd_lt _ _)) (by decide) (by decide), Option.bind_some, word_last]
    have e1 : n / 8 = (n - 8) / 8 + 1 := by omega
    have e2 : n % 8 = (n - 8) % 8 := by omega
    have er : restN s h p n = restN s (wordN h (part s p 8)) (p + 8) (n - 8) := by
      unfold restN
      have e3 : p + 8 * ((n - 8) / 8 + 1) = p + 8 + 8 * ((n - 8) / 8) := by omega
      rw [e1, e2, e3]
      generalize (n - 8) / 8 = m
      rw [wordsN_succ]
    rw [er]
    exact go
def ints (t : Four) : List Int := [(t.1 : Int), (t.2.1 : Int), (t.2.2.1 : Int), (t.2.2.2 : Int)]
theorem ref_one (s : ByteArray) (hb : s.size < 9223372036854775000) (p k i a : Nat) (l : List Int) (hl : l.length = 4) (hi : i < 4) (ha : rd l (i : Int) = (a : Int)) (hp : p + 8 ≤ s.size) (hk : 20 < k) :
    wringerref1_Sum.l1 (k + 1) s (s.size : Int) (p : Int) l (i : Int) = wringerref1_Sum.l1 k s (s.size : Int) ((p + 8 : Nat) : Int) (l.set i (rnd a (part s p 8) : Int)) ((i + 1 : Nat) : Int) := by
  have e8 : wrap64 ((p : Int) + 8) = ((p + 8 : Nat) : Int) := by unfold wrap64; omega
  rw [wringerref1_Sum.l1]
  rw [if_pos (by omega), if_pos (by omega), if_pos (by omega), refWord_in k s p hp (by omega) hb, Option.bind_some, ha, refround_val, Option.bind_some, e8, wrap_i i (by omega), Int.toNat_natCast]
theorem ref_step (s : ByteArray) (hb : s.size < 9223372036854775000) (p k : Nat) (t : Four) (hp : p + 32 ≤ s.size) (hk : 20 < k) :
    wringerref1_Sum.l1 (k + 5) s (s.size : Int) (p : Int) (ints t) 0 = wringerref1_Sum.l0 k s (s.size : Int) ((p + 32 : Nat) : Int) (ints (stepN s t p)) := by
  obtain ⟨a, b, c, d⟩ := t
  have h0 := ref_one s hb p (k + 4) 0 a (ints (a, b, c, d)) rfl (by omega) rfl (by omega) (by omega)
  have h1 := ref_one s hb (p + 8) (k + 3) 1 b ((ints (a, b, c, d)).set 0 (rnd a (part s p 8) : Int)) rfl (by omega) rfl (by omega) (by omega)
  have h2 := ref_one s hb (p + 8 + 8) (k + 2) 2 c (((ints (a, b, c, d)).set 0 (rnd a (part s p 8) : Int)).set 1 (rnd b (part s (p + 8) 8) : Int)) rfl (by omega) rfl (by omega) (by omega)
  have h3 := ref_one s hb (p + 8 + 8 + 8) (k + 1) 3 d ((((ints (a, b, c, d)).set 0 (rnd a (part s p 8) : Int)).set 1 (rnd b (part s (p + 8) 8) : Int)).set 2 (rnd c (part s (p + 8 + 8) 8) : Int)) rfl (by omega) rfl (by omega) (by omega)
  have h4 : wringerref1_Sum.l1 (k + 1) s (s.size : Int) ((p + 8 + 8 + 8 + 8 : Nat) : Int) (ints (stepN s (a, b, c, d) p)) ((3 + 1 : Nat) : Int) = wringerref1_Sum.l0 k s (s.size : Int) ((p + 32 : Nat) : Int) (ints (stepN s (a, b, c, d) p)) := by
    rw [wringerref1_Sum.l1, if_neg (by omega)]
  refine h0.trans (h1.trans (h2.trans (h3.trans ?_)))
  exact h4
theorem ref_add (s : ByteArray) (p k i a h : Nat) (l : List Int) (hl : l.length = 4) (hi : i < 4) (ha : rd l (i : Int) = (a : Int)) (hh : h < 18446744073709551616) :
    wringerref1_Sum.l2 (k + 1) s (h : Int) (s.size : Int) (p : Int) l (i : Int) = wringerref1_Sum.l2 k s (laneN h (rnd 0 a) : Int) (s.size : Int) (p : Int) l ((i + 1 : Nat) : Int) := by
  have rv : wringerref1_Round.f 0 (a : Int) = some (rnd 0 a : Int) := refround_val 0 a
  have lv : IntKind.u64.wrap ((IntKind.u64.wrap ((Go.bits .xor .u64 (h : Int) (rnd 0 a : Int)) * 11400714785074694791)) + 9650029242287828579) = (laneN h (rnd 0 a) : Int) := lane_val h _ hh (rnd_lt _ _)
  rw [wringerref1_Sum.l2]
  rw [if_pos (by omega), if_pos (by omega), if_pos (by omega), ha, rv, Option.bind_some, lv, wrap_i i (by omega)]
theorem ref_join (s : ByteArray) (p k : Nat) (t : Four) (h : Nat) (hh : h < 18446744073709551616) :
    wringerref1_Sum.l2 (k + 5) s (h : Int) (s.size : Int) (p : Int) (ints t) 0 = wringerref1_Sum.j3 k s (laneN (laneN (laneN (laneN h (rnd 0 t.1)) (rnd 0 t.2.1)) (rnd 0 t.2.2.1)) (rnd 0 t.2.2.2) : Int) (s.size : Int) (p : Int) := by
  obtain ⟨a, b, c, d⟩ := t
  have h0 := ref_add s p (k + 4) 0 a h (ints (a, b, c, d)) rfl (by omega) rfl hh
  have h1 := ref_add s p (k + 3) 1 b (laneN h (rnd 0 a)) (ints (a, b, c, d)) rfl (by omega) rfl (laneN_lt _ _)
  have h2 := ref_add s p (k + 2) 2 c (laneN (laneN h (rnd 0 a)) (rnd 0 b)) (ints (a, b, c, d)) rfl (by omega) rfl (laneN_lt _ _)
  have h3 := ref_add s p (k + 1) 3 d (laneN (laneN (laneN h (rnd 0 a)) (rnd 0 b)) (rnd 0 c)) (ints (a, b, c, d)) rfl (by omega) rfl (laneN_lt _ _)
  refine h0.trans (h1.trans (h2.trans (h3.trans ?_)))
  generalize laneN (laneN (laneN (laneN h (rnd 0 a)) (rnd 0 b)) (rnd 0 c)) (rnd 0 d) = x
  rw [wringerref1_Sum.l2, if_neg (by omega)]
theorem ref_lanes (s : ByteArray) (hb : s.size < 9223372036854775000) : ∀ (q p n k : Nat) (t : Four), p + n = s.size → n / 32 = q → 6 * q + 100 < k → small t →
    wringerref1_Sum.l0 k s (s.size : Int) (p : Int) (ints t) = some (mixN (restN s (addN (joinN (lanesN s t p q)) s.size) (p + 32 * q) (n % 32)) : Int) := by
  intro q
  induction q with
  | zero =>
    intro p n k t hp hq hk ht
    obtain ⟨k, rfl⟩ : ∃ m, k = m + 1 + 5 + 1 := ⟨k - 7, by omega⟩
    have e32 : wrap64 ((p : Int) + 32) = ((p + 32 : Nat) : Int) := by unfold wrap64; omega
    have hj := ref_join s p (k + 1) t (sumRot t) (addN_lt _ _)
    have hw := ref_words s hb (n / 8) p (addN (joinN (lanesN s t p 0)) s.size) n k hp rfl (by omega) (addN_lt _ _)
    rw [lanesN_zero] at hw
    rw [lanesN_zero, Nat.mul_zero, Nat.add_zero]
    have e : n % 32 = n := by omega
    rw [e]
    obtain ⟨a, b, c, d⟩ := t
    obtain ⟨ha, hb', hc, hd⟩ := ht
    simp only at ha hb' hc hd
    have l (x y z v : Int) : (([x, y, z, v] : List Int).length : Int) = 4 := rfl
    have r0 : rd [(a : Int), (b : Int), (c : Int), (d : Int)] 0 = (a : Int) := rfl
    have r1 : rd [(a : Int), (b : Int), (c : Int), (d : Int)] 1 = (b : Int) := rfl
    have r2 : rd [(a : Int), (b : Int), (c : Int), (d : Int)] 2 = (c : Int) := rfl
    have r3 : rd [(a : Int), (b : Int), (c : Int), (d : Int)] 3 = (d : Int) := rfl
    simp only [wringerref1_Sum.l0]
    rw [e32, if_neg (by omega)]
    simp only [ints, l, r0, r1, r2, r3] at hj ⊢
    have v1 : wringerref1_rol.f (a : Int) 1 = some (rotN a 1 : Int) := rol_val a 1 ha (by decide) (by decide)
    have v2 : wringerref1_rol.f (b : Int) 7 = some (rotN b 7 : Int) := rol_val b 7 hb' (by decide) (by decide)
    have v3 : wringerref1_rol.f (c : Int) 12 = some (rotN c 12 : Int) := rol_val c 12 hc (by decide) (by decide)
    have v4 : wringerref1_rol.f (d : Int) 18 = some (rotN d 18 : Int) := rol_val d 18 hd (by decide) (by decide)
    rw [if_pos (by decide), v1, Option.bind_some, if_pos (by decide), v2, Option.bind_some, if_pos (by decide), v3, Option.bind_some, if_pos (by decide), v4, Option.bind_some, add_val, add_val, add_val]
    have es : addN (addN (addN (rotN a 1) (rotN b 7)) (rotN c 12)) (rotN d 18) = sumRot (a, b, c, d) := rfl
    rw [es, hj]
    simp only [wringerref1_Sum.j3]
    have e2 : IntKind.u64.wrap (s.size : Int) = ((s.size : Nat) : Int) := by rw [u64n, Nat.mod_eq_of_lt (by omega)]
    rw [e2, add_val]
    exact hw
  | succ q ih =>
    intro p n k t hp hq hk ht
    obtain ⟨k, rfl⟩ : ∃ m, k = m + 5 + 1 := ⟨k - 6, by omega⟩
    have e32 : wrap64 ((p : Int) + 32) = ((p + 32 : Nat) : Int) := by unfold wrap64; omega
    have go := ih (p + 32) (n - 32) k (stepN s t p) (by omega) (by omega) (by omega) (small_step _ _ _)
    simp only [wringerref1_Sum.l0]
    rw [e32, if_pos (by omega), ref_step s hb p k t (by omega) (by omega), lanesN_succ]
    have e1 : p + 32 * (q + 1) = p + 32 + 32 * q := by omega
    have e2 : n % 32 = (n - 32) % 32 := by omega
    rw [e1, e2]
    exact go
theorem refsum_val (s : ByteArray) (seed k : Nat) (hb : s.size < 9223372036854775000) (hs : seed < 18446744073709551616) (hk : s.size + 200 < k) : wringerref1_Sum.f k (seed : Int) s = some (sumN seed s : Int) := by
  unfold wringerref1_Sum.f sumN
  have e2 : IntKind.u64.wrap (s.size : Int) = ((s.size : Nat) : Int) := by rw [u64n, Nat.mod_eq_of_lt (by omega)]
  by_cases c : s.size < 32
  · obtain ⟨k, rfl⟩ : ∃ m, k = m + 1 := ⟨k - 1, by omega⟩
    rw [if_neg (by omega), if_pos c, show (2870177450012600261 : Int) = ((2870177450012600261 : Nat) : Int) from rfl, add_val]
    simp only [wringerref1_Sum.j3]
    rw [e2, add_val]
    exact ref_words s hb (s.size / 8) 0 (addN (addN seed 2870177450012600261) s.size) s.size k (by omega) rfl (by omega) (addN_lt _ _)
  · have l (x y z v : Int) : (([x, y, z, v] : List Int).length : Int) = 4 := rfl
    rw [if_pos (by omega), if_neg c, Option.bind_some, l, if_pos (by decide), sub_val, show (11400714785074694791 : Int) = ((11400714785074694791 : Nat) : Int) from rfl, add_val, show (14029467366897019727 : Int) = ((14029467366897019727 : Nat) : Int) from rfl, add_val]
    have r0 (x y z v : Int) : rd [x, y, z, v] 0 = x := rfl
    have s0 (x y z v u : Int) : ([x, y, z, v] : List Int).set (0 : Int).toNat u = [u, y, z, v] := rfl
    rw [r0, add_val, s0]
    have := ref_lanes s hb (s.size / 32) 0 s.size k (beginN seed) (by omega) rfl (by omega) (small_begin seed hs)
    rw [Nat.zero_add] at this
    exact this
end Go.Proofs.Ytckjigbhdndgdaa
