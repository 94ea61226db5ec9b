/- Numbers in groups of seven bits: what vint.Put writes has the number, and only that writing has it. Plain numbers and lists; then what the printed functions come to. -/
import Derived.Test.YtlcngcbiacmagaaWnum
import Derived.Test.YtlcngcbiacmagaaPBasex1
namespace Go.Proofs.Ytlcngcbiacmagaa
open Go.RowKit Go.Proofs.YtlcngcbiacmagaaW.PrintWords Go.Proofs.YtlcngcbiacmagaaW.PrintLast Go.Proofs.YtlcngcbiacmagaaW.PrintMore Go.Proofs.Ytlcngcbiacmagaa.PReader Go.Proofs.Ytlcngcbiacmagaa.PBase
set_option linter.unusedVariables false
/-- A number's groups (f: no more than these). -/
def putL : Nat → Nat → List Nat
  | 0, _ => []
  | f + 1, n => if n < 128 then [n] else (n % 128 + 128) :: putL f (n / 128)
/-- The number of groups. -/
def val : List Nat → Nat
  | [] => 0
  | c :: l => c % 128 + 128 * val l
/-- All but the last one are 128 or more. -/
def shaped : List Nat → Prop
  | [] => False
  | [c] => c < 128
  | c :: l => 128 ≤ c ∧ c < 256 ∧ shaped l
theorem val_put : ∀ f n, n < 128 ^ f → val (putL f n) = n := by
  intro f
  induction f with
  | zero => intro n h; simp at h; subst h; rfl
  | succ f ih =>
    intro n h
    unfold putL
    split
    · rename_i hn
      simp only [val]
      omega
    · rename_i hn
      simp only [val]
      rw [ih (n / 128) (by rw [Nat.pow_succ] at h; exact Nat.div_lt_of_lt_mul (by omega))]
      omega
theorem put_len : ∀ f n, (putL f n).length ≤ f := by
  intro f
  induction f with
  | zero => intro n; simp [putL]
  | succ f ih =>
    intro n
    unfold putL
    split
    · simp
    · have := ih (n / 128)
      simp
      omega
theorem put_pos (f n : Nat) : 0 < (putL (f + 1) n).length := by
  unfold putL
  split <;> simp
theorem put_lt : ∀ f n, ∀ x ∈ putL f n, x < 256 := by
  intro f
  induction f with
  | zero => intro n x hx; simp [putL] at hx
  | succ f ih =>
    intro n x hx
    unfold putL at hx
    split at hx
    · simp at hx; omega
    · rcases List.mem_cons.1 hx with h | h
      · omega
      · exact ih _ x h
/-- Each but the last one is 128 or more; the last one is not nought but where it is alone. -/
theorem put_shape : ∀ f n, n < 128 ^ (f + 1) → ∀ i, i < (putL (f + 1) n).length → (i + 1 < (putL (f + 1) n).length → 128 ≤ (putL (f + 1) n).getD i 0) ∧ (i + 1 = (putL (f + 1) n).length → (putL (f + 1) n).getD i 0 < 128 ∧ (0 < i → 0 < (putL (f + 1) n).getD i 0)) := by
  intro f
  induction f with
  | zero =>
    intro n h i hi
    have hn : n < 128 := by simpa using h
    unfold putL at hi ⊢
    rw [if_pos hn] at hi ⊢
    simp at hi
    subst hi
    exact ⟨fun h => by simp at h, fun _ => ⟨by simpa using hn, fun h => by omega⟩⟩
  | succ f ih =>
    intro n h i hi
    have hd : n / 128 < 128 ^ (f + 1) := by rw [Nat.pow_succ] at h; exact Nat.div_lt_of_lt_mul (by omega)
    by_cases hn : n < 128
    · unfold putL at hi ⊢
      rw [if_pos hn] at hi ⊢
      simp at hi
      subst hi
      exact ⟨fun h => by simp at h, fun _ => ⟨by simpa using hn, fun h => by omega⟩⟩
    · have e : putL (f + 1 + 1) n = (n % 128 + 128) :: putL (f + 1) (n / 128) := by
        conv => lhs; unfold putL
        rw [if_neg hn]
      rw [e] at hi ⊢
      have hp := put_pos f (n / 128)
      cases i with
      | zero =>
        refine ⟨fun _ => by simp, fun h1 => ?_⟩
        simp only [List.length_cons] at h1
        omega
      | succ i =>
        simp at hi
        obtain ⟨h1, h2⟩ := ih (n / 128) hd i hi
        refine ⟨fun h3 => ?_, fun h3 => ?_⟩
        · simp at h3
          simpa using h1 h3
        · simp at h3
          obtain ⟨h4, h5⟩ := h2 h3
          refine ⟨by simpa using h4, fun _ => ?_⟩
          by_cases hi0 : 0 < i
          · simpa using h5 hi0
          · obtain rfl : i = 0 := by omega
            have hlen : (putL (f + 1) (n / 128)).length = 1 := by omega
            have hv : putL (f + 1) (n / 128) = [n / 128] := by
              unfold putL at hlen ⊢
              split
              · rfl
              · rename_i hq
                rw [if_neg hq] at hlen
                simp at hlen
                have hf : 0 < f := by
                  rcases Nat.eq_zero_or_pos f with h0 | h0
                  · subst h0; simp at hd; omega
                  · exact h0
                obtain ⟨g, rfl⟩ : ∃ g, f = g + 1 := ⟨f - 1, by omega⟩
                have := put_pos g (n / 128 / 128)
                rw [hlen] at this
                simp at this
            rw [hv]
            simp
            omega
/-- What is so shaped, and has no needless end, is what Put writes of its number. -/
theorem put_val : ∀ (l : List Nat) (f : Nat), l.length ≤ f → (∀ x ∈ l, x < 256) → (∀ i, i + 1 < l.length → 128 ≤ l.getD i 0) → (∀ i, i + 1 = l.length → l.getD i 0 < 128 ∧ (0 < i → 0 < l.getD i 0)) → l ≠ [] → putL f (val l) = l := by
  intro l
  induction l with
  | nil => intro f _ _ _ _ h; exact absurd rfl h
  | cons c l ih =>
    intro f hf hlt hmid hend _
    obtain ⟨g, rfl⟩ : ∃ g, f = g + 1 := ⟨f - 1, by simp at hf; omega⟩
    have hc := hlt c (by simp)
    cases l with
    | nil =>
      have h1 := (hend 0 (by simp)).1
      simp at h1
      have e : val [c] = c := by simp only [val]; omega
      rw [e]
      unfold putL
      rw [if_pos h1]
    | cons d l =>
      have h0 := hmid 0 (by simp)
      simp at h0
      have hrec := ih g (by simp at hf ⊢; omega) (fun x hx => hlt x (List.mem_cons_of_mem _ hx)) (fun i hi => by
        have := hmid (i + 1) (by simp at hi ⊢; omega)
        simpa using this) (fun i hi => by
        have := hend (i + 1) (by simp at hi ⊢; omega)
        exact ⟨by simpa using this.1, fun h => by simpa using this.2 (by omega)⟩) (by simp)
      have hpos : 0 < val (d :: l) := by
        rcases Nat.eq_zero_or_pos (val (d :: l)) with hz | hz
        · exfalso
          rw [hz] at hrec
          obtain ⟨g', rfl⟩ : ∃ g', g = g' + 1 := ⟨g - 1, by simp at hf; omega⟩
          have e0 : putL (g' + 1) 0 = [0] := by simp [putL]
          rw [e0] at hrec
          injection hrec with h3 h4
          subst h3; subst h4
          have := (hend 1 (by simp)).2 (by omega)
          simp at this
        · exact hz
      have hv : val (c :: d :: l) = c % 128 + 128 * val (d :: l) := rfl
      have hdiv : (c % 128 + 128 * val (d :: l)) / 128 = val (d :: l) := by omega
      have hmod : (c % 128 + 128 * val (d :: l)) % 128 + 128 = c := by omega
      rw [hv]
      conv => lhs; unfold putL
      rw [if_neg (by omega), hdiv, hmod, hrec]
theorem val_snoc (l : List Nat) (c : Nat) : val (l ++ [c]) = val l + (c % 128) * 128 ^ l.length := by
  induction l with
  | nil => simp [val]
  | cons a l ih =>
    simp only [List.cons_append, val, ih, List.length_cons, Nat.pow_succ]
    rw [Nat.mul_add, ← Nat.add_assoc]
    congr 1
    rw [Nat.mul_comm (128 ^ l.length) 128, ← Nat.mul_assoc, ← Nat.mul_assoc, Nat.mul_comm 128 (c % 128)]
theorem val_lt (l : List Nat) : val l < 128 ^ l.length := by
  induction l with
  | nil => simp [val]
  | cons a l ih =>
    simp only [val, List.length_cons, Nat.pow_succ]
    omega
/-- What the loop of Put comes to. -/
theorem put_loop : ∀ (f n k : Nat) (acc : List Int), n < 128 ^ (f + 1) → f + 1 < k → acc.length + f < 1000 → vint_Put.l0 k (n : Int) acc = some (strOfNums (acc ++ (putL (f + 1) n).map fun x : Nat => (x : Int))) := by
  intro f
  induction f with
  | zero =>
    intro n k acc hn hk hl
    obtain ⟨k, rfl⟩ : ∃ m, k = m + 1 := ⟨k - 1, by omega⟩
    have h : n < 128 := by simpa using hn
    simp only [vint_Put.l0]
    rw [if_neg (by omega), if_pos (by omega)]
    simp only [putL]
    rw [if_pos h]
    have e : (n : Int) % 256 = (n : Int) := by omega
    rw [e]
    rfl
  | succ f ih =>
    intro n k acc hn hk hl
    obtain ⟨k, rfl⟩ : ∃ m, k = m + 1 := ⟨k - 1, by omega⟩
    simp only [vint_Put.l0]
    have e1 : putL (f + 1 + 1) n = if n < 128 then [n] else (n % 128 + 128) :: putL (f + 1) (n / 128) := rfl
    rw [e1]
    by_cases h : n < 128
    · rw [if_neg (by omega), if_pos (by omega), if_pos h]
      have e : (n : Int) % 256 = (n : Int) := by omega
      rw [e]
      rfl
    · rw [if_pos (by omega), if_pos (by omega), if_neg h]
      have e : (n : Int) / 128 = ((n / 128 : Nat) : Int) := by omega
      have e2 : Go.bits .or .u8 ((n : Int) % 256) 128 = ((n % 128 + 128 : Nat) : Int) := by
        have e3 : (n : Int) % 256 = ((n % 256 : Nat) : Int) := by omega
        rw [e3, or128 (n % 256) (by omega)]
        congr 1
        omega
      rw [e, e2, ih (n / 128) k _ (by rw [Nat.pow_succ] at hn; exact Nat.div_lt_of_lt_mul (by omega)) (by omega) (by rw [List.length_append, List.length_singleton]; omega)]
      rw [List.append_assoc]
      rfl
/-- The bytes of a number below 2^64, as a string. -/
def putS (n : Nat) : ByteArray := strOfNums ((putL 10 n).map fun x : Nat => (x : Int))
theorem put_val64 (n k : Nat) (hn : n < 18446744073709551616) (hk : 10 < k) : vint_Put.f k (n : Int) = some (putS n) := by
  have h := put_loop 9 n k [] (by omega) hk (by simp)
  exact h
theorem refput_loop : ∀ (k : Nat) (x : Int) (acc : List Int), wringerref1_PutVint.l0 k x acc = vint_Put.l0 k x acc := by
  intro k
  induction k with
  | zero => intro x acc; rfl
  | succ k ih =>
    intro x acc
    simp only [wringerref1_PutVint.l0, vint_Put.l0, ih]
theorem refput_val64 (n k : Nat) (hn : n < 18446744073709551616) (hk : 10 < k) : wringerref1_PutVint.f k (n : Int) = some (putS n) := by
  unfold wringerref1_PutVint.f
  rw [refput_loop]
  exact put_val64 n k hn hk
theorem lst_put (n : Nat) : lst (putS n) = putL 10 n := by
  unfold putS
  rw [lst_nums]
  unfold nat8
  rw [List.map_map]
  conv => rhs; rw [← List.map_id (putL 10 n)]
  apply List.map_congr_left
  intro x hx
  have := put_lt 10 n x hx
  simp only [Function.comp, Int.toNat_natCast, id]
  omega
theorem put_size (n : Nat) : (putS n).size = (putL 10 n).length := by rw [← lst_length, lst_put]
end Go.Proofs.Ytlcngcbiacmagaa
