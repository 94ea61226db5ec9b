/- What the decoder's Direct and End come to. Conditions: as each contract states. -/
import Derived.Test.YtgldblakdhalkaaGDbit
namespace Go.Proofs.Ytgldblakdhalkaa
set_option linter.unusedVariables false
open Go.RowKit Go.Proofs.YtgldblakdhalkaaW.PrintWords Go.Proofs.YtgldblakdhalkaaW.PrintLast Go.Proofs.YtgldblakdhalkaaW.PrintMore Go.Proofs.Ytgldblakdhalkaa.PBase
/-- i direct bits of a string: the number, the error, what stands behind them. -/
def dirS (s : ByteArray) : Nat → Enc → Nat → Nat × Nat × Enc
  | 0, e, v => (v, 0, e)
  | i + 1, e, v => if errE s e = 0 then dirS s i (halfE (decide (e.R / 2 ≤ dE s e)) e) (v * 2 + (decide (e.R / 2 ≤ dE s e)).toNat) else (0, errE s e, e)
theorem dirS_zero (s : ByteArray) (e : Enc) (v : Nat) : dirS s 0 e v = (v, 0, e) := rfl
theorem dirS_err (s : ByteArray) (i : Nat) (e : Enc) (v : Nat) (h : errE s e ≠ 0) : dirS s (i + 1) e v = (0, errE s e, e) := by
  show (if errE s e = 0 then _ else _) = _
  rw [if_neg h]
theorem dirS_ok (s : ByteArray) (i : Nat) (e : Enc) (v : Nat) (h : errE s e = 0) (b : Bool) (hb : decide (e.R / 2 ≤ dE s e) = b) : dirS s (i + 1) e v = dirS s i (halfE b e) (v * 2 + b.toNat) := by
  show (if errE s e = 0 then _ else _) = _
  rw [if_pos h, hb]
theorem or_one (v y : Nat) (h : v * 2 = y) (hy : y < 18446744073709551616) : Go.bits .or .u64 (y : Int) 1 = ((v * 2 + 1 : Nat) : Int) := by
  rw [show (1 : Int) = ((1 : Nat) : Int) from rfl, u64_or_nat _ _ hy (by omega)]
  have h2 := or_nat 1 v 1 (by decide)
  rw [Nat.pow_one] at h2
  rw [← h, Nat.or_comm, h2, Nat.add_comm]
attribute [local go_sem ↓] Go.wp_at_zero Go.wp_at_succ
attribute [local go_sem] max2_mx min2_mn max_two min_two
set_option maxHeartbeats 4000000 in
set_option maxRecDepth 100000 in
theorem dec_Direct.live (s : ByteArray) (e : Enc) (g : Nat) (n : Int) (w : World) (V er : Nat) (f' : Enc) (hdir : Aside0 (dirS s (lenN n) e 0 = (V, er, f'))) (hS : Aside0 (LiveAt w g s e)) (hok : Aside0 e.ok) (hL : Aside0 (e.L ≤ 900000000)) (hsz : Aside0 (s.size ≤ 1000000000)) :
    Calls Try.prog 32 #[.pointer (some ⟨g, 0, none⟩), .int .i64 n] w fun r w' => r = .returned (.tuple #[.int .u64 (V : Int), .int .i64 (er : Int)]) ∧ (er = 0 → LiveAt w' g s f' ∧ f'.ok ∧ f'.L ≤ e.L + 256) ∧ (er ≠ 0 → DeadAt w' g s) ∧ Mine (· = g) w w' := by
  have hu2 := Try.underlying95
  have hNv := lenN_val n
  have hN64 := Aside0.mk (lenN_le n)
  obtain ⟨N, hN⟩ : ∃ N, lenN n = N := ⟨_, rfl⟩
  rw [hN] at hNv hN64 hdir
  go_enter Try.func32, Try.ntmps32
  go_wp2_with fail
  go_loopg [6, 13] (N + 1) (fun kq v6 v13 w' => ∃ (i v : Nat) (f : Enc), v6 = .int .u64 (v : Int) ∧ v13 = .int .i64 (i : Int) ∧ Aside0 (kq = N - i + 1) ∧ Aside0 (i ≤ N) ∧ Aside0 (v < 2 ^ i) ∧ Aside0 (dirS s (N - i) f v = (V, er, f')) ∧ Aside0 f.ok ∧ Aside0 (f.L ≤ e.L + 4 * i) ∧ Aside0 (LiveAt w' g s f) ∧ Aside0 (Mine (· = g) w w'))
  case atStart => exact ⟨0, 0, e, rfl, rfl, ⟨rfl⟩, ⟨Nat.zero_le _⟩, ⟨by decide⟩, hdir, hok, ⟨Nat.le_refl _⟩, hS, ⟨Mine.refl _ _⟩⟩
  case round =>
    clear hdir hS
    obtain ⟨i, v, f, rfl, rfl, hk, hi, hv, hd, hfo, hfL, HS, HM⟩ := hrel
    cases gk with
    | zero => exact absurd hk.out (by omega)
    | succ k1 =>
      have hi2 := hi.out
      by_cases hiN : i < N
      · have hiN1 : decide ((i : Int) < (N : Int)) = true := decide_eq_true (by omega)
        obtain ⟨m, hm⟩ : ∃ m, N - i = m + 1 := ⟨N - i - 1, by omega⟩
        rw [hm] at hd
        have hfLb : Aside0 (f.L ≤ 1000000000) := ⟨by have := hfL.out; have := hL.out; have := hN64.out; omega⟩
        go_wp2_with fail
        refine (dec_gate.calls s f g wr HS.out hfo.out hfLb.out hsz.out).mono ?_
        rintro r w1 ⟨rfl, hgo, hdead, hmn⟩
        rcases errE_small s f with he | he
        · obtain ⟨hD, hlt, hfit, hnum⟩ := hgo he
          rw [he]
          have HD := Aside0.mk hD
          have HM1 := Aside0.mk (Mine.then_ HM.out hmn (fun k hk => Or.inl hk))
          have hc4 : w1.cell? ⟨g, 4, none⟩ = some (.int .u64 (f.R : Int)) := blk_cell (show w1.heap[g]? = some _ from hD) 4
          have hf4 := blk_frozen (show w1.heap[g]? = some (.cells (decCells s _ _ _ _ false) 95 (0, 0)) from hD) 4
          clear hgo hdead hmn hD HM HS
          obtain ⟨x, hx⟩ : ∃ x, dE s f = x := ⟨_, rfl⟩
          rw [hx] at HD hlt hnum
          have hR := hfo.out.2.2.1
          have hR1 := hfo.out.2.1
          obtain ⟨h, hh⟩ : ∃ h, f.R / 2 = h := ⟨_, rfl⟩
          have hh1 : (f.R : Int) / 2 = (h : Int) := by omega
          have hh2 : IntKind.u64.wrap (h : Int) = (h : Int) := wrap_u64 _ (by omega) (by omega)
          have hvb : v < 9223372036854775808 := Nat.lt_of_lt_of_le hv.out (by have : 2 ^ i ≤ 2 ^ 63 := Nat.pow_le_pow_right (by decide) (by have := hN64.out; omega); exact this)
          obtain ⟨y, hy⟩ : ∃ y, v * 2 = y := ⟨_, rfl⟩
          have hvy : IntKind.u64.wrap ((v : Int) * 2) = (y : Int) := by rw [IntKind.wrap_u64]; omega
          have hor := or_one v y hy (by omega)
          obtain ⟨y1, hy1⟩ : ∃ y1, v * 2 + 1 = y1 := ⟨_, rfl⟩
          rw [hy1] at hor
          have hp2 : 2 ^ (i + 1) = 2 ^ i * 2 := Nat.pow_succ 2 i
          have hv2 := hv.out
          have hNext := Aside0.mk (And.intro hp2 (And.intro hy hy1))
          go_wp2_with fail
          have HD2 : Aside0 (DecAt (w1.setCell ⟨g, 4, none⟩ (.int .u64 (h : Int))) g s ⟨f.V, f.L, h⟩ (f.L + 4) x) := ⟨blk_put (show w1.heap[g]? = some _ from HD.out) 4 _ rfl⟩
          have HM2 := Aside0.mk (Mine.set (S := (· = g)) (i := 4) HM1.out (Or.inl rfl) (.int .u64 (h : Int)))
          refine (dec_part.calls s ⟨f.V, f.L, h⟩ (f.L + 4) x g h _ HD2 (by omega) (by omega)).mono ?_
          rintro r w3 ⟨rfl, hD3, hm3⟩
          have HD3 := Aside0.mk hD3
          have HM3 := Aside0.mk (Mine.then_ HM2.out hm3 (fun k hk => Or.inl hk))
          clear HD2 HM2 hm3 hD3 HD HM1 hc4 hf4
          by_cases hzx : h ≤ x
          · rw [if_pos hzx] at HD3
            have hb1 : decide (h ≤ x) = true := decide_eq_true hzx
            have hdr := dirS_ok s m f v he true (by rw [hh, hx]; exact hb1)
            rw [hdr] at hd
            go_wp2_with fail
            have HD3x : DecAt w3 g s ⟨f.V + h, f.L, h⟩ (f.L + 4) (x - h) := HD3.out
            refine (dec_grow.calls s ⟨f.V + h, f.L, h⟩ (f.L + 4) (x - h) g w3 ⟨HD3x⟩ ⟨by have := halfP_pre hfo.out true; unfold halfP at this; rw [if_pos rfl, hh] at this; exact this⟩ hfLb).mono ?_
            rintro r w5 ⟨rfl, hD5, hm5⟩
            have hE : growE 4 ⟨f.V + h, f.L, h⟩ = halfE true f := by unfold halfE halfP; rw [if_pos rfl, hh]
            have hIn : DecIn s (halfE true f) (f.L + 4) (x - h) := by
              rw [← hE]
              exact DecIn.grow 4 _ (DecIn.all (e := ⟨f.V + h, f.L, h⟩) hfit (by simp only; omega) (by simp only; omega)) (by simp only; omega)
            rw [hE] at hD5
            have hLv : LiveAt w5 g s (halfE true f) := ⟨f.L + 4, (x - h), hD5, hIn⟩
            have hLn := halfE_L true f
            have hHM := Aside0.mk (Mine.then_ HM3.out hm5 (fun k hk => Or.inl hk))
            have hHd : Aside0 (dirS s (N - (i + 1)) (halfE true f) y1 = (V, er, f')) := ⟨by rw [show N - (i + 1) = m by omega]; have := hd.out; rw [show v * 2 + true.toNat = y1 from hy1] at this; exact this⟩
            have hvn : Aside0 (y1 < 2 ^ (i + 1)) := ⟨by rw [hNext.out.1]; omega⟩
            have hkn : Aside0 (k1 = N - (i + 1) + 1) := ⟨by have := hk.out; omega⟩
            have hfLn : Aside0 ((halfE true f).L ≤ e.L + 4 * (i + 1)) := ⟨by have := hfL.out; omega⟩
            clear hvy hor hh1 hh2 hp2
            have hi64 : (i : Int) ≤ 64 := by have := hN64.out; omega
            go_wp2_with fail
            go_roundg k1
            case measure => have := hk.out; omega
            case rel => exact ⟨i + 1, y1, _, rfl, rfl, hkn, ⟨hiN⟩, hvn, hHd, ⟨halfE_ok hfo.out _⟩, hfLn, ⟨hLv⟩, hHM⟩
          · rw [if_neg hzx] at HD3
            have hb1 : decide (h ≤ x) = false := decide_eq_false hzx
            have hdr := dirS_ok s m f v he false (by rw [hh, hx]; exact hb1)
            rw [hdr] at hd
            go_wp2_with fail
            refine (dec_grow.calls s ⟨f.V, f.L, h⟩ (f.L + 4) x g w3 HD3 ⟨by have := halfP_pre hfo.out false; unfold halfP at this; rw [if_neg Bool.false_ne_true, hh] at this; exact this⟩ hfLb).mono ?_
            rintro r w5 ⟨rfl, hD5, hm5⟩
            have hE : growE 4 ⟨f.V, f.L, h⟩ = halfE false f := by unfold halfE halfP; rw [if_neg Bool.false_ne_true, hh]
            have hIn : DecIn s (halfE false f) (f.L + 4) x := by
              rw [← hE]
              exact DecIn.grow 4 _ (DecIn.all (e := ⟨f.V, f.L, h⟩) hfit (by simp only; omega) (by simp only; omega)) (by simp only; omega)
            rw [hE] at hD5
            have hLv : LiveAt w5 g s (halfE false f) := ⟨f.L + 4, x, hD5, hIn⟩
            have hLn := halfE_L false f
            have hHM := Aside0.mk (Mine.then_ HM3.out hm5 (fun k hk => Or.inl hk))
            have hHd : Aside0 (dirS s (N - (i + 1)) (halfE false f) y = (V, er, f')) := ⟨by rw [show N - (i + 1) = m by omega]; have := hd.out; rw [show v * 2 + false.toNat = y from hy] at this; exact this⟩
            have hvn : Aside0 (y < 2 ^ (i + 1)) := ⟨by rw [hNext.out.1]; omega⟩
            have hkn : Aside0 (k1 = N - (i + 1) + 1) := ⟨by have := hk.out; omega⟩
            have hfLn : Aside0 ((halfE false f).L ≤ e.L + 4 * (i + 1)) := ⟨by have := hfL.out; omega⟩
            clear hvy hor hh1 hh2 hp2
            have hi64 : (i : Int) ≤ 64 := by have := hN64.out; omega
            go_wp2_with fail
            go_roundg k1
            case measure => have := hk.out; omega
            case rel => exact ⟨i + 1, y, _, rfl, rfl, hkn, ⟨hiN⟩, hvn, hHd, ⟨halfE_ok hfo.out _⟩, hfLn, ⟨hLv⟩, hHM⟩
        · have hdd := hdead (by omega)
          rw [dirS_err s m f v (by omega)] at hd
          have hd3 := hd.out
          injection hd3 with e1 e2
          injection e2 with e2 e3
          subst e1 e3
          rcases he with he | he
          · rw [he] at e2 ⊢
            subst e2
            go_wp2
            go_ret2
            exact ⟨rfl, fun h => absurd h (by decide), fun _ => hdd, Mine.then_ HM.out hmn (fun k hk => Or.inl hk)⟩
          · rw [he] at e2 ⊢
            subst e2
            go_wp2
            go_ret2
            exact ⟨rfl, fun h => absurd h (by decide), fun _ => hdd, Mine.then_ HM.out hmn (fun k hk => Or.inl hk)⟩
      · have hiN1 : decide ((i : Int) < (N : Int)) = false := decide_eq_false (by omega)
        have hd3 := hd.out
        rw [show N - i = 0 by omega, dirS_zero] at hd3
        injection hd3 with e1 e2
        injection e2 with e2 e3
        subst e1 e2 e3
        go_wp2
        go_ret2
        exact ⟨rfl, ⟨HS.out, hfo.out, by have := hfL.out; have := hN64.out; omega⟩, HM.out⟩
set_option maxHeartbeats 4000000 in
set_option maxRecDepth 100000 in
theorem dec_Direct.dead (s : ByteArray) (g : Nat) (n : Int) (w : World) (hS : Aside0 (DeadAt w g s)) (er : Nat) (her : er = if lenN n = 0 then 0 else 3) :
    Calls Try.prog 32 #[.pointer (some ⟨g, 0, none⟩), .int .i64 n] w fun r w' => r = .returned (.tuple #[.int .u64 0, .int .i64 (er : Int)]) ∧ Below w.heap.size w w' := by
  have hNv := lenN_val n
  by_cases hN : lenN n = 0
  · rw [if_pos hN] at her
    subst her
    rw [hN] at hNv
    go_enter Try.func32, Try.ntmps32
    go_wp2_with fail
    refine wp_loop_rounds 1 ?_
    rw [rounds_succ]
    go_wp2
    go_ret2
    exact ⟨rfl, Below.refl _ _⟩
  · rw [if_neg hN] at her
    subst her
    obtain ⟨m, hm⟩ : ∃ m, lenN n = m := ⟨_, rfl⟩
    rw [hm] at hNv hN
    have h0 : decide (0 < (m : Int)) = true := decide_eq_true (by omega)
    have h1 : decide (0 < m) = true := decide_eq_true (by omega)
    go_enter Try.func32, Try.ntmps32
    go_wp2_with fail
    refine wp_loop_rounds 1 ?_
    rw [rounds_succ]
    go_wp2_with fail
    refine (dec_gate.dead s g w hS).mono ?_
    rintro r w' ⟨rfl, hb⟩
    go_wp2
    go_ret2
    exact ⟨rfl, hb⟩
/-- What the end says. -/
def endE (s : ByteArray) (e : Enc) : Nat := if errE s e = 0 then (if dE s e = 0 ∧ e.L + 4 = s.size then 0 else 3) else errE s e
set_option maxHeartbeats 4000000 in
set_option maxRecDepth 100000 in
theorem dec_End.dead (s : ByteArray) (g : Nat) (w : World) (hS : Aside0 (DeadAt w g s)) :
    Calls Try.prog 36 #[.pointer (some ⟨g, 0, none⟩)] w fun r w' => r = .returned (.int .i64 3) ∧ Below w.heap.size w w' := by
  go_enter Try.func36, Try.ntmps36
  go_wp2_with fail
  refine (dec_gate.dead s g w hS).mono ?_
  rintro r w' ⟨rfl, hb⟩
  go_wp2
  go_ret
  exact ⟨rfl, hb⟩
set_option maxHeartbeats 4000000 in
set_option maxRecDepth 100000 in
theorem dec_End.live (s : ByteArray) (e : Enc) (g : Nat) (w : World) (hS : Aside0 (LiveAt w g s e)) (hok : Aside0 e.ok) (hL : Aside0 (e.L ≤ 1000000000)) (hsz : Aside0 (s.size ≤ 1000000000)) (n : Nat) (hn : Aside0 (endE s e = n)) :
    Calls Try.prog 36 #[.pointer (some ⟨g, 0, none⟩)] w fun r w' => r = .returned (.int .i64 (n : Int)) ∧ (n = 0 → LiveAt w' g s e) ∧ (n ≠ 0 → DeadAt w' g s) ∧ Mine (· = g) w w' := by
  have hu2 := Try.underlying95
  rcases errE_small s e with he | he
  · have hn2 : Aside0 ((if dE s e = 0 ∧ e.L + 4 = s.size then 0 else 3) = n) := ⟨by have := hn.out; unfold endE at this; rw [if_pos he] at this; exact this⟩
    obtain ⟨x, hx⟩ : ∃ x, dE s e = x := ⟨_, rfl⟩
    obtain ⟨q, hq⟩ : ∃ q, e.L + 4 = q := ⟨_, rfl⟩
    rw [hx, hq] at hn2
    by_cases hx0 : x = 0
    · by_cases hqs : q = s.size
      · have hn3 := hn2.out
        rw [if_pos ⟨hx0, hqs⟩] at hn3
        subst hn3
        have hb1 : ((x : Int) != 0) = false := by rw [hx0]; rfl
        have hb2 : ((q : Int) != (s.size : Int)) = false := by rw [hqs]; exact bne_self_eq_false _
        go_enter Try.func36, Try.ntmps36
        go_wp2_with fail
        refine (dec_gate.calls s e g w hS.out hok.out hL.out hsz.out).mono ?_
        rintro r w1 ⟨rfl, hgo, _, hm⟩
        obtain ⟨hD, hlt, hfit, hnum⟩ := hgo he
        rw [he]
        have hD2 := hD
        unfold DecAt at hD2
        rw [hx, hq] at hD2
        have hc3 : w1.cell? ⟨g, 3, none⟩ = some (.int .u64 (x : Int)) := blk_cell hD2 3
        have hc2 : w1.cell? ⟨g, 2, none⟩ = some (.int .i64 (q : Int)) := blk_cell hD2 2
        have hc0 : w1.cell? ⟨g, 0, none⟩ = some (.string s) := blk_cell hD2 0
        have hk := Aside0.mk (And.intro hD (And.intro hlt (And.intro hfit hnum)))
        clear hgo hD hlt hfit hnum hD2
        go_wp2_with fail
        go_quiet (fail)
        go_wp2
        go_ret
        obtain ⟨hD, hlt, hfit, hnum⟩ := hk.out
        refine ⟨rfl, fun _ => ⟨e.L + 4, dE s e, hD, DecIn.all hfit hnum (Nat.le_of_lt hlt)⟩, ?_⟩
        first
          | exact hm.drewN _
          | exact ⟨fun h => absurd rfl h, hm.drewN _⟩
          | exact ⟨fun h => absurd trivial h, hm.drewN _⟩
          | exact ⟨fun h => h.elim, hm.drewN _⟩
      · have hn3 := hn2.out
        rw [if_neg (fun h => hqs h.2)] at hn3
        subst hn3
        have hb1 : ((x : Int) != 0) = false := by rw [hx0]; rfl
        have hb2 : ((q : Int) != (s.size : Int)) = true := bne_iff_ne.2 (by omega)
        go_enter Try.func36, Try.ntmps36
        go_wp2_with fail
        refine (dec_gate.calls s e g w hS.out hok.out hL.out hsz.out).mono ?_
        rintro r w1 ⟨rfl, hgo, _, hm⟩
        obtain ⟨hD, _, _, _⟩ := hgo he
        rw [he]
        have hD2 := hD
        unfold DecAt at hD2
        rw [hx, hq] at hD2
        have hc3 : w1.cell? ⟨g, 3, none⟩ = some (.int .u64 (x : Int)) := blk_cell hD2 3
        have hc2 : w1.cell? ⟨g, 2, none⟩ = some (.int .i64 (q : Int)) := blk_cell hD2 2
        have hc0 : w1.cell? ⟨g, 0, none⟩ = some (.string s) := blk_cell hD2 0
        have hf5 := blk_frozen hD2 5
        have hc5 : w1.cell? ⟨g, 5, none⟩ = some (.bool false) := blk_cell hD2 5
        have hk := Aside0.mk hD2
        clear hgo hD hD2
        go_wp2_with fail
        go_quiet (fail)
        go_wp2
        go_ret
        exact ⟨rfl, fun h => absurd h (by decide), fun _ => ⟨_, _, _, _, blk_put (cs' := decCells s (q : Int) (q : Int) (x : Int) (e.R : Int) true) (blk_drewN hk.out _) 5 (.bool true) rfl⟩, Mine.set (S := (· = g)) (i := 5) (hm.drewN _) (Or.inl rfl) _⟩
    · have hn3 := hn2.out
      rw [if_neg (fun h => hx0 h.1)] at hn3
      subst hn3
      have hb1 : ((x : Int) != 0) = true := bne_iff_ne.2 (by omega)
      go_enter Try.func36, Try.ntmps36
      go_wp2_with fail
      refine (dec_gate.calls s e g w hS.out hok.out hL.out hsz.out).mono ?_
      rintro r w1 ⟨rfl, hgo, _, hm⟩
      obtain ⟨hD, _, _, _⟩ := hgo he
      rw [he]
      have hD2 := hD
      unfold DecAt at hD2
      rw [hx, hq] at hD2
      have hc3 : w1.cell? ⟨g, 3, none⟩ = some (.int .u64 (x : Int)) := blk_cell hD2 3
      have hc2 : w1.cell? ⟨g, 2, none⟩ = some (.int .i64 (q : Int)) := blk_cell hD2 2
      have hc0 : w1.cell? ⟨g, 0, none⟩ = some (.string s) := blk_cell hD2 0
      have hf5 := blk_frozen hD2 5
      have hc5 : w1.cell? ⟨g, 5, none⟩ = some (.bool false) := blk_cell hD2 5
      have hk := Aside0.mk hD2
      clear hgo hD hD2
      go_wp2_with fail
      go_quiet (fail)
      go_wp2
      go_ret
      exact ⟨rfl, fun h => absurd h (by decide), fun _ => ⟨_, _, _, _, blk_put (cs' := decCells s (q : Int) (q : Int) (x : Int) (e.R : Int) true) (blk_drewN hk.out _) 5 (.bool true) rfl⟩, Mine.set (S := (· = g)) (i := 5) (hm.drewN _) (Or.inl rfl) _⟩
  · have hn2 := hn.out
    unfold endE at hn2
    rw [if_neg (by omega)] at hn2
    have hdn : Aside0 (errE s e ≠ 0) := ⟨by omega⟩
    rcases he with he | he
    · rw [he] at hn2
      subst hn2
      go_enter Try.func36, Try.ntmps36
      go_wp2_with fail
      refine (dec_gate.calls s e g w hS.out hok.out hL.out hsz.out).mono ?_
      rintro r w1 ⟨rfl, _, hd, hm⟩
      have hdd := hd hdn.out
      rw [he]
      clear hd
      go_wp2
      go_ret
      exact ⟨rfl, fun h => absurd h (by decide), fun _ => hdd, hm⟩
    · rw [he] at hn2
      subst hn2
      go_enter Try.func36, Try.ntmps36
      go_wp2_with fail
      refine (dec_gate.calls s e g w hS.out hok.out hL.out hsz.out).mono ?_
      rintro r w1 ⟨rfl, _, hd, hm⟩
      have hdd := hd hdn.out
      rw [he]
      clear hd
      go_wp2
      go_ret
      exact ⟨rfl, fun h => absurd h (by decide), fun _ => hdd, hm⟩
end Go.Proofs.Ytgldblakdhalkaa
