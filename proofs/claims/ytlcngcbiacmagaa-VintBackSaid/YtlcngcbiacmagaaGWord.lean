/- vint.Word of any number is its eight bytes, the lowest first; the memory that was there stays. -/
import Derived.Test.YtlcngcbiacmagaaPReaderx0
import Derived.WalkLawsBesides
import Derived.LoopN
namespace Go.Proofs.Ytlcngcbiacmagaa
open Go.RowKit Go.Proofs.YtlcngcbiacmagaaW.PrintWords Go.Proofs.YtlcngcbiacmagaaW.PrintLast Go.Proofs.YtlcngcbiacmagaaW.PrintMore
/-- A number's eight bytes, the lowest first. -/
def wordBytes (a0 : Int) : List Int := [a0 % 256, a0 / 256 % 256, a0 / 65536 % 256, a0 / 16777216 % 256, a0 / 4294967296 % 256, a0 / 1099511627776 % 256, a0 / 281474976710656 % 256, a0 / 72057594037927936 % 256]
def vint_Word.f (a0 : Int) : Option ByteArray := some (strOfNums (wordBytes a0))
theorem word_cells (W : World) (xs : List Int) (h : xs.length = 8) (t : TypeId) (i : Nat) (hi : i < 8) : (W.alloc (.cells (xs.map (Value.int .u8)).toArray t)).cell? ⟨W.heap.size, 0 + i, none⟩ = some (.int .u8 (xs.getD i 0)) := by
  match xs, h with
  | [x0, x1, x2, x3, x4, x5, x6, x7], _ =>
    match i, hi with
    | 0, _ => go_simp
    | 1, _ => go_simp
    | 2, _ => go_simp
    | 3, _ => go_simp
    | 4, _ => go_simp
    | 5, _ => go_simp
    | 6, _ => go_simp
    | 7, _ => go_simp
set_option maxHeartbeats 2000000 in
set_option maxRecDepth 100000 in
theorem vint_Word.calls (a0 : Int) (r : ByteArray) (w : World) (h : vint_Word.f a0 = some r) :
    Calls Try.prog 16 #[.int .u64 a0] w fun e w' => e = .returned (.string r) ∧ Below w.heap.size w w' := by
  have H := Aside0.mk (Option.some.inj h)
  clear h
  have hcv := run_convert_bytes_arg (P := Try.prog) (w.alloc (.cells #[Value.int .u8 (a0 % 256), Value.int .u8 (a0 / 256 % 256), Value.int .u8 (a0 / 65536 % 256), Value.int .u8 (a0 / 16777216 % 256), Value.int .u8 (a0 / 4294967296 % 256), Value.int .u8 (a0 / 1099511627776 % 256), Value.int .u8 (a0 / 281474976710656 % 256), Value.int .u8 (a0 / 72057594037927936 % 256)] 57)) 24 5 Try.underlying24 Try.underlying5 w.heap.size 0 8 8 (wordBytes a0) rfl (word_cells w (wordBytes a0) rfl 57) 9 Try.underlying9
  go_enter Try.func16, Try.ntmps16
  go_wp2
  refine wp_loop_rounds 9 ?_
  iterate 9
    rw [rounds_succ]
    go_wp2
  go_ret
  refine ⟨?_, (Below.refl _ _).alloc (Nat.le_refl _) _⟩
  rw [← H.out]
  rfl
end Go.Proofs.Ytlcngcbiacmagaa
