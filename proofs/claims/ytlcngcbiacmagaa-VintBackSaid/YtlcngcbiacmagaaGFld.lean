/- The fields of the reference's answer (a number, a place, an error), read off its value. -/
import Derived.Test.YtlcngcbiacmagaaWMore
import Derived.Test.YtlcngcbiacmagaaProg
import Derived.KernelRfl
namespace Go.Proofs.Ytlcngcbiacmagaa
theorem fld0 (a b c : Int) (W : World) : (Instr.field 35 (.agg #[.int .u64 a, .int .i64 b, .int .i64 c]) 0).run Try.prog W = .ok (.int .u64 a) W := by kernel_rfl
theorem fld1 (a b c : Int) (W : World) : (Instr.field 35 (.agg #[.int .u64 a, .int .i64 b, .int .i64 c]) 1).run Try.prog W = .ok (.int .i64 b) W := by kernel_rfl
theorem fld2 (a b c : Int) (W : World) : (Instr.field 35 (.agg #[.int .u64 a, .int .i64 b, .int .i64 c]) 2).run Try.prog W = .ok (.int .i64 c) W := by kernel_rfl
theorem gld0 (v : Value) (b : Bool) (W : World) : (Instr.field 45 (.agg #[v, .bool b]) 0).run Try.prog W = .ok v W := by kernel_rfl
theorem gld1 (v : Value) (b : Bool) (W : World) : (Instr.field 45 (.agg #[v, .bool b]) 1).run Try.prog W = .ok (.bool b) W := by kernel_rfl
end Go.Proofs.Ytlcngcbiacmagaa
