/- The fields of the reference's answer (a number, a place, an error), read off its value. -/
import Derived.Test.YtckjigbhdndgdaaWMore
import Derived.Test.YtckjigbhdndgdaaProg
import Derived.KernelRfl
namespace Go.Proofs.Ytckjigbhdndgdaa
theorem fld0 (a b c : Int) (W : World) : (Instr.field 48 (.agg #[.int .u64 a, .int .i64 b, .int .i64 c]) 0).run Try.prog W = .ok (.int .u64 a) W := by kernel_rfl
theorem fld1 (a b c : Int) (W : World) : (Instr.field 48 (.agg #[.int .u64 a, .int .i64 b, .int .i64 c]) 1).run Try.prog W = .ok (.int .i64 b) W := by kernel_rfl
theorem fld2 (a b c : Int) (W : World) : (Instr.field 48 (.agg #[.int .u64 a, .int .i64 b, .int .i64 c]) 2).run Try.prog W = .ok (.int .i64 c) W := by kernel_rfl
end Go.Proofs.Ytckjigbhdndgdaa
