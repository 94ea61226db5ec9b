/- The builtins min and max of two whole numbers, in the words mn and mx, which the walk does not take apart. -/
import Derived.Test.YtgldblakdhalkaaWMore
namespace Go.Proofs.Ytgldblakdhalkaa
open Go.Proofs.YtgldblakdhalkaaW.PrintWords Go.Proofs.YtgldblakdhalkaaW.PrintLast Go.Proofs.YtgldblakdhalkaaW.PrintMore
theorem max2_mx (k k' : IntKind) (x y : Int) : Builtin.max2 (.int k x) (.int k' y) = pure (.int k (mx x y)) := by simp only [Builtin.max2, gt_iff_lt, mx]
theorem min2_mn (k k' : IntKind) (x y : Int) : Builtin.min2 (.int k x) (.int k' y) = pure (.int k (mn x y)) := by simp only [Builtin.min2, mn]
end Go.Proofs.Ytgldblakdhalkaa
