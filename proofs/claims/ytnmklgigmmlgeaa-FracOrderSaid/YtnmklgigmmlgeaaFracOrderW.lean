/- The walk of the law FracOrder for every three fractions. -/
import Derived.Test.YtnmklgigmmlgeaaFracOrderB
import Derived.Test.YtnmklgigmmlgeaaOpen
namespace Go.Proofs.Ytnmklgigmmlgeaa
open Go.ChangeShapes Go.WideShapes Go.RowKit
set_option linter.unusedVariables false

theorem fracOrder_walk (w : World) (n1 d1 n2 d2 n3 d3 : Int) (_h1 : I64 n1 ∧ I64 d1) (_h2 : I64 n2 ∧ I64 d2) (_h3 : I64 n3 ∧ I64 d3) :
    Calls Try.prog 7 #[.agg #[.int .i64 n1, .int .i64 d1], .agg #[.int .i64 n2, .int .i64 d2], .agg #[.int .i64 n3, .int .i64 d3]] w fun e w' => e = .returned (.bool true) ∧ Below w.heap.size w w' := by
  by_cases k : FracOK n1 d1 ∧ FracOK n2 d2
  · by_cases k3 : FracOK n3 d3
    · exact fracOrder_ok w n1 d1 n2 d2 n3 d3 k.1 k.2 k3
    · exact fracOrder_bad2 w n1 d1 n2 d2 n3 d3 k.1 k.2 k3
  · exact fracOrder_bad1 w n1 d1 n2 d2 n3 d3 k
end Go.Proofs.Ytnmklgigmmlgeaa
