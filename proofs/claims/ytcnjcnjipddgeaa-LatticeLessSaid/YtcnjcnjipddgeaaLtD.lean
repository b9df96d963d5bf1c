/- What is asked of lists of exact numbers: package lattice: is one of the numbers not whole? -/
import Derived.Test.YtcnjcnjipddgeaaFkAA
namespace Go.Proofs.Ytcnjcnjipddgeaa
set_option linter.unusedSimpArgs false
set_option linter.unusedVariables false
open Go.ChangeShapes Go.WideShapes Go.RowKit
def frP (q:Rat):Bool:= !decide (q.den=1)
end Go.Proofs.Ytcnjcnjipddgeaa
