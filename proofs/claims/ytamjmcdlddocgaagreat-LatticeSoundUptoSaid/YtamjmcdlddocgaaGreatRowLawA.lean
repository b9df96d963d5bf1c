/- Plain laws of rows: the contrary. -/
import Derived.Test.YtamjmcdlddocgaaGreatPtAA
import Derived.Test.YtamjmcdlddocgaaGreatRowFormsU
namespace Go.Proofs.YtamjmcdlddocgaaGreat
open Go.ChangeShapes Go.WideShapes Go.RowKit
set_option linter.unusedVariables false
set_option linter.unusedSimpArgs false
end Go.Proofs.YtamjmcdlddocgaaGreat
