/- The walk of the law RowForms. -/
import Derived.Test.YtamjmcdlddocgaaGreatRowBB
namespace Go.Proofs.YtamjmcdlddocgaaGreat
open Go.ChangeShapes Go.WideShapes Go.RowKit
set_option linter.unusedVariables false
set_option linter.unusedSimpArgs false
end Go.Proofs.YtamjmcdlddocgaaGreat
