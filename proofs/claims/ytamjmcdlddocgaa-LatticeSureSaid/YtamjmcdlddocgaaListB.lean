/- The reference's Rows. -/
import Derived.Test.YtamjmcdlddocgaaListA
namespace Go.Proofs.Ytamjmcdlddocgaa
open Go.ChangeShapes Go.WideShapes Go.RowKit
set_option linter.unusedVariables false
set_option linter.unusedSimpArgs false
end Go.Proofs.Ytamjmcdlddocgaa
