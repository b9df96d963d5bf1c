/- Plain laws of rows: tidied rows stay as they are, and hold where they held. -/
import Derived.Test.YtamjmcdlddocgaaGreatRowLawB
namespace Go.Proofs.YtamjmcdlddocgaaGreat
open Go.ChangeShapes Go.WideShapes Go.RowKit
set_option linter.unusedVariables false
set_option linter.unusedSimpArgs false
end Go.Proofs.YtamjmcdlddocgaaGreat
