/- Package row's Tidy, of rows with numbers. Package row's Tidy: every row. The reference's SameRow: are two rows the same? Package row's Whole. Package row's Whole, of rows with numbers. The reference's rowBy. The reference's RowTidy. The reference's RowWhole. -/
import Derived.Test.YtamjmcdlddocgaaGreatRowAA
import Derived.Test.YtamjmcdlddocgaaGreatBaseB
namespace Go.Proofs.YtamjmcdlddocgaaGreat
open Go.ChangeShapes Go.WideShapes Go.RowKit
set_option linter.unusedVariables false
set_option linter.unusedSimpArgs false
end Go.Proofs.YtamjmcdlddocgaaGreat
namespace Go.Proofs.YtamjmcdlddocgaaGreat
open Go.ChangeShapes Go.WideShapes Go.RowKit
set_option linter.unusedVariables false
set_option linter.unusedSimpArgs false
end Go.Proofs.YtamjmcdlddocgaaGreat
namespace Go.Proofs.YtamjmcdlddocgaaGreat
open Go.ChangeShapes Go.WideShapes Go.RowKit
set_option linter.unusedVariables false
set_option linter.unusedSimpArgs false
def sameR (a b : Rw) : Prop := a.kind = b.kind ∧ a.to = b.to ∧ a.of = b.of
instance (a b : Rw) : Decidable (sameR a b) := by unfold sameR; infer_instance
end Go.Proofs.YtamjmcdlddocgaaGreat
namespace Go.Proofs.YtamjmcdlddocgaaGreat
open Go.ChangeShapes Go.WideShapes Go.RowKit
set_option linter.unusedVariables false
set_option linter.unusedSimpArgs false
end Go.Proofs.YtamjmcdlddocgaaGreat
namespace Go.Proofs.YtamjmcdlddocgaaGreat
open Go.ChangeShapes Go.WideShapes Go.RowKit
set_option linter.unusedVariables false
set_option linter.unusedSimpArgs false
end Go.Proofs.YtamjmcdlddocgaaGreat
namespace Go.Proofs.YtamjmcdlddocgaaGreat
open Go.ChangeShapes Go.WideShapes Go.RowKit
set_option linter.unusedVariables false
set_option linter.unusedSimpArgs false
end Go.Proofs.YtamjmcdlddocgaaGreat
namespace Go.Proofs.YtamjmcdlddocgaaGreat
open Go.ChangeShapes Go.WideShapes Go.RowKit
set_option linter.unusedVariables false
set_option linter.unusedSimpArgs false
end Go.Proofs.YtamjmcdlddocgaaGreat
namespace Go.Proofs.YtamjmcdlddocgaaGreat
open Go.ChangeShapes Go.WideShapes Go.RowKit
set_option linter.unusedVariables false
set_option linter.unusedSimpArgs false
end Go.Proofs.YtamjmcdlddocgaaGreat
