/- Package cdcl: no at level 0. -/
import Derived.Test.YtnndmdfjdodiiaaGreatTtKy
namespace Go.Proofs.YtnndmdfjdodiiaaGreat
open Go.ChangeShapes Go.WideShapes Go.RowKit Go.Maps
set_option linter.unusedVariables false
set_option linter.unusedSimpArgs false
end Go.Proofs.YtnndmdfjdodiiaaGreat
