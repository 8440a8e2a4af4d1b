/- The comparison of two operations. -/
import Derived.Test.YtofadpodlaakbaaGreatOpsGet
import Derived.Laws.StructEq
namespace Go.Proofs.YtofadpodlaakbaaGreat
open Go.ChangeShapes Go.WideShapes Go.ChangeAt Go.RowKit
set_option linter.unusedVariables false
end Go.Proofs.YtofadpodlaakbaaGreat
