/- An id's cells, and a variable that takes them. -/
import Derived.Test.YtofadpodlaakbaaGreatShaSum
namespace Go.Proofs.YtofadpodlaakbaaGreat
open Go.ChangeShapes Go.WideShapes Go.ChangeAt Go.RowKit
set_option linter.unusedVariables false
def idC (l : List UInt8) : List Value := (idOf l).map (Value.int .u8)
theorem idC_length (l : List UInt8) : (idC l).length = 32 := by simp [idC, idOf, Q8.bytes, fourL]
end Go.Proofs.YtofadpodlaakbaaGreat
