/- The walk of Cut of the layer enc's reference, where there is a text; both functions' answers at every input. -/
import Derived.Test.YtofadpodlaakbaaJ1
import Derived.Deep.RegionLaw
namespace Go.Proofs.Ytofadpodlaakbaa
open Go.ChangeShapes Go.WideShapes Go.ChangeAt Go.RowKit
set_option linter.unusedVariables false


theorem cut_any (a : Option Addr) (n c : Nat) (l : List UInt8) (most : Int) (w : World) (hr : Rd w a n c l) (hn : n ≤ 140737488351232) (m0 : -9223372036854775808 ≤ most) (m1 : most ≤ 9223372036854775807) :
    Calls Try.prog 55 #[.slice a n c, .int .i64 most] w (CutP l most w) := by
  cases h : cutIs l most with
  | false => exact cut_none a n c l most w hr hn m0 m1 h
  | true =>
    have := cut_parts h
    rcases hr.cells with h0 | ⟨b, off, rfl, _, _⟩
    · have := hr.len; omega
    · exact cut_some b off n c l most w hr hn m0 m1 h
end Go.Proofs.Ytofadpodlaakbaa
