/- An operation that came in: its four parts. -/
import Derived.Test.YtdefdccbcnpodaaOpsMay
import Derived.Lib.SmallJoins
namespace Go.Proofs.Ytdefdccbcnpodaa
open Go.ChangeShapes Go.WideShapes Go.ChangeAt Go.RowKit
set_option linter.unusedVariables false

set_option maxRecDepth 100000 in
theorem open_op {H : Type} {enc : TypeId × Value → H} {w : World} {base b0 : Nat} {spare : Nat → Bool} {held : Bool} {r : Reach} {v : Value} {d : DataW H} {p : List MemPlace}
    (hv : Value.okWide Try.prog w r b0 26 v) (h : DataW.Trod enc Try.prog w base spare held 26 v d p) :
    ∃ (k : Int) (s t : ByteArray) (n : Int), v = .agg #[.int .i64 k, .string s, .string t, .int .i64 n] ∧ s.size ≤ maxLen ∧ t.size ≤ maxLen ∧ (Lit.int .i64 k).wf = true ∧ (Lit.int .i64 n).wf = true := by
  obtain ⟨v0, v1, v2, v3, y0, y1, y2, y3, n, rfl, _, _, h0, h1, h2, h3⟩ := Go.Joins.open_agg4 Try.underlying26 (by kernel_rfl) (by kernel_rfl) hv h
  obtain ⟨k, e0, _, w0⟩ := DataW.trod_int Try.underlying3 h0
  obtain ⟨s, e1, _, w1⟩ := DataW.trod_string Try.underlying9 h1
  obtain ⟨t, e2, _, w2⟩ := DataW.trod_string Try.underlying9 h2
  obtain ⟨m, e3, _, w3⟩ := DataW.trod_int Try.underlying3 h3
  cases e0; cases e1; cases e2; cases e3
  exact ⟨k, s, t, m, rfl, w1, w2, w0, w3⟩
end Go.Proofs.Ytdefdccbcnpodaa
