/-
  No cell of these rows narrows 'for every input' (looked for: loops, veiled, ifaces, maps, wideKeys, modest, calm, conditions, laid).
  DERIVED. THE GIVEN ROWS OF THIS SEAT. 8 by the template 'for every input the law returns true; each argument reads behind the call as it read before'; 0 by the template 'total and deterministic' (their statements: YtgehpjojcfbldaaTotals.lean).
  GIVEN WITH THE SEED: the statements are not yours to turn. If you find one false, say at which input.
  Laid BY PROGRAM, IN A SANDBOX (cutbox-rows.mjs): the forced cells as the released guide's own fill.sh prints them over the translation 2cca121ecf22e3b2… (all of the seat's roots in one cut). By AI agents, Wed Nov 11 2026. No macro, syntax, notation, axiom, sorry.
-/
import Derived.Test.YtgehpjojcfbldaaChecked
import GoSem.Claim
import GoSem.ClaimJoined
import GoSem.ClaimMapViews
import Derived.JoinedTies
import Derived.KernelRfl
namespace Go.Proofs.Ytgehpjojcfbldaa
/- THE CELL 'sum', in the pinned program and in every row, IS THE sha256 OF THE DUMP (.gsa) THAT YtgehpjojcfbldaaProg.lean LOADS. Nothing in Lean hashes anything: it is a label: what it is worth is what the hold of that sum in a sandbox is worth. -/
noncomputable def Try.pinned : Pinned := { name := "ytgehpjojcfbldaa", sum := "2cca121ecf22e3b26318352acaa926af20ae18799baf53f621e2540ebb7e03a0", checked := Try.checked }
namespace Rows
def none {H : Type} : Left H := { results := [], args := [] }

/-- 'anabranchlaw01.RotTells': WHATEVER THE INPUT: true; the input reads as it did. -/
def rotTellsSpec : ChangeSpec := { name := "rotTells", fn := fun _ => fun
  | [d1, d2, d3, d4] => { results := [.lit (.bool true)], args := [d1, d2, d3, d4] }
  | _ => none }
def rotTellsRow : OpenClaim := { program := "ytgehpjojcfbldaa", sum := "2cca121ecf22e3b26318352acaa926af20ae18799baf53f621e2540ebb7e03a0", func := "anabranch/anabranchlaw01.RotTells", spec := "rotTells", apart := false }
def RotTellsSaid : Prop := rotTellsRow.holds Try.pinned (OpenSpec.ofChange rotTellsSpec)

/-- ITS FALSE NEIGHBOUR: 'it returns false'. Refute it at one input. -/
def rotTellsWrong : ChangeSpec := { name := "rotTells", fn := fun _ => fun
  | [d1, d2, d3, d4] => { results := [.lit (.bool false)], args := [d1, d2, d3, d4] }
  | _ => none }
def RotTellsWrongFalsely : Prop := rotTellsRow.holds Try.pinned (OpenSpec.ofChange rotTellsWrong)

/-- 'anabranchlaw01.RotBytes': WHATEVER THE INPUT: true; the input reads as it did. -/
def rotBytesSpec : ChangeSpec := { name := "rotBytes", fn := fun _ => fun
  | [d1, d2, d3, d4] => { results := [.lit (.bool true)], args := [d1, d2, d3, d4] }
  | _ => none }
def rotBytesRow : OpenClaim := { program := "ytgehpjojcfbldaa", sum := "2cca121ecf22e3b26318352acaa926af20ae18799baf53f621e2540ebb7e03a0", func := "anabranch/anabranchlaw01.RotBytes", spec := "rotBytes", apart := false }
def RotBytesSaid : Prop := rotBytesRow.holds Try.pinned (OpenSpec.ofChange rotBytesSpec)

/-- ITS FALSE NEIGHBOUR: 'it returns false'. Refute it at one input. -/
def rotBytesWrong : ChangeSpec := { name := "rotBytes", fn := fun _ => fun
  | [d1, d2, d3, d4] => { results := [.lit (.bool false)], args := [d1, d2, d3, d4] }
  | _ => none }
def RotBytesWrongFalsely : Prop := rotBytesRow.holds Try.pinned (OpenSpec.ofChange rotBytesWrong)

/-- 'anabranchlaw01.RotRound': WHATEVER THE INPUT: true; the input reads as it did. -/
def rotRoundSpec : ChangeSpec := { name := "rotRound", fn := fun _ => fun
  | [d1, d2, d3] => { results := [.lit (.bool true)], args := [d1, d2, d3] }
  | _ => none }
def rotRoundRow : OpenClaim := { program := "ytgehpjojcfbldaa", sum := "2cca121ecf22e3b26318352acaa926af20ae18799baf53f621e2540ebb7e03a0", func := "anabranch/anabranchlaw01.RotRound", spec := "rotRound", apart := false }
def RotRoundSaid : Prop := rotRoundRow.holds Try.pinned (OpenSpec.ofChange rotRoundSpec)

/-- ITS FALSE NEIGHBOUR: 'it returns false'. Refute it at one input. -/
def rotRoundWrong : ChangeSpec := { name := "rotRound", fn := fun _ => fun
  | [d1, d2, d3] => { results := [.lit (.bool false)], args := [d1, d2, d3] }
  | _ => none }
def RotRoundWrongFalsely : Prop := rotRoundRow.holds Try.pinned (OpenSpec.ofChange rotRoundWrong)

/-- 'anabranchlaw01.RotBack': WHATEVER THE INPUT: true; the input reads as it did. -/
def rotBackSpec : ChangeSpec := { name := "rotBack", fn := fun _ => fun
  | [d1, d2, d3] => { results := [.lit (.bool true)], args := [d1, d2, d3] }
  | _ => none }
def rotBackRow : OpenClaim := { program := "ytgehpjojcfbldaa", sum := "2cca121ecf22e3b26318352acaa926af20ae18799baf53f621e2540ebb7e03a0", func := "anabranch/anabranchlaw01.RotBack", spec := "rotBack", apart := false }
def RotBackSaid : Prop := rotBackRow.holds Try.pinned (OpenSpec.ofChange rotBackSpec)

/-- ITS FALSE NEIGHBOUR: 'it returns false'. Refute it at one input. -/
def rotBackWrong : ChangeSpec := { name := "rotBack", fn := fun _ => fun
  | [d1, d2, d3] => { results := [.lit (.bool false)], args := [d1, d2, d3] }
  | _ => none }
def RotBackWrongFalsely : Prop := rotBackRow.holds Try.pinned (OpenSpec.ofChange rotBackWrong)

/-- 'anabranchlaw01.RotSame': WHATEVER THE INPUT: true; the input reads as it did. -/
def rotSameSpec : ChangeSpec := { name := "rotSame", fn := fun _ => fun
  | [d1, d2, d3] => { results := [.lit (.bool true)], args := [d1, d2, d3] }
  | _ => none }
def rotSameRow : OpenClaim := { program := "ytgehpjojcfbldaa", sum := "2cca121ecf22e3b26318352acaa926af20ae18799baf53f621e2540ebb7e03a0", func := "anabranch/anabranchlaw01.RotSame", spec := "rotSame", apart := false }
def RotSameSaid : Prop := rotSameRow.holds Try.pinned (OpenSpec.ofChange rotSameSpec)

/-- ITS FALSE NEIGHBOUR: 'it returns false'. Refute it at one input. -/
def rotSameWrong : ChangeSpec := { name := "rotSame", fn := fun _ => fun
  | [d1, d2, d3] => { results := [.lit (.bool false)], args := [d1, d2, d3] }
  | _ => none }
def RotSameWrongFalsely : Prop := rotSameRow.holds Try.pinned (OpenSpec.ofChange rotSameWrong)

/-- 'anabranchlaw01.RotBits': WHATEVER THE INPUT: true; the input reads as it did. -/
def rotBitsSpec : ChangeSpec := { name := "rotBits", fn := fun _ => fun
  | [d1, d2, d3, d4, d5] => { results := [.lit (.bool true)], args := [d1, d2, d3, d4, d5] }
  | _ => none }
def rotBitsRow : OpenClaim := { program := "ytgehpjojcfbldaa", sum := "2cca121ecf22e3b26318352acaa926af20ae18799baf53f621e2540ebb7e03a0", func := "anabranch/anabranchlaw01.RotBits", spec := "rotBits", apart := false }
def RotBitsSaid : Prop := rotBitsRow.holds Try.pinned (OpenSpec.ofChange rotBitsSpec)

/-- ITS FALSE NEIGHBOUR: 'it returns false'. Refute it at one input. -/
def rotBitsWrong : ChangeSpec := { name := "rotBits", fn := fun _ => fun
  | [d1, d2, d3, d4, d5] => { results := [.lit (.bool false)], args := [d1, d2, d3, d4, d5] }
  | _ => none }
def RotBitsWrongFalsely : Prop := rotBitsRow.holds Try.pinned (OpenSpec.ofChange rotBitsWrong)

/-- 'anabranchlaw01.RotEnds': WHATEVER THE INPUT: true; the input reads as it did. -/
def rotEndsSpec : ChangeSpec := { name := "rotEnds", fn := fun _ => fun
  | [d1, d2, d3] => { results := [.lit (.bool true)], args := [d1, d2, d3] }
  | _ => none }
def rotEndsRow : OpenClaim := { program := "ytgehpjojcfbldaa", sum := "2cca121ecf22e3b26318352acaa926af20ae18799baf53f621e2540ebb7e03a0", func := "anabranch/anabranchlaw01.RotEnds", spec := "rotEnds", apart := false }
def RotEndsSaid : Prop := rotEndsRow.holds Try.pinned (OpenSpec.ofChange rotEndsSpec)

/-- ITS FALSE NEIGHBOUR: 'it returns false'. Refute it at one input. -/
def rotEndsWrong : ChangeSpec := { name := "rotEnds", fn := fun _ => fun
  | [d1, d2, d3] => { results := [.lit (.bool false)], args := [d1, d2, d3] }
  | _ => none }
def RotEndsWrongFalsely : Prop := rotEndsRow.holds Try.pinned (OpenSpec.ofChange rotEndsWrong)

/-- 'anabranchlaw01.RotLong': WHATEVER THE INPUT: true; the input reads as it did. -/
def rotLongSpec : ChangeSpec := { name := "rotLong", fn := fun _ => fun
  | [d1, d2] => { results := [.lit (.bool true)], args := [d1, d2] }
  | _ => none }
def rotLongRow : OpenClaim := { program := "ytgehpjojcfbldaa", sum := "2cca121ecf22e3b26318352acaa926af20ae18799baf53f621e2540ebb7e03a0", func := "anabranch/anabranchlaw01.RotLong", spec := "rotLong", apart := false }
def RotLongSaid : Prop := rotLongRow.holds Try.pinned (OpenSpec.ofChange rotLongSpec)

/-- ITS FALSE NEIGHBOUR: 'it returns false'. Refute it at one input. -/
def rotLongWrong : ChangeSpec := { name := "rotLong", fn := fun _ => fun
  | [d1, d2] => { results := [.lit (.bool false)], args := [d1, d2] }
  | _ => none }
def RotLongWrongFalsely : Prop := rotLongRow.holds Try.pinned (OpenSpec.ofChange rotLongWrong)

/- THE SECOND FORM. 'bulk': how many values and letters a reading holds, each counted each time it is reached (what is shared counts as often as it is met; a slice's spare places count too). A statement '..UptoSaid' is the law's where the arguments, and the package variables that the reading takes, are together of bulk at most 1048576: NARROWER than '..Said'. Prove '..Said' where nothing that the law and all that it calls make is longer than what came in: it says more and counts as full. Else prove '..UptoSaid'. A law counts once. -/
mutual
def uptoBulk {H : Type} : DataW H → Nat
  | .lit (.string bytes) => bytes.length + 1
  | .lit _ => 1
  | .nil => 1
  | .ptr d => uptoBulk d + 1
  | .slice elems spare => uptoBulkAll elems + uptoBulkAll spare + 1
  | .agg parts => uptoBulkAll parts + 1
  | .iface _ d => uptoBulk d + 1
  | .map entries => uptoBulkEntries entries + 1
  | .held _ => 1
def uptoBulkAll {H : Type} : List (DataW H) → Nat
  | [] => 0
  | d :: r => uptoBulk d + uptoBulkAll r
def uptoBulkEntries {H : Type} : List (Lit × DataW H) → Nat
  | [] => 0
  | x :: r => uptoBulkEntry x + uptoBulkEntries r
def uptoBulkEntry {H : Type} : Lit × DataW H → Nat
  | (.string bytes, d) => bytes.length + uptoBulk d + 1
  | (_, d) => uptoBulk d + 1
 end
def uptoSmall : (H : Type) → List (DataW H) → Bool := fun _ ds => decide (uptoBulkAll ds ≤ 1048576)
def OpenSpec.upto (s : _root_.Go.ChangeSpec) : _root_.Go.OpenSpec := { _root_.Go.OpenSpec.ofChange s with cond := some uptoSmall }

/-- 'anabranchlaw01.RotTells', WHERE WHAT IT READS IS OF BULK AT MOST 1048576: true; the input reads as it did. -/
def rotTellsUptoRow : OpenClaim := { program := "ytgehpjojcfbldaa", sum := "2cca121ecf22e3b26318352acaa926af20ae18799baf53f621e2540ebb7e03a0", func := "anabranch/anabranchlaw01.RotTells", spec := "rotTells", apart := false, narrowed := true }
def RotTellsUptoSaid : Prop := rotTellsUptoRow.holds Try.pinned (OpenSpec.upto rotTellsSpec)

/-- 'anabranchlaw01.RotBytes', WHERE WHAT IT READS IS OF BULK AT MOST 1048576: true; the input reads as it did. -/
def rotBytesUptoRow : OpenClaim := { program := "ytgehpjojcfbldaa", sum := "2cca121ecf22e3b26318352acaa926af20ae18799baf53f621e2540ebb7e03a0", func := "anabranch/anabranchlaw01.RotBytes", spec := "rotBytes", apart := false, narrowed := true }
def RotBytesUptoSaid : Prop := rotBytesUptoRow.holds Try.pinned (OpenSpec.upto rotBytesSpec)

/-- 'anabranchlaw01.RotRound', WHERE WHAT IT READS IS OF BULK AT MOST 1048576: true; the input reads as it did. -/
def rotRoundUptoRow : OpenClaim := { program := "ytgehpjojcfbldaa", sum := "2cca121ecf22e3b26318352acaa926af20ae18799baf53f621e2540ebb7e03a0", func := "anabranch/anabranchlaw01.RotRound", spec := "rotRound", apart := false, narrowed := true }
def RotRoundUptoSaid : Prop := rotRoundUptoRow.holds Try.pinned (OpenSpec.upto rotRoundSpec)

/-- 'anabranchlaw01.RotBack', WHERE WHAT IT READS IS OF BULK AT MOST 1048576: true; the input reads as it did. -/
def rotBackUptoRow : OpenClaim := { program := "ytgehpjojcfbldaa", sum := "2cca121ecf22e3b26318352acaa926af20ae18799baf53f621e2540ebb7e03a0", func := "anabranch/anabranchlaw01.RotBack", spec := "rotBack", apart := false, narrowed := true }
def RotBackUptoSaid : Prop := rotBackUptoRow.holds Try.pinned (OpenSpec.upto rotBackSpec)

/-- 'anabranchlaw01.RotSame', WHERE WHAT IT READS IS OF BULK AT MOST 1048576: true; the input reads as it did. -/
def rotSameUptoRow : OpenClaim := { program := "ytgehpjojcfbldaa", sum := "2cca121ecf22e3b26318352acaa926af20ae18799baf53f621e2540ebb7e03a0", func := "anabranch/anabranchlaw01.RotSame", spec := "rotSame", apart := false, narrowed := true }
def RotSameUptoSaid : Prop := rotSameUptoRow.holds Try.pinned (OpenSpec.upto rotSameSpec)

/-- 'anabranchlaw01.RotBits', WHERE WHAT IT READS IS OF BULK AT MOST 1048576: true; the input reads as it did. -/
def rotBitsUptoRow : OpenClaim := { program := "ytgehpjojcfbldaa", sum := "2cca121ecf22e3b26318352acaa926af20ae18799baf53f621e2540ebb7e03a0", func := "anabranch/anabranchlaw01.RotBits", spec := "rotBits", apart := false, narrowed := true }
def RotBitsUptoSaid : Prop := rotBitsUptoRow.holds Try.pinned (OpenSpec.upto rotBitsSpec)

/-- 'anabranchlaw01.RotEnds', WHERE WHAT IT READS IS OF BULK AT MOST 1048576: true; the input reads as it did. -/
def rotEndsUptoRow : OpenClaim := { program := "ytgehpjojcfbldaa", sum := "2cca121ecf22e3b26318352acaa926af20ae18799baf53f621e2540ebb7e03a0", func := "anabranch/anabranchlaw01.RotEnds", spec := "rotEnds", apart := false, narrowed := true }
def RotEndsUptoSaid : Prop := rotEndsUptoRow.holds Try.pinned (OpenSpec.upto rotEndsSpec)

/-- 'anabranchlaw01.RotLong', WHERE WHAT IT READS IS OF BULK AT MOST 1048576: true; the input reads as it did. -/
def rotLongUptoRow : OpenClaim := { program := "ytgehpjojcfbldaa", sum := "2cca121ecf22e3b26318352acaa926af20ae18799baf53f621e2540ebb7e03a0", func := "anabranch/anabranchlaw01.RotLong", spec := "rotLong", apart := false, narrowed := true }
def RotLongUptoSaid : Prop := rotLongUptoRow.holds Try.pinned (OpenSpec.upto rotLongSpec)

end Rows
end Go.Proofs.Ytgehpjojcfbldaa
