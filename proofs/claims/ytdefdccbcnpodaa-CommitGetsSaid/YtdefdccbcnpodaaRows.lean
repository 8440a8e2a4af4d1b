/-
  No cell of these rows narrows 'for every input' (looked for: loops, veiled, ifaces, maps, wideKeys, modest, calm, conditions, laid).
  DERIVED. THE GIVEN ROWS OF THIS SEAT. 6 by the template 'for every input the law returns true; each argument reads behind the call as it read before'; 0 by the template 'total and deterministic' (their statements: YtdefdccbcnpodaaTotals.lean).
  GIVEN WITH THE SEED: the statements are not yours to turn. If you find one false, say at which input.
  Laid BY PROGRAM, IN A SANDBOX (cutbox-rows.mjs): the forced cells as the released guide's own fill.sh prints them over the translation 37f6f13b9581f16e… (all of the seat's roots in one cut). By AI agents, Wed Nov 11 2026. No macro, syntax, notation, axiom, sorry.
-/
import Derived.Test.YtdefdccbcnpodaaChecked
import GoSem.Claim
import GoSem.ClaimJoined
import GoSem.ClaimMapViews
import Derived.JoinedTies
import Derived.KernelRfl
namespace Go.Proofs.Ytdefdccbcnpodaa
/- THE CELL 'sum', in the pinned program and in every row, IS THE sha256 OF THE DUMP (.gsa) THAT YtdefdccbcnpodaaProg.lean LOADS. Nothing in Lean hashes anything: it is a label: what it is worth is what the hold of that sum in a sandbox is worth. -/
noncomputable def Try.pinned : Pinned := { name := "ytdefdccbcnpodaa", sum := "37f6f13b9581f16eb77eb5a34fc3f4776a850e49f6b4690ca91b24d773e4ed2d", checked := Try.checked }
namespace Rows
def none {H : Type} : Left H := { results := [], args := [] }

/-- 'anabranchlaw10.CommitTells': WHATEVER THE INPUT: true; the input reads as it did. -/
def commitTellsSpec : ChangeSpec := { name := "commitTells", fn := fun _ => fun
  | [d1, d2] => { results := [.lit (.bool true)], args := [d1, d2] }
  | _ => none }
def commitTellsRow : OpenClaim := { program := "ytdefdccbcnpodaa", sum := "37f6f13b9581f16eb77eb5a34fc3f4776a850e49f6b4690ca91b24d773e4ed2d", func := "anabranch/anabranchlaw10.CommitTells", spec := "commitTells", inPlace := ["internal/bytealg.Compare", "internal/bytealg.IndexByteString", "internal/bytealg.MakeNoZero"], unfollowed := true, recurses := true, apart := false }
def CommitTellsSaid : Prop := commitTellsRow.holds Try.pinned (OpenSpec.ofChange commitTellsSpec)

/-- ITS FALSE NEIGHBOUR: 'it returns false'. Refute it at one input. -/
def commitTellsWrong : ChangeSpec := { name := "commitTells", fn := fun _ => fun
  | [d1, d2] => { results := [.lit (.bool false)], args := [d1, d2] }
  | _ => none }
def CommitTellsWrongFalsely : Prop := commitTellsRow.holds Try.pinned (OpenSpec.ofChange commitTellsWrong)

/-- 'anabranchlaw10.CommitGets': WHATEVER THE INPUT: true; the input reads as it did. -/
def commitGetsSpec : ChangeSpec := { name := "commitGets", fn := fun _ => fun
  | [d] => { results := [.lit (.bool true)], args := [d] }
  | _ => none }
def commitGetsRow : OpenClaim := { program := "ytdefdccbcnpodaa", sum := "37f6f13b9581f16eb77eb5a34fc3f4776a850e49f6b4690ca91b24d773e4ed2d", func := "anabranch/anabranchlaw10.CommitGets", spec := "commitGets", inPlace := ["internal/bytealg.Compare", "internal/bytealg.IndexByteString", "internal/bytealg.MakeNoZero"], unfollowed := true, recurses := true, apart := false }
def CommitGetsSaid : Prop := commitGetsRow.holds Try.pinned (OpenSpec.ofChange commitGetsSpec)

/-- ITS FALSE NEIGHBOUR: 'it returns false'. Refute it at one input. -/
def commitGetsWrong : ChangeSpec := { name := "commitGets", fn := fun _ => fun
  | [d] => { results := [.lit (.bool false)], args := [d] }
  | _ => none }
def CommitGetsWrongFalsely : Prop := commitGetsRow.holds Try.pinned (OpenSpec.ofChange commitGetsWrong)

/-- 'anabranchlaw10.CommitBack': WHATEVER THE INPUT: true; the input reads as it did. -/
def commitBackSpec : ChangeSpec := { name := "commitBack", fn := fun _ => fun
  | [d1, d2] => { results := [.lit (.bool true)], args := [d1, d2] }
  | _ => none }
def commitBackRow : OpenClaim := { program := "ytdefdccbcnpodaa", sum := "37f6f13b9581f16eb77eb5a34fc3f4776a850e49f6b4690ca91b24d773e4ed2d", func := "anabranch/anabranchlaw10.CommitBack", spec := "commitBack", inPlace := ["internal/bytealg.Compare", "internal/bytealg.IndexByteString", "internal/bytealg.MakeNoZero"], unfollowed := true, recurses := true, apart := false }
def CommitBackSaid : Prop := commitBackRow.holds Try.pinned (OpenSpec.ofChange commitBackSpec)

/-- ITS FALSE NEIGHBOUR: 'it returns false'. Refute it at one input. -/
def commitBackWrong : ChangeSpec := { name := "commitBack", fn := fun _ => fun
  | [d1, d2] => { results := [.lit (.bool false)], args := [d1, d2] }
  | _ => none }
def CommitBackWrongFalsely : Prop := commitBackRow.holds Try.pinned (OpenSpec.ofChange commitBackWrong)

/-- 'anabranchlaw10.CommitOnly': WHATEVER THE INPUT: true; the input reads as it did. -/
def commitOnlySpec : ChangeSpec := { name := "commitOnly", fn := fun _ => fun
  | [d1, d2] => { results := [.lit (.bool true)], args := [d1, d2] }
  | _ => none }
def commitOnlyRow : OpenClaim := { program := "ytdefdccbcnpodaa", sum := "37f6f13b9581f16eb77eb5a34fc3f4776a850e49f6b4690ca91b24d773e4ed2d", func := "anabranch/anabranchlaw10.CommitOnly", spec := "commitOnly", inPlace := ["internal/bytealg.Compare", "internal/bytealg.IndexByteString", "internal/bytealg.MakeNoZero"], unfollowed := true, recurses := true, apart := false }
def CommitOnlySaid : Prop := commitOnlyRow.holds Try.pinned (OpenSpec.ofChange commitOnlySpec)

/-- ITS FALSE NEIGHBOUR: 'it returns false'. Refute it at one input. -/
def commitOnlyWrong : ChangeSpec := { name := "commitOnly", fn := fun _ => fun
  | [d1, d2] => { results := [.lit (.bool false)], args := [d1, d2] }
  | _ => none }
def CommitOnlyWrongFalsely : Prop := commitOnlyRow.holds Try.pinned (OpenSpec.ofChange commitOnlyWrong)

/-- 'anabranchlaw10.CommitKinds': WHATEVER THE INPUT: true; the input reads as it did. -/
def commitKindsSpec : ChangeSpec := { name := "commitKinds", fn := fun _ => fun
  | [d] => { results := [.lit (.bool true)], args := [d] }
  | _ => none }
def commitKindsRow : OpenClaim := { program := "ytdefdccbcnpodaa", sum := "37f6f13b9581f16eb77eb5a34fc3f4776a850e49f6b4690ca91b24d773e4ed2d", func := "anabranch/anabranchlaw10.CommitKinds", spec := "commitKinds", inPlace := ["internal/bytealg.Compare", "internal/bytealg.IndexByteString", "internal/bytealg.MakeNoZero"], unfollowed := true, recurses := true, apart := false }
def CommitKindsSaid : Prop := commitKindsRow.holds Try.pinned (OpenSpec.ofChange commitKindsSpec)

/-- ITS FALSE NEIGHBOUR: 'it returns false'. Refute it at one input. -/
def commitKindsWrong : ChangeSpec := { name := "commitKinds", fn := fun _ => fun
  | [d] => { results := [.lit (.bool false)], args := [d] }
  | _ => none }
def CommitKindsWrongFalsely : Prop := commitKindsRow.holds Try.pinned (OpenSpec.ofChange commitKindsWrong)

/-- 'anabranchlaw10.CommitParts': WHATEVER THE INPUT: true; the input reads as it did. -/
def commitPartsSpec : ChangeSpec := { name := "commitParts", fn := fun _ => fun
  | [d1, d2, d3] => { results := [.lit (.bool true)], args := [d1, d2, d3] }
  | _ => none }
def commitPartsRow : OpenClaim := { program := "ytdefdccbcnpodaa", sum := "37f6f13b9581f16eb77eb5a34fc3f4776a850e49f6b4690ca91b24d773e4ed2d", func := "anabranch/anabranchlaw10.CommitParts", spec := "commitParts", inPlace := ["internal/bytealg.Compare", "internal/bytealg.IndexByteString", "internal/bytealg.MakeNoZero"], unfollowed := true, recurses := true, apart := false }
def CommitPartsSaid : Prop := commitPartsRow.holds Try.pinned (OpenSpec.ofChange commitPartsSpec)

/-- ITS FALSE NEIGHBOUR: 'it returns false'. Refute it at one input. -/
def commitPartsWrong : ChangeSpec := { name := "commitParts", fn := fun _ => fun
  | [d1, d2, d3] => { results := [.lit (.bool false)], args := [d1, d2, d3] }
  | _ => none }
def CommitPartsWrongFalsely : Prop := commitPartsRow.holds Try.pinned (OpenSpec.ofChange commitPartsWrong)

/- THE SECOND FORM. 'bulk': how many values and letters a reading holds, each counted each time it is reached (what is shared counts as often as it is met; a slice's spare places count too). A statement '..UptoSaid' is the law's where the arguments, and the package variables that the reading takes, are together of bulk at most 1048576: NARROWER than '..Said'. Prove '..Said' where nothing that the law and all that it calls make is longer than what came in: it says more and counts as full. Else prove '..UptoSaid'. A law counts once. -/
mutual
def uptoBulk {H : Type} : DataW H → Nat
  | .lit (.string bytes) => bytes.length + 1
  | .lit _ => 1
  | .nil => 1
  | .ptr d => uptoBulk d + 1
  | .slice elems spare => uptoBulkAll elems + uptoBulkAll spare + 1
  | .agg parts => uptoBulkAll parts + 1
  | .iface _ d => uptoBulk d + 1
  | .map entries => uptoBulkEntries entries + 1
  | .held _ => 1
def uptoBulkAll {H : Type} : List (DataW H) → Nat
  | [] => 0
  | d :: r => uptoBulk d + uptoBulkAll r
def uptoBulkEntries {H : Type} : List (Lit × DataW H) → Nat
  | [] => 0
  | x :: r => uptoBulkEntry x + uptoBulkEntries r
def uptoBulkEntry {H : Type} : Lit × DataW H → Nat
  | (.string bytes, d) => bytes.length + uptoBulk d + 1
  | (_, d) => uptoBulk d + 1
 end
def uptoSmall : (H : Type) → List (DataW H) → Bool := fun _ ds => decide (uptoBulkAll ds ≤ 1048576)
def OpenSpec.upto (s : _root_.Go.ChangeSpec) : _root_.Go.OpenSpec := { _root_.Go.OpenSpec.ofChange s with cond := some uptoSmall }

/-- 'anabranchlaw10.CommitTells', WHERE WHAT IT READS IS OF BULK AT MOST 1048576: true; the input reads as it did. -/
def commitTellsUptoRow : OpenClaim := { program := "ytdefdccbcnpodaa", sum := "37f6f13b9581f16eb77eb5a34fc3f4776a850e49f6b4690ca91b24d773e4ed2d", func := "anabranch/anabranchlaw10.CommitTells", spec := "commitTells", inPlace := ["internal/bytealg.Compare", "internal/bytealg.IndexByteString", "internal/bytealg.MakeNoZero"], unfollowed := true, recurses := true, apart := false, narrowed := true }
def CommitTellsUptoSaid : Prop := commitTellsUptoRow.holds Try.pinned (OpenSpec.upto commitTellsSpec)

/-- 'anabranchlaw10.CommitGets', WHERE WHAT IT READS IS OF BULK AT MOST 1048576: true; the input reads as it did. -/
def commitGetsUptoRow : OpenClaim := { program := "ytdefdccbcnpodaa", sum := "37f6f13b9581f16eb77eb5a34fc3f4776a850e49f6b4690ca91b24d773e4ed2d", func := "anabranch/anabranchlaw10.CommitGets", spec := "commitGets", inPlace := ["internal/bytealg.Compare", "internal/bytealg.IndexByteString", "internal/bytealg.MakeNoZero"], unfollowed := true, recurses := true, apart := false, narrowed := true }
def CommitGetsUptoSaid : Prop := commitGetsUptoRow.holds Try.pinned (OpenSpec.upto commitGetsSpec)

/-- 'anabranchlaw10.CommitBack', WHERE WHAT IT READS IS OF BULK AT MOST 1048576: true; the input reads as it did. -/
def commitBackUptoRow : OpenClaim := { program := "ytdefdccbcnpodaa", sum := "37f6f13b9581f16eb77eb5a34fc3f4776a850e49f6b4690ca91b24d773e4ed2d", func := "anabranch/anabranchlaw10.CommitBack", spec := "commitBack", inPlace := ["internal/bytealg.Compare", "internal/bytealg.IndexByteString", "internal/bytealg.MakeNoZero"], unfollowed := true, recurses := true, apart := false, narrowed := true }
def CommitBackUptoSaid : Prop := commitBackUptoRow.holds Try.pinned (OpenSpec.upto commitBackSpec)

/-- 'anabranchlaw10.CommitOnly', WHERE WHAT IT READS IS OF BULK AT MOST 1048576: true; the input reads as it did. -/
def commitOnlyUptoRow : OpenClaim := { program := "ytdefdccbcnpodaa", sum := "37f6f13b9581f16eb77eb5a34fc3f4776a850e49f6b4690ca91b24d773e4ed2d", func := "anabranch/anabranchlaw10.CommitOnly", spec := "commitOnly", inPlace := ["internal/bytealg.Compare", "internal/bytealg.IndexByteString", "internal/bytealg.MakeNoZero"], unfollowed := true, recurses := true, apart := false, narrowed := true }
def CommitOnlyUptoSaid : Prop := commitOnlyUptoRow.holds Try.pinned (OpenSpec.upto commitOnlySpec)

/-- 'anabranchlaw10.CommitKinds', WHERE WHAT IT READS IS OF BULK AT MOST 1048576: true; the input reads as it did. -/
def commitKindsUptoRow : OpenClaim := { program := "ytdefdccbcnpodaa", sum := "37f6f13b9581f16eb77eb5a34fc3f4776a850e49f6b4690ca91b24d773e4ed2d", func := "anabranch/anabranchlaw10.CommitKinds", spec := "commitKinds", inPlace := ["internal/bytealg.Compare", "internal/bytealg.IndexByteString", "internal/bytealg.MakeNoZero"], unfollowed := true, recurses := true, apart := false, narrowed := true }
def CommitKindsUptoSaid : Prop := commitKindsUptoRow.holds Try.pinned (OpenSpec.upto commitKindsSpec)

/-- 'anabranchlaw10.CommitParts', WHERE WHAT IT READS IS OF BULK AT MOST 1048576: true; the input reads as it did. -/
def commitPartsUptoRow : OpenClaim := { program := "ytdefdccbcnpodaa", sum := "37f6f13b9581f16eb77eb5a34fc3f4776a850e49f6b4690ca91b24d773e4ed2d", func := "anabranch/anabranchlaw10.CommitParts", spec := "commitParts", inPlace := ["internal/bytealg.Compare", "internal/bytealg.IndexByteString", "internal/bytealg.MakeNoZero"], unfollowed := true, recurses := true, apart := false, narrowed := true }
def CommitPartsUptoSaid : Prop := commitPartsUptoRow.holds Try.pinned (OpenSpec.upto commitPartsSpec)

end Rows
end Go.Proofs.Ytdefdccbcnpodaa
