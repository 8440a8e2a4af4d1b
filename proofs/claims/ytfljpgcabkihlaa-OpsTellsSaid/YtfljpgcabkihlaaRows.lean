/-
  No cell of these rows narrows 'for every input' (looked for: loops, veiled, ifaces, maps, wideKeys, modest, calm, conditions, laid).
  DERIVED. THE GIVEN ROWS OF THIS SEAT. 5 by the template 'for every input the law returns true; each argument reads behind the call as it read before'; 0 by the template 'total and deterministic' (their statements: YtfljpgcabkihlaaTotals.lean).
  GIVEN WITH THE SEED: the statements are not yours to turn. If you find one false, say at which input.
  Laid BY PROGRAM, IN A SANDBOX (cutbox-rows.mjs): the forced cells as the released guide's own fill.sh prints them over the translation db39b6b1a4b86907… (all of the seat's roots in one cut). By AI agents, Wed Nov 11 2026. No macro, syntax, notation, axiom, sorry.
-/
import Derived.Test.YtfljpgcabkihlaaChecked
import GoSem.Claim
import GoSem.ClaimJoined
import GoSem.ClaimMapViews
import Derived.JoinedTies
import Derived.KernelRfl
namespace Go.Proofs.Ytfljpgcabkihlaa
/- THE CELL 'sum', in the pinned program and in every row, IS THE sha256 OF THE DUMP (.gsa) THAT YtfljpgcabkihlaaProg.lean LOADS. Nothing in Lean hashes anything: it is a label: what it is worth is what the hold of that sum in a sandbox is worth. -/
noncomputable def Try.pinned : Pinned := { name := "ytfljpgcabkihlaa", sum := "db39b6b1a4b869076c38788c9725e8770d7d3d21f38be29a06b85dfcfef160d7", checked := Try.checked }
namespace Rows
def none {H : Type} : Left H := { results := [], args := [] }

/-- 'anabranchlaw05.OpsTells': WHATEVER THE INPUT: true; the input reads as it did. -/
def opsTellsSpec : ChangeSpec := { name := "opsTells", fn := fun _ => fun
  | [d1, d2] => { results := [.lit (.bool true)], args := [d1, d2] }
  | _ => none }
def opsTellsRow : OpenClaim := { program := "ytfljpgcabkihlaa", sum := "db39b6b1a4b869076c38788c9725e8770d7d3d21f38be29a06b85dfcfef160d7", func := "anabranch/anabranchlaw05.OpsTells", spec := "opsTells", inPlace := ["internal/bytealg.IndexByteString", "internal/bytealg.MakeNoZero"], unfollowed := true, recurses := true, apart := false }
def OpsTellsSaid : Prop := opsTellsRow.holds Try.pinned (OpenSpec.ofChange opsTellsSpec)

/-- ITS FALSE NEIGHBOUR: 'it returns false'. Refute it at one input. -/
def opsTellsWrong : ChangeSpec := { name := "opsTells", fn := fun _ => fun
  | [d1, d2] => { results := [.lit (.bool false)], args := [d1, d2] }
  | _ => none }
def OpsTellsWrongFalsely : Prop := opsTellsRow.holds Try.pinned (OpenSpec.ofChange opsTellsWrong)

/-- 'anabranchlaw05.OpsGets': WHATEVER THE INPUT: true; the input reads as it did. -/
def opsGetsSpec : ChangeSpec := { name := "opsGets", fn := fun _ => fun
  | [d] => { results := [.lit (.bool true)], args := [d] }
  | _ => none }
def opsGetsRow : OpenClaim := { program := "ytfljpgcabkihlaa", sum := "db39b6b1a4b869076c38788c9725e8770d7d3d21f38be29a06b85dfcfef160d7", func := "anabranch/anabranchlaw05.OpsGets", spec := "opsGets", inPlace := ["internal/bytealg.IndexByteString", "internal/bytealg.MakeNoZero"], unfollowed := true, recurses := true, apart := false }
def OpsGetsSaid : Prop := opsGetsRow.holds Try.pinned (OpenSpec.ofChange opsGetsSpec)

/-- ITS FALSE NEIGHBOUR: 'it returns false'. Refute it at one input. -/
def opsGetsWrong : ChangeSpec := { name := "opsGets", fn := fun _ => fun
  | [d] => { results := [.lit (.bool false)], args := [d] }
  | _ => none }
def OpsGetsWrongFalsely : Prop := opsGetsRow.holds Try.pinned (OpenSpec.ofChange opsGetsWrong)

/-- 'anabranchlaw05.OpsBack': WHATEVER THE INPUT: true; the input reads as it did. -/
def opsBackSpec : ChangeSpec := { name := "opsBack", fn := fun _ => fun
  | [d1, d2] => { results := [.lit (.bool true)], args := [d1, d2] }
  | _ => none }
def opsBackRow : OpenClaim := { program := "ytfljpgcabkihlaa", sum := "db39b6b1a4b869076c38788c9725e8770d7d3d21f38be29a06b85dfcfef160d7", func := "anabranch/anabranchlaw05.OpsBack", spec := "opsBack", inPlace := ["internal/bytealg.IndexByteString", "internal/bytealg.MakeNoZero"], unfollowed := true, recurses := true, apart := false }
def OpsBackSaid : Prop := opsBackRow.holds Try.pinned (OpenSpec.ofChange opsBackSpec)

/-- ITS FALSE NEIGHBOUR: 'it returns false'. Refute it at one input. -/
def opsBackWrong : ChangeSpec := { name := "opsBack", fn := fun _ => fun
  | [d1, d2] => { results := [.lit (.bool false)], args := [d1, d2] }
  | _ => none }
def OpsBackWrongFalsely : Prop := opsBackRow.holds Try.pinned (OpenSpec.ofChange opsBackWrong)

/-- 'anabranchlaw05.OpsCut': WHATEVER THE INPUT: true; the input reads as it did. -/
def opsCutSpec : ChangeSpec := { name := "opsCut", fn := fun _ => fun
  | [d1, d2, d3] => { results := [.lit (.bool true)], args := [d1, d2, d3] }
  | _ => none }
def opsCutRow : OpenClaim := { program := "ytfljpgcabkihlaa", sum := "db39b6b1a4b869076c38788c9725e8770d7d3d21f38be29a06b85dfcfef160d7", func := "anabranch/anabranchlaw05.OpsCut", spec := "opsCut", inPlace := ["internal/bytealg.IndexByteString", "internal/bytealg.MakeNoZero"], unfollowed := true, recurses := true, apart := false }
def OpsCutSaid : Prop := opsCutRow.holds Try.pinned (OpenSpec.ofChange opsCutSpec)

/-- ITS FALSE NEIGHBOUR: 'it returns false'. Refute it at one input. -/
def opsCutWrong : ChangeSpec := { name := "opsCut", fn := fun _ => fun
  | [d1, d2, d3] => { results := [.lit (.bool false)], args := [d1, d2, d3] }
  | _ => none }
def OpsCutWrongFalsely : Prop := opsCutRow.holds Try.pinned (OpenSpec.ofChange opsCutWrong)

/-- 'anabranchlaw05.OpsKinds': WHATEVER THE INPUT: true; the input reads as it did. -/
def opsKindsSpec : ChangeSpec := { name := "opsKinds", fn := fun _ => fun
  | [d1, d2, d3] => { results := [.lit (.bool true)], args := [d1, d2, d3] }
  | _ => none }
def opsKindsRow : OpenClaim := { program := "ytfljpgcabkihlaa", sum := "db39b6b1a4b869076c38788c9725e8770d7d3d21f38be29a06b85dfcfef160d7", func := "anabranch/anabranchlaw05.OpsKinds", spec := "opsKinds", inPlace := ["internal/bytealg.IndexByteString", "internal/bytealg.MakeNoZero"], unfollowed := true, recurses := true, apart := false }
def OpsKindsSaid : Prop := opsKindsRow.holds Try.pinned (OpenSpec.ofChange opsKindsSpec)

/-- ITS FALSE NEIGHBOUR: 'it returns false'. Refute it at one input. -/
def opsKindsWrong : ChangeSpec := { name := "opsKinds", fn := fun _ => fun
  | [d1, d2, d3] => { results := [.lit (.bool false)], args := [d1, d2, d3] }
  | _ => none }
def OpsKindsWrongFalsely : Prop := opsKindsRow.holds Try.pinned (OpenSpec.ofChange opsKindsWrong)

/- THE SECOND FORM. 'bulk': how many values and letters a reading holds, each counted each time it is reached (what is shared counts as often as it is met; a slice's spare places count too). A statement '..UptoSaid' is the law's where the arguments, and the package variables that the reading takes, are together of bulk at most 1048576: NARROWER than '..Said'. Prove '..Said' where nothing that the law and all that it calls make is longer than what came in: it says more and counts as full. Else prove '..UptoSaid'. A law counts once. -/
mutual
def uptoBulk {H : Type} : DataW H → Nat
  | .lit (.string bytes) => bytes.length + 1
  | .lit _ => 1
  | .nil => 1
  | .ptr d => uptoBulk d + 1
  | .slice elems spare => uptoBulkAll elems + uptoBulkAll spare + 1
  | .agg parts => uptoBulkAll parts + 1
  | .iface _ d => uptoBulk d + 1
  | .map entries => uptoBulkEntries entries + 1
  | .held _ => 1
def uptoBulkAll {H : Type} : List (DataW H) → Nat
  | [] => 0
  | d :: r => uptoBulk d + uptoBulkAll r
def uptoBulkEntries {H : Type} : List (Lit × DataW H) → Nat
  | [] => 0
  | x :: r => uptoBulkEntry x + uptoBulkEntries r
def uptoBulkEntry {H : Type} : Lit × DataW H → Nat
  | (.string bytes, d) => bytes.length + uptoBulk d + 1
  | (_, d) => uptoBulk d + 1
 end
def uptoSmall : (H : Type) → List (DataW H) → Bool := fun _ ds => decide (uptoBulkAll ds ≤ 1048576)
def OpenSpec.upto (s : _root_.Go.ChangeSpec) : _root_.Go.OpenSpec := { _root_.Go.OpenSpec.ofChange s with cond := some uptoSmall }

/-- 'anabranchlaw05.OpsTells', WHERE WHAT IT READS IS OF BULK AT MOST 1048576: true; the input reads as it did. -/
def opsTellsUptoRow : OpenClaim := { program := "ytfljpgcabkihlaa", sum := "db39b6b1a4b869076c38788c9725e8770d7d3d21f38be29a06b85dfcfef160d7", func := "anabranch/anabranchlaw05.OpsTells", spec := "opsTells", inPlace := ["internal/bytealg.IndexByteString", "internal/bytealg.MakeNoZero"], unfollowed := true, recurses := true, apart := false, narrowed := true }
def OpsTellsUptoSaid : Prop := opsTellsUptoRow.holds Try.pinned (OpenSpec.upto opsTellsSpec)

/-- 'anabranchlaw05.OpsGets', WHERE WHAT IT READS IS OF BULK AT MOST 1048576: true; the input reads as it did. -/
def opsGetsUptoRow : OpenClaim := { program := "ytfljpgcabkihlaa", sum := "db39b6b1a4b869076c38788c9725e8770d7d3d21f38be29a06b85dfcfef160d7", func := "anabranch/anabranchlaw05.OpsGets", spec := "opsGets", inPlace := ["internal/bytealg.IndexByteString", "internal/bytealg.MakeNoZero"], unfollowed := true, recurses := true, apart := false, narrowed := true }
def OpsGetsUptoSaid : Prop := opsGetsUptoRow.holds Try.pinned (OpenSpec.upto opsGetsSpec)

/-- 'anabranchlaw05.OpsBack', WHERE WHAT IT READS IS OF BULK AT MOST 1048576: true; the input reads as it did. -/
def opsBackUptoRow : OpenClaim := { program := "ytfljpgcabkihlaa", sum := "db39b6b1a4b869076c38788c9725e8770d7d3d21f38be29a06b85dfcfef160d7", func := "anabranch/anabranchlaw05.OpsBack", spec := "opsBack", inPlace := ["internal/bytealg.IndexByteString", "internal/bytealg.MakeNoZero"], unfollowed := true, recurses := true, apart := false, narrowed := true }
def OpsBackUptoSaid : Prop := opsBackUptoRow.holds Try.pinned (OpenSpec.upto opsBackSpec)

/-- 'anabranchlaw05.OpsCut', WHERE WHAT IT READS IS OF BULK AT MOST 1048576: true; the input reads as it did. -/
def opsCutUptoRow : OpenClaim := { program := "ytfljpgcabkihlaa", sum := "db39b6b1a4b869076c38788c9725e8770d7d3d21f38be29a06b85dfcfef160d7", func := "anabranch/anabranchlaw05.OpsCut", spec := "opsCut", inPlace := ["internal/bytealg.IndexByteString", "internal/bytealg.MakeNoZero"], unfollowed := true, recurses := true, apart := false, narrowed := true }
def OpsCutUptoSaid : Prop := opsCutUptoRow.holds Try.pinned (OpenSpec.upto opsCutSpec)

/-- 'anabranchlaw05.OpsKinds', WHERE WHAT IT READS IS OF BULK AT MOST 1048576: true; the input reads as it did. -/
def opsKindsUptoRow : OpenClaim := { program := "ytfljpgcabkihlaa", sum := "db39b6b1a4b869076c38788c9725e8770d7d3d21f38be29a06b85dfcfef160d7", func := "anabranch/anabranchlaw05.OpsKinds", spec := "opsKinds", inPlace := ["internal/bytealg.IndexByteString", "internal/bytealg.MakeNoZero"], unfollowed := true, recurses := true, apart := false, narrowed := true }
def OpsKindsUptoSaid : Prop := opsKindsUptoRow.holds Try.pinned (OpenSpec.upto opsKindsSpec)

end Rows
end Go.Proofs.Ytfljpgcabkihlaa
