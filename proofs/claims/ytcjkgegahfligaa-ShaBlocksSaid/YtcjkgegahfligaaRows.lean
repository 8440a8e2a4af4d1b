/-
  No cell of these rows narrows 'for every input' (looked for: loops, veiled, ifaces, maps, wideKeys, modest, calm, conditions, laid).
  DERIVED. THE GIVEN ROWS OF THIS SEAT. 5 by the template 'for every input the law returns true; each argument reads behind the call as it read before'; 0 by the template 'total and deterministic' (their statements: YtcjkgegahfligaaTotals.lean).
  GIVEN WITH THE SEED: the statements are not yours to turn. If you find one false, say at which input.
  Laid BY PROGRAM, IN A SANDBOX (cutbox-rows.mjs): the forced cells as the released guide's own fill.sh prints them over the translation 9f752eb402bea271… (all of the seat's roots in one cut). By AI agents, Wed Nov 11 2026. No macro, syntax, notation, axiom, sorry.
-/
import Derived.Test.YtcjkgegahfligaaChecked
import GoSem.Claim
import GoSem.ClaimJoined
import GoSem.ClaimMapViews
import Derived.JoinedTies
import Derived.KernelRfl
namespace Go.Proofs.Ytcjkgegahfligaa
/- THE CELL 'sum', in the pinned program and in every row, IS THE sha256 OF THE DUMP (.gsa) THAT YtcjkgegahfligaaProg.lean LOADS. Nothing in Lean hashes anything: it is a label: what it is worth is what the hold of that sum in a sandbox is worth. -/
noncomputable def Try.pinned : Pinned := { name := "ytcjkgegahfligaa", sum := "9f752eb402bea271e60f086749c1de46d8fe80d2bdb49b1e6de3afa7c6e82b0f", checked := Try.checked }
namespace Rows
def none {H : Type} : Left H := { results := [], args := [] }

/-- 'anabranchlaw02.ShaBlocks': WHATEVER THE INPUT: true; the input reads as it did. -/
def shaBlocksSpec : ChangeSpec := { name := "shaBlocks", fn := fun _ => fun
  | [d1, d2] => { results := [.lit (.bool true)], args := [d1, d2] }
  | _ => none }
def shaBlocksRow : OpenClaim := { program := "ytcjkgegahfligaa", sum := "9f752eb402bea271e60f086749c1de46d8fe80d2bdb49b1e6de3afa7c6e82b0f", func := "anabranch/anabranchlaw02.ShaBlocks", spec := "shaBlocks", apart := false }
def ShaBlocksSaid : Prop := shaBlocksRow.holds Try.pinned (OpenSpec.ofChange shaBlocksSpec)

/-- ITS FALSE NEIGHBOUR: 'it returns false'. Refute it at one input. -/
def shaBlocksWrong : ChangeSpec := { name := "shaBlocks", fn := fun _ => fun
  | [d1, d2] => { results := [.lit (.bool false)], args := [d1, d2] }
  | _ => none }
def ShaBlocksWrongFalsely : Prop := shaBlocksRow.holds Try.pinned (OpenSpec.ofChange shaBlocksWrong)

/-- 'anabranchlaw02.ShaPads': WHATEVER THE INPUT: true; the input reads as it did. -/
def shaPadsSpec : ChangeSpec := { name := "shaPads", fn := fun _ => fun
  | [d1, d2] => { results := [.lit (.bool true)], args := [d1, d2] }
  | _ => none }
def shaPadsRow : OpenClaim := { program := "ytcjkgegahfligaa", sum := "9f752eb402bea271e60f086749c1de46d8fe80d2bdb49b1e6de3afa7c6e82b0f", func := "anabranch/anabranchlaw02.ShaPads", spec := "shaPads", apart := false }
def ShaPadsSaid : Prop := shaPadsRow.holds Try.pinned (OpenSpec.ofChange shaPadsSpec)

/-- ITS FALSE NEIGHBOUR: 'it returns false'. Refute it at one input. -/
def shaPadsWrong : ChangeSpec := { name := "shaPads", fn := fun _ => fun
  | [d1, d2] => { results := [.lit (.bool false)], args := [d1, d2] }
  | _ => none }
def ShaPadsWrongFalsely : Prop := shaPadsRow.holds Try.pinned (OpenSpec.ofChange shaPadsWrong)

/-- 'anabranchlaw02.ShaWhole': WHATEVER THE INPUT: true; the input reads as it did. -/
def shaWholeSpec : ChangeSpec := { name := "shaWhole", fn := fun _ => fun
  | [d] => { results := [.lit (.bool true)], args := [d] }
  | _ => none }
def shaWholeRow : OpenClaim := { program := "ytcjkgegahfligaa", sum := "9f752eb402bea271e60f086749c1de46d8fe80d2bdb49b1e6de3afa7c6e82b0f", func := "anabranch/anabranchlaw02.ShaWhole", spec := "shaWhole", apart := false }
def ShaWholeSaid : Prop := shaWholeRow.holds Try.pinned (OpenSpec.ofChange shaWholeSpec)

/-- ITS FALSE NEIGHBOUR: 'it returns false'. Refute it at one input. -/
def shaWholeWrong : ChangeSpec := { name := "shaWhole", fn := fun _ => fun
  | [d] => { results := [.lit (.bool false)], args := [d] }
  | _ => none }
def ShaWholeWrongFalsely : Prop := shaWholeRow.holds Try.pinned (OpenSpec.ofChange shaWholeWrong)

/-- 'anabranchlaw02.ShaKnown': WHATEVER THE INPUT: true; the input reads as it did. -/
def shaKnownSpec : ChangeSpec := { name := "shaKnown", fn := fun _ => fun
  | [d] => { results := [.lit (.bool true)], args := [d] }
  | _ => none }
def shaKnownRow : OpenClaim := { program := "ytcjkgegahfligaa", sum := "9f752eb402bea271e60f086749c1de46d8fe80d2bdb49b1e6de3afa7c6e82b0f", func := "anabranch/anabranchlaw02.ShaKnown", spec := "shaKnown", apart := false }
def ShaKnownSaid : Prop := shaKnownRow.holds Try.pinned (OpenSpec.ofChange shaKnownSpec)

/-- ITS FALSE NEIGHBOUR: 'it returns false'. Refute it at one input. -/
def shaKnownWrong : ChangeSpec := { name := "shaKnown", fn := fun _ => fun
  | [d] => { results := [.lit (.bool false)], args := [d] }
  | _ => none }
def ShaKnownWrongFalsely : Prop := shaKnownRow.holds Try.pinned (OpenSpec.ofChange shaKnownWrong)

/-- 'anabranchlaw02.ShaShort': WHATEVER THE INPUT: true; the input reads as it did. -/
def shaShortSpec : ChangeSpec := { name := "shaShort", fn := fun _ => fun
  | [d] => { results := [.lit (.bool true)], args := [d] }
  | _ => none }
def shaShortRow : OpenClaim := { program := "ytcjkgegahfligaa", sum := "9f752eb402bea271e60f086749c1de46d8fe80d2bdb49b1e6de3afa7c6e82b0f", func := "anabranch/anabranchlaw02.ShaShort", spec := "shaShort", apart := false }
def ShaShortSaid : Prop := shaShortRow.holds Try.pinned (OpenSpec.ofChange shaShortSpec)

/-- ITS FALSE NEIGHBOUR: 'it returns false'. Refute it at one input. -/
def shaShortWrong : ChangeSpec := { name := "shaShort", fn := fun _ => fun
  | [d] => { results := [.lit (.bool false)], args := [d] }
  | _ => none }
def ShaShortWrongFalsely : Prop := shaShortRow.holds Try.pinned (OpenSpec.ofChange shaShortWrong)

/- THE SECOND FORM. 'bulk': how many values and letters a reading holds, each counted each time it is reached (what is shared counts as often as it is met; a slice's spare places count too). A statement '..UptoSaid' is the law's where the arguments, and the package variables that the reading takes, are together of bulk at most 1048576: NARROWER than '..Said'. Prove '..Said' where nothing that the law and all that it calls make is longer than what came in: it says more and counts as full. Else prove '..UptoSaid'. A law counts once. -/
mutual
def uptoBulk {H : Type} : DataW H → Nat
  | .lit (.string bytes) => bytes.length + 1
  | .lit _ => 1
  | .nil => 1
  | .ptr d => uptoBulk d + 1
  | .slice elems spare => uptoBulkAll elems + uptoBulkAll spare + 1
  | .agg parts => uptoBulkAll parts + 1
  | .iface _ d => uptoBulk d + 1
  | .map entries => uptoBulkEntries entries + 1
  | .held _ => 1
def uptoBulkAll {H : Type} : List (DataW H) → Nat
  | [] => 0
  | d :: r => uptoBulk d + uptoBulkAll r
def uptoBulkEntries {H : Type} : List (Lit × DataW H) → Nat
  | [] => 0
  | x :: r => uptoBulkEntry x + uptoBulkEntries r
def uptoBulkEntry {H : Type} : Lit × DataW H → Nat
  | (.string bytes, d) => bytes.length + uptoBulk d + 1
  | (_, d) => uptoBulk d + 1
 end
def uptoSmall : (H : Type) → List (DataW H) → Bool := fun _ ds => decide (uptoBulkAll ds ≤ 1048576)
def OpenSpec.upto (s : _root_.Go.ChangeSpec) : _root_.Go.OpenSpec := { _root_.Go.OpenSpec.ofChange s with cond := some uptoSmall }

/-- 'anabranchlaw02.ShaBlocks', WHERE WHAT IT READS IS OF BULK AT MOST 1048576: true; the input reads as it did. -/
def shaBlocksUptoRow : OpenClaim := { program := "ytcjkgegahfligaa", sum := "9f752eb402bea271e60f086749c1de46d8fe80d2bdb49b1e6de3afa7c6e82b0f", func := "anabranch/anabranchlaw02.ShaBlocks", spec := "shaBlocks", apart := false, narrowed := true }
def ShaBlocksUptoSaid : Prop := shaBlocksUptoRow.holds Try.pinned (OpenSpec.upto shaBlocksSpec)

/-- 'anabranchlaw02.ShaPads', WHERE WHAT IT READS IS OF BULK AT MOST 1048576: true; the input reads as it did. -/
def shaPadsUptoRow : OpenClaim := { program := "ytcjkgegahfligaa", sum := "9f752eb402bea271e60f086749c1de46d8fe80d2bdb49b1e6de3afa7c6e82b0f", func := "anabranch/anabranchlaw02.ShaPads", spec := "shaPads", apart := false, narrowed := true }
def ShaPadsUptoSaid : Prop := shaPadsUptoRow.holds Try.pinned (OpenSpec.upto shaPadsSpec)

/-- 'anabranchlaw02.ShaWhole', WHERE WHAT IT READS IS OF BULK AT MOST 1048576: true; the input reads as it did. -/
def shaWholeUptoRow : OpenClaim := { program := "ytcjkgegahfligaa", sum := "9f752eb402bea271e60f086749c1de46d8fe80d2bdb49b1e6de3afa7c6e82b0f", func := "anabranch/anabranchlaw02.ShaWhole", spec := "shaWhole", apart := false, narrowed := true }
def ShaWholeUptoSaid : Prop := shaWholeUptoRow.holds Try.pinned (OpenSpec.upto shaWholeSpec)

/-- 'anabranchlaw02.ShaKnown', WHERE WHAT IT READS IS OF BULK AT MOST 1048576: true; the input reads as it did. -/
def shaKnownUptoRow : OpenClaim := { program := "ytcjkgegahfligaa", sum := "9f752eb402bea271e60f086749c1de46d8fe80d2bdb49b1e6de3afa7c6e82b0f", func := "anabranch/anabranchlaw02.ShaKnown", spec := "shaKnown", apart := false, narrowed := true }
def ShaKnownUptoSaid : Prop := shaKnownUptoRow.holds Try.pinned (OpenSpec.upto shaKnownSpec)

/-- 'anabranchlaw02.ShaShort', WHERE WHAT IT READS IS OF BULK AT MOST 1048576: true; the input reads as it did. -/
def shaShortUptoRow : OpenClaim := { program := "ytcjkgegahfligaa", sum := "9f752eb402bea271e60f086749c1de46d8fe80d2bdb49b1e6de3afa7c6e82b0f", func := "anabranch/anabranchlaw02.ShaShort", spec := "shaShort", apart := false, narrowed := true }
def ShaShortUptoSaid : Prop := shaShortUptoRow.holds Try.pinned (OpenSpec.upto shaShortSpec)

end Rows
end Go.Proofs.Ytcjkgegahfligaa
