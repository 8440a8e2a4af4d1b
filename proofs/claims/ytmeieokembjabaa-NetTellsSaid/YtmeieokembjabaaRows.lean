/-
  No cell of these rows narrows 'for every input' (looked for: loops, veiled, ifaces, maps, wideKeys, modest, calm, conditions, laid).
  DERIVED. THE GIVEN ROWS OF THIS SEAT. 5 by the template 'for every input the law returns true; each argument reads behind the call as it read before'; 0 by the template 'total and deterministic' (their statements: YtmeieokembjabaaTotals.lean).
  GIVEN WITH THE SEED: the statements are not yours to turn. If you find one false, say at which input.
  Laid BY PROGRAM, IN A SANDBOX (cutbox-rows.mjs): the forced cells as the released guide's own fill.sh prints them over the translation 8e41ec0ca3e9ca1b… (all of the seat's roots in one cut). By AI agents, Wed Nov 11 2026. No macro, syntax, notation, axiom, sorry.
-/
import Derived.Test.YtmeieokembjabaaChecked
import GoSem.Claim
import GoSem.ClaimJoined
import GoSem.ClaimMapViews
import Derived.JoinedTies
import Derived.KernelRfl
namespace Go.Proofs.Ytmeieokembjabaa
/- THE CELL 'sum', in the pinned program and in every row, IS THE sha256 OF THE DUMP (.gsa) THAT YtmeieokembjabaaProg.lean LOADS. Nothing in Lean hashes anything: it is a label: what it is worth is what the hold of that sum in a sandbox is worth. -/
noncomputable def Try.pinned : Pinned := { name := "ytmeieokembjabaa", sum := "8e41ec0ca3e9ca1b9a1857c86813fd93fddaf7a6a7990365caf362679930d59f", checked := Try.checked }
namespace Rows
def none {H : Type} : Left H := { results := [], args := [] }

/-- 'anabranchlaw21.NetTells': WHATEVER THE INPUT: true; the input reads as it did. -/
def netTellsSpec : ChangeSpec := { name := "netTells", fn := fun _ => fun
  | [d1, d2, d3, d4, d5] => { results := [.lit (.bool true)], args := [d1, d2, d3, d4, d5] }
  | _ => none }
def netTellsRow : OpenClaim := { program := "ytmeieokembjabaa", sum := "8e41ec0ca3e9ca1b9a1857c86813fd93fddaf7a6a7990365caf362679930d59f", func := "anabranch/anabranchlaw21.NetTells", spec := "netTells", apart := false }
def NetTellsSaid : Prop := netTellsRow.holds Try.pinned (OpenSpec.ofChange netTellsSpec)

/-- ITS FALSE NEIGHBOUR: 'it returns false'. Refute it at one input. -/
def netTellsWrong : ChangeSpec := { name := "netTells", fn := fun _ => fun
  | [d1, d2, d3, d4, d5] => { results := [.lit (.bool false)], args := [d1, d2, d3, d4, d5] }
  | _ => none }
def NetTellsWrongFalsely : Prop := netTellsRow.holds Try.pinned (OpenSpec.ofChange netTellsWrong)

/-- 'anabranchlaw21.NetBack': WHATEVER THE INPUT: true; the input reads as it did. -/
def netBackSpec : ChangeSpec := { name := "netBack", fn := fun _ => fun
  | [d1, d2, d3, d4] => { results := [.lit (.bool true)], args := [d1, d2, d3, d4] }
  | _ => none }
def netBackRow : OpenClaim := { program := "ytmeieokembjabaa", sum := "8e41ec0ca3e9ca1b9a1857c86813fd93fddaf7a6a7990365caf362679930d59f", func := "anabranch/anabranchlaw21.NetBack", spec := "netBack", apart := false }
def NetBackSaid : Prop := netBackRow.holds Try.pinned (OpenSpec.ofChange netBackSpec)

/-- ITS FALSE NEIGHBOUR: 'it returns false'. Refute it at one input. -/
def netBackWrong : ChangeSpec := { name := "netBack", fn := fun _ => fun
  | [d1, d2, d3, d4] => { results := [.lit (.bool false)], args := [d1, d2, d3, d4] }
  | _ => none }
def NetBackWrongFalsely : Prop := netBackRow.holds Try.pinned (OpenSpec.ofChange netBackWrong)

/-- 'anabranchlaw21.NetBound': WHATEVER THE INPUT: true; the input reads as it did. -/
def netBoundSpec : ChangeSpec := { name := "netBound", fn := fun _ => fun
  | [d1, d2] => { results := [.lit (.bool true)], args := [d1, d2] }
  | _ => none }
def netBoundRow : OpenClaim := { program := "ytmeieokembjabaa", sum := "8e41ec0ca3e9ca1b9a1857c86813fd93fddaf7a6a7990365caf362679930d59f", func := "anabranch/anabranchlaw21.NetBound", spec := "netBound", apart := false }
def NetBoundSaid : Prop := netBoundRow.holds Try.pinned (OpenSpec.ofChange netBoundSpec)

/-- ITS FALSE NEIGHBOUR: 'it returns false'. Refute it at one input. -/
def netBoundWrong : ChangeSpec := { name := "netBound", fn := fun _ => fun
  | [d1, d2] => { results := [.lit (.bool false)], args := [d1, d2] }
  | _ => none }
def NetBoundWrongFalsely : Prop := netBoundRow.holds Try.pinned (OpenSpec.ofChange netBoundWrong)

/-- 'anabranchlaw21.NetPass': WHATEVER THE INPUT: true; the input reads as it did. -/
def netPassSpec : ChangeSpec := { name := "netPass", fn := fun _ => fun
  | [d1, d2] => { results := [.lit (.bool true)], args := [d1, d2] }
  | _ => none }
def netPassRow : OpenClaim := { program := "ytmeieokembjabaa", sum := "8e41ec0ca3e9ca1b9a1857c86813fd93fddaf7a6a7990365caf362679930d59f", func := "anabranch/anabranchlaw21.NetPass", spec := "netPass", apart := false }
def NetPassSaid : Prop := netPassRow.holds Try.pinned (OpenSpec.ofChange netPassSpec)

/-- ITS FALSE NEIGHBOUR: 'it returns false'. Refute it at one input. -/
def netPassWrong : ChangeSpec := { name := "netPass", fn := fun _ => fun
  | [d1, d2] => { results := [.lit (.bool false)], args := [d1, d2] }
  | _ => none }
def NetPassWrongFalsely : Prop := netPassRow.holds Try.pinned (OpenSpec.ofChange netPassWrong)

/-- 'anabranchlaw21.NetOrder': WHATEVER THE INPUT: true; the input reads as it did. -/
def netOrderSpec : ChangeSpec := { name := "netOrder", fn := fun _ => fun
  | [d1, d2, d3, d4, d5] => { results := [.lit (.bool true)], args := [d1, d2, d3, d4, d5] }
  | _ => none }
def netOrderRow : OpenClaim := { program := "ytmeieokembjabaa", sum := "8e41ec0ca3e9ca1b9a1857c86813fd93fddaf7a6a7990365caf362679930d59f", func := "anabranch/anabranchlaw21.NetOrder", spec := "netOrder", apart := false }
def NetOrderSaid : Prop := netOrderRow.holds Try.pinned (OpenSpec.ofChange netOrderSpec)

/-- ITS FALSE NEIGHBOUR: 'it returns false'. Refute it at one input. -/
def netOrderWrong : ChangeSpec := { name := "netOrder", fn := fun _ => fun
  | [d1, d2, d3, d4, d5] => { results := [.lit (.bool false)], args := [d1, d2, d3, d4, d5] }
  | _ => none }
def NetOrderWrongFalsely : Prop := netOrderRow.holds Try.pinned (OpenSpec.ofChange netOrderWrong)

/- THE SECOND FORM. 'bulk': how many values and letters a reading holds, each counted each time it is reached (what is shared counts as often as it is met; a slice's spare places count too). A statement '..UptoSaid' is the law's where the arguments, and the package variables that the reading takes, are together of bulk at most 1048576: NARROWER than '..Said'. Prove '..Said' where nothing that the law and all that it calls make is longer than what came in: it says more and counts as full. Else prove '..UptoSaid'. A law counts once. -/
mutual
def uptoBulk {H : Type} : DataW H → Nat
  | .lit (.string bytes) => bytes.length + 1
  | .lit _ => 1
  | .nil => 1
  | .ptr d => uptoBulk d + 1
  | .slice elems spare => uptoBulkAll elems + uptoBulkAll spare + 1
  | .agg parts => uptoBulkAll parts + 1
  | .iface _ d => uptoBulk d + 1
  | .map entries => uptoBulkEntries entries + 1
  | .held _ => 1
def uptoBulkAll {H : Type} : List (DataW H) → Nat
  | [] => 0
  | d :: r => uptoBulk d + uptoBulkAll r
def uptoBulkEntries {H : Type} : List (Lit × DataW H) → Nat
  | [] => 0
  | x :: r => uptoBulkEntry x + uptoBulkEntries r
def uptoBulkEntry {H : Type} : Lit × DataW H → Nat
  | (.string bytes, d) => bytes.length + uptoBulk d + 1
  | (_, d) => uptoBulk d + 1
 end
def uptoSmall : (H : Type) → List (DataW H) → Bool := fun _ ds => decide (uptoBulkAll ds ≤ 1048576)
def OpenSpec.upto (s : _root_.Go.ChangeSpec) : _root_.Go.OpenSpec := { _root_.Go.OpenSpec.ofChange s with cond := some uptoSmall }

/-- 'anabranchlaw21.NetTells', WHERE WHAT IT READS IS OF BULK AT MOST 1048576: true; the input reads as it did. -/
def netTellsUptoRow : OpenClaim := { program := "ytmeieokembjabaa", sum := "8e41ec0ca3e9ca1b9a1857c86813fd93fddaf7a6a7990365caf362679930d59f", func := "anabranch/anabranchlaw21.NetTells", spec := "netTells", apart := false, narrowed := true }
def NetTellsUptoSaid : Prop := netTellsUptoRow.holds Try.pinned (OpenSpec.upto netTellsSpec)

/-- 'anabranchlaw21.NetBack', WHERE WHAT IT READS IS OF BULK AT MOST 1048576: true; the input reads as it did. -/
def netBackUptoRow : OpenClaim := { program := "ytmeieokembjabaa", sum := "8e41ec0ca3e9ca1b9a1857c86813fd93fddaf7a6a7990365caf362679930d59f", func := "anabranch/anabranchlaw21.NetBack", spec := "netBack", apart := false, narrowed := true }
def NetBackUptoSaid : Prop := netBackUptoRow.holds Try.pinned (OpenSpec.upto netBackSpec)

/-- 'anabranchlaw21.NetBound', WHERE WHAT IT READS IS OF BULK AT MOST 1048576: true; the input reads as it did. -/
def netBoundUptoRow : OpenClaim := { program := "ytmeieokembjabaa", sum := "8e41ec0ca3e9ca1b9a1857c86813fd93fddaf7a6a7990365caf362679930d59f", func := "anabranch/anabranchlaw21.NetBound", spec := "netBound", apart := false, narrowed := true }
def NetBoundUptoSaid : Prop := netBoundUptoRow.holds Try.pinned (OpenSpec.upto netBoundSpec)

/-- 'anabranchlaw21.NetPass', WHERE WHAT IT READS IS OF BULK AT MOST 1048576: true; the input reads as it did. -/
def netPassUptoRow : OpenClaim := { program := "ytmeieokembjabaa", sum := "8e41ec0ca3e9ca1b9a1857c86813fd93fddaf7a6a7990365caf362679930d59f", func := "anabranch/anabranchlaw21.NetPass", spec := "netPass", apart := false, narrowed := true }
def NetPassUptoSaid : Prop := netPassUptoRow.holds Try.pinned (OpenSpec.upto netPassSpec)

/-- 'anabranchlaw21.NetOrder', WHERE WHAT IT READS IS OF BULK AT MOST 1048576: true; the input reads as it did. -/
def netOrderUptoRow : OpenClaim := { program := "ytmeieokembjabaa", sum := "8e41ec0ca3e9ca1b9a1857c86813fd93fddaf7a6a7990365caf362679930d59f", func := "anabranch/anabranchlaw21.NetOrder", spec := "netOrder", apart := false, narrowed := true }
def NetOrderUptoSaid : Prop := netOrderUptoRow.holds Try.pinned (OpenSpec.upto netOrderSpec)

end Rows
end Go.Proofs.Ytmeieokembjabaa
