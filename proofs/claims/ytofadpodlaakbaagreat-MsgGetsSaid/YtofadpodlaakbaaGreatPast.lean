/- A world in which one block alone of what was there has changed. -/
import Derived.Test.YtofadpodlaakbaaGreatJ1
namespace Go.Proofs.YtofadpodlaakbaaGreat
open Go.ChangeShapes Go.WideShapes Go.ChangeAt Go.RowKit
set_option linter.unusedVariables false
structure PastN (w w' : World) (b : Nat) : Prop where
 os : w'.os = w.os
 tape : w'.tape = w.tape
 output : w'.output = w.output
 size : w.heap.size ≤ w'.heap.size
 block : ∀ k, k < w.heap.size → k ≠ b → w'.heap[k]? = w.heap[k]?
theorem PastN.refl (w : World) (b : Nat) : PastN w w b := ⟨rfl, rfl, rfl, Nat.le_refl _, fun _ _ _ => rfl⟩
theorem PastN.step {w w' w'' : World} {b : Nat} (h : PastN w w' b) (hb : Below w'.heap.size w' w'') : PastN w w'' b :=
 ⟨hb.os.trans h.os, hb.tape.trans h.tape, hb.output.trans h.output, Nat.le_trans h.size hb.size, fun k hk hne => (hb.block k (Nat.lt_of_lt_of_le hk h.size)).trans (h.block k hk hne)⟩
theorem PastN.only {w w' w'' : World} {b : Nat} (h : PastN w w' b) (ho : Only w' w'' b) : PastN w w'' b :=
 ⟨ho.os.trans h.os, ho.tape.trans h.tape, ho.output.trans h.output, by rw [ho.size]; exact h.size, fun k hk hne => (ho.block k hne).trans (h.block k hk hne)⟩
theorem PastN.grown {w w' w'' : World} {b : Nat} {row : Option Nat} (h : PastN w w' b) (hg : w'.grownBy w'' row) (hr : ∀ k, row = some k → w.heap.size ≤ k) : PastN w w'' b := by
 obtain ⟨h1, h2, h3, h4, h5⟩ := hg
 exact ⟨h1.trans h.os, h2.trans h.tape, h3.trans h.output, Nat.le_trans h.size h4, fun k hk hne => (h5 k (Nat.lt_of_lt_of_le hk h.size) (by
  intro e
  have := hr k e.symm
  omega)).trans (h.block k hk hne)⟩
theorem PastN.below {w0 w w' : World} {b : Nat} (h : PastN w w' b) (hb : Below w0.heap.size w0 w) (hlo : w0.heap.size ≤ b) : Below w0.heap.size w0 w' :=
 ⟨h.os.trans hb.os, h.tape.trans hb.tape, h.output.trans hb.output, Nat.le_trans hb.size h.size, fun k hk => (h.block k (Nat.lt_of_lt_of_le hk hb.size) (by omega)).trans (hb.block k hk)⟩
theorem PastN.heap {w w' : World} {b k : Nat} {o : Obj} (h : PastN w w' b) (hk : w.heap[k]? = some o) (hne : k ≠ b) : w'.heap[k]? = some o := (h.block k (Array.getElem?_eq_some_iff.1 hk).1 hne).trans hk
theorem PastN.cell {w w' : World} {b : Nat} {p : Addr} {v : Value} (h : PastN w w' b) (hp : w.cell? p = some v) (hne : p.block ≠ b) : w'.cell? p = some v := by
 have hlt := block_lt_of_cell hp
 unfold World.cell? at hp ⊢
 rw [h.block p.block hlt hne]
 exact hp
theorem PastN.trans {w w' w'' : World} {b : Nat} (h : PastN w w' b) (k : PastN w' w'' b) : PastN w w'' b :=
 ⟨k.os.trans h.os, k.tape.trans h.tape, k.output.trans h.output, Nat.le_trans h.size k.size, fun i hi hne => (k.block i (Nat.lt_of_lt_of_le hi h.size) hne).trans (h.block i hi hne)⟩
theorem PastN.of_below {w w' : World} {b : Nat} (h : Below w.heap.size w w') : PastN w w' b := (PastN.refl w b).step h
theorem PastN.of_only {w w' : World} {b : Nat} (h : Only w w' b) : PastN w w' b := (PastN.refl w b).only h
end Go.Proofs.YtofadpodlaakbaaGreat
