/- What the layer net computes, on lists of packets; slices of packets that are read, in plain words. -/
import Derived.Test.YtmeieokembjabaaClone
import Derived.Test.YtmeieokembjabaaCel
namespace Go.Proofs.Ytmeieokembjabaa
open Go Go.RowKit
set_option linter.unusedVariables false

/-- A packet. -/
structure Pk where
  fr : Int
  to : Int
  by_ : List UInt8
deriving DecidableEq
def noPk : Pk := ⟨0, 0, []⟩
def okP (p : Pk) : Bool := decide (0 ≤ p.fr) && decide (p.fr < 8) && (decide (0 ≤ p.to) && decide (p.to < 8)) && decide (p.by_.length ≤ 4000)
/-- What is under way with one more. -/
def sendP (l : List Pk) (p : Pk) : List Pk := if okP p = true then (l ++ [p]).drop (l.length + 1 - 64) else l
def hasP (l : List Pk) (i : Int) : Bool := decide (0 ≤ i) && decide (i < (l.length : Int))
def passP (l : List Pk) (i : Int) : List Pk := if hasP l i = true then l.eraseIdx i.toNat else l
def outP (l : List Pk) (i : Int) : Pk := if hasP l i = true then l.getD i.toNat noPk else noPk
def twiceP (l : List Pk) (i : Int) : List Pk := if hasP l i = true then sendP l (l.getD i.toNat noPk) else l

/-- The slice (a, n, c) reads as the packets ps. -/
structure Pks (w : World) (a : Option Addr) (n c : Nat) (ps : List Pk) : Prop where
  len : ps.length = n
  le : n ≤ c
  cap : c ≤ 9223372036854775807
  non : a = none → c = 0
  cells : n = 0 ∨ ∃ b off, a = some ⟨b, off, none⟩ ∧ ∀ i, i < n → ∃ a' c', w.cell? ⟨b, off + i * 3, none⟩ = some (.int .i64 (ps.getD i noPk).fr) ∧ w.cell? ⟨b, off + i * 3 + 1, none⟩ = some (.int .i64 (ps.getD i noPk).to) ∧
    w.cell? ⟨b, off + i * 3 + 2, none⟩ = some (.slice a' (ps.getD i noPk).by_.length c') ∧ Rd w a' (ps.getD i noPk).by_.length c' (ps.getD i noPk).by_ ∧ (a' = none → c' = 0)
theorem Pks.below {w w' : World} {a : Option Addr} {n c : Nat} {ps : List Pk} (h : Pks w a n c ps) (hb : Below w.heap.size w w') : Pks w' a n c ps := by
  refine ⟨h.len, h.le, h.cap, h.non, ?_⟩
  rcases h.cells with h0 | ⟨b, off, rfl, hc⟩
  · exact .inl h0
  · refine .inr ⟨b, off, rfl, fun i hi => ?_⟩
    obtain ⟨a', c', h1, h2, h3, h4, h5⟩ := hc i hi
    exact ⟨a', c', carry_cell h1 hb, carry_cell h2 hb, carry_cell h3 hb, h4.below hb, h5⟩
end Go.Proofs.Ytmeieokembjabaa
