/- Slices of slices of bytes that are read, in plain words. -/
import Derived.Test.YtofadpodlaakbaaGreatJ1
namespace Go.Proofs.YtofadpodlaakbaaGreat
open Go.ChangeShapes Go.WideShapes Go.ChangeAt Go.RowKit
set_option linter.unusedVariables false
structure Txs (w : World) (a : Option Addr) (n c : Nat) (ls : List (List UInt8)) : Prop where
 len : ls.length = n
 le : n ≤ c
 cap : c ≤ 9223372036854775807
 non : a = none → c = 0
 cells : n = 0 ∨ ∃ b off, a = some ⟨b, off, none⟩ ∧ ∀ i, i < n → ∃ a' c', w.cell? ⟨b, off + i, none⟩ = some (.slice a' (ls.getD i []).length c') ∧ Rd w a' (ls.getD i []).length c' (ls.getD i []) ∧ (a' = none → c' = 0)
theorem Txs.below {w w' : World} {a : Option Addr} {n c : Nat} {ls : List (List UInt8)} (h : Txs w a n c ls) (hb : Below w.heap.size w w') : Txs w' a n c ls := by
 refine ⟨h.len, h.le, h.cap, h.non, ?_⟩
 rcases h.cells with h0 | ⟨b, off, rfl, hc⟩
 ·exact .inl h0
 ·refine .inr ⟨b, off, rfl, fun i hi => ?_⟩
  obtain ⟨a', c', h1, h2, h3⟩ := hc i hi
  exact ⟨a', c', carry_cell h1 hb, h2.below hb, h3⟩
theorem Txs.front {w : World} {a : Option Addr} {n c : Nat} {ls : List (List UInt8)} (h : Txs w a n c ls) (k : Nat) (hk : k ≤ n) : Txs w a k c (ls.take k) := by
 refine ⟨by rw [List.length_take, h.len, Nat.min_eq_left hk], Nat.le_trans hk h.le, h.cap, h.non, ?_⟩
 rcases h.cells with h0 | ⟨b, off, rfl, hc⟩
 ·exact .inl (by omega)
 ·refine .inr ⟨b, off, rfl, fun i hi => ?_⟩
  have e : (ls.take k).getD i [] = ls.getD i [] := by
   rw [List.getD_eq_getElem?_getD, List.getElem?_take, if_pos hi, ← List.getD_eq_getElem?_getD]
  rw [e]
  exact hc i (by omega)
end Go.Proofs.YtofadpodlaakbaaGreat
