/- A variable of a few cells that a walk has made, as one fact on its block; loads and stores of it as steps of a region. No program in sight. -/
import Derived.Test.YtofadpodlaakbaaRgFun
import Derived.Deep.MidRow
import Derived.Laws.IdiomCopy
import Derived.Below
namespace Go.Proofs.Ytofadpodlaakbaa
open Go Go.RowKit
set_option linter.unusedVariables false

/-- Block b is a variable of these cells. -/
def Cel (w : World) (b : Nat) (t : TypeId) (vs : List Value) : Prop := w.heap[b]? = some (.cells vs.toArray t (0, 0))
section
variable {w w' : World} {b : Nat} {t : TypeId} {vs : List Value}
theorem Cel.at (h : Cel w b t vs) (i : Nat) (v : Value) (hv : vs[i]? = some v) : w.cell? ⟨b, i, none⟩ = some v := by
  unfold World.cell?
  rw [h]
  simpa using hv
theorem Cel.free (h : Cel w b t vs) (i : Nat) : w.frozen? ⟨b, i, none⟩ = false := by
  unfold World.frozen?
  rw [h]
  simp
theorem Cel.lt (h : Cel w b t vs) : b < w.heap.size := (Array.getElem?_eq_some_iff.1 h).1
theorem Cel.below {B : Nat} (h : Cel w b t vs) (hb : Below B w w') (hB : b < B) : Cel w' b t vs := (hb.block b hB).trans h
theorem Cel.step (h : Cel w b t vs) (hb : Below w.heap.size w w') : Cel w' b t vs := h.below hb h.lt
theorem Cel.new (w : World) (t : TypeId) (vs : List Value) : Cel (w.alloc (.cells vs.toArray t)) w.heap.size t vs := by
  show (w.heap.push _)[w.heap.size]? = _
  simp
theorem Cel.there (h : Cel w b t vs) : w.there b 0 vs.length := fun j hj => by
  rw [Nat.zero_add]
  exact ⟨by rw [h.at j vs[j] (List.getElem?_eq_getElem hj)]; rfl, h.free j⟩
theorem Cel.range (h : Cel w b t vs) : w.rangeAt b 0 vs := fun j v hj => by rw [Nat.zero_add]; exact h.at j v hj
end
/-- But for block b the world is as it was. -/
structure Only (w w' : World) (b : Nat) : Prop where
  os : w'.os = w.os
  tape : w'.tape = w.tape
  output : w'.output = w.output
  size : w'.heap.size = w.heap.size
  block : ∀ k, k ≠ b → w'.heap[k]? = w.heap[k]?
theorem Only.refl (w : World) (b : Nat) : Only w w b := ⟨rfl, rfl, rfl, rfl, fun _ _ => rfl⟩
theorem Only.trans {w w' w'' : World} {b : Nat} (h : Only w w' b) (k : Only w' w'' b) : Only w w'' b := ⟨k.os.trans h.os, k.tape.trans h.tape, k.output.trans h.output, k.size.trans h.size, fun i hi => (k.block i hi).trans (h.block i hi)⟩
theorem Only.below {w0 w w' : World} {B b : Nat} (k : Only w w' b) (h : Below B w0 w) (hb : B ≤ b) : Below B w0 w' :=
  ⟨k.os.trans h.os, k.tape.trans h.tape, k.output.trans h.output, by rw [k.size]; exact h.size, fun i hi => (k.block i (by omega)).trans (h.block i hi)⟩
theorem Only.heap {w w' : World} {b k : Nat} {o : Obj} (h : Only w w' b) (hk : w.heap[k]? = some o) (hne : k ≠ b) : w'.heap[k]? = some o := (h.block k hne).trans hk
theorem heap_set_at (w : World) (b i : Nat) (v : Value) (cs : Array Value) (t : TypeId) (f : Nat × Nat) (h : w.heap[b]? = some (.cells cs t f)) : (w.setCell ⟨b, i, none⟩ v).heap[b]? = some (.cells (cs.setIfInBounds i v) t f) := by
  unfold World.setCell
  simp [Array.getElem?_modify, h]
theorem only_set (w : World) (b i : Nat) (v : Value) : Only w (w.setCell ⟨b, i, none⟩ v) b := by
  refine ⟨rfl, rfl, rfl, by simp, fun k hk => ?_⟩
  unfold World.setCell
  simp only [Array.getElem?_modify]
  rw [if_neg (fun h => hk h.symm)]
theorem Cel.set {w : World} {b : Nat} {t : TypeId} {vs : List Value} (h : Cel w b t vs) (i : Nat) (v : Value) : Cel (w.setCell ⟨b, i, none⟩ v) b t (vs.set i v) := by
  unfold Cel
  rw [heap_set_at w b i v _ _ _ h]
  simp
theorem only_sets (b : Nat) : ∀ (vs : List Value) (o : Nat) (w : World), Only w (w.setCells b o vs) b
  | [], o, w => Only.refl w b
  | v :: r, o, w => (only_set w b o v).trans (only_sets b r (o + 1) _)
theorem Cel.sets (b : Nat) (t : TypeId) : ∀ (vs pre us : List Value) (w : World), us.length = vs.length → Cel w b t (pre ++ us) → Cel (w.setCells b pre.length vs) b t (pre ++ vs)
  | [], pre, us, w, hl, h => by
    obtain rfl : us = [] := List.eq_nil_of_length_eq_zero hl
    exact h
  | v :: r, pre, [], w, hl, h => by simp at hl
  | v :: r, pre, u :: us, w, hl, h => by
    have h1 := h.set pre.length v
    have e1 : (pre ++ u :: us).set pre.length v = (pre ++ [v]) ++ us := by simp
    rw [e1] at h1
    have h2 := Cel.sets b t r (pre ++ [v]) us _ (by simpa using hl) h1
    rw [show (pre ++ [v]).length = pre.length + 1 by simp] at h2
    have e2 : (pre ++ [v]) ++ r = pre ++ v :: r := by simp
    rw [e2] at h2
    exact h2
theorem Cel.grown {w w' : World} {b : Nat} {t : TypeId} {vs : List Value} {row : Option Nat} (h : Cel w b t vs) (hg : w.grownBy w' row) (hne : ∀ k, row = some k → b < k) : Cel w' b t vs := by
  obtain ⟨_, _, _, _, h5⟩ := hg
  exact (h5 b h.lt (by
    intro e
    have := hne b e.symm
    omega)).trans h
theorem size_alloc' (w : World) (o : Obj) : (w.alloc o).heap.size = w.heap.size + 1 := Array.size_push ..

section
variable {P : Program} {ops : Array Oper} {Q : Exit → Act → World → Prop} {o : Oper} {w : World} {K : Act → World → Prop} {E : Prop} {ts : Array Value} {ds : List Deferred}
/-- A store of a whole variable, as a step of a region. -/
theorem cel_store {b : Nat} {t : TypeId} {us : List Value} (hw : Region.wanted o (yielded ops ts) = true) (hd : o.dst = none) (ty : TypeId) (x y : Operand) (ho : o.op = .store ty x y)
    (hx : Act.eval ⟨ts, ds⟩ x = .pointer (some ⟨b, 0, none⟩)) (cs : List Value) (hy : Act.eval ⟨ts, ds⟩ y = .agg cs.toArray) (hc : Cel w b t us) (hl : us.length = cs.length) (hi : (P.info? ty).map (·.size) = some cs.length) (h1 : ∀ v ∈ cs, v.oneCell' = true)
    (h : ∀ w', Cel w' b t cs → Only w w' b → K ⟨ts, ds⟩ w') : if Region.wanted o (yielded ops ts) = true then o.wp P ⟨ts, ds⟩ w K Q else E := by
  rw [if_pos hw]
  refine wp_store_mid ty x y ho b 0 cs.toArray hx hy (by rw [List.size_toArray, ← hl]; exact hc.there) (by rw [List.size_toArray]; exact hi) (all_oneCell_toArray h1) ?_
  rw [hd, List.toList_toArray]
  refine h _ ?_ (only_sets b cs 0 w)
  have := Cel.sets b t cs [] us w hl (by simpa using hc)
  simpa using this
/-- A load of a whole variable, as a step of a region. -/
theorem cel_load {b : Nat} {t : TypeId} (hw : Region.wanted o (yielded ops ts) = true) (d : Nat) (hd : o.dst = some d) (ty : TypeId) (x : Operand) (ho : o.op = .load ty x)
    (hx : Act.eval ⟨ts, ds⟩ x = .pointer (some ⟨b, 0, none⟩)) (cs : List Value) (dd : TypeDesc) (hc : Cel w b t cs) (hu : P.underlying ty = some dd) (hdd : dd.isRow = true) (hi : (P.info? ty).map (·.size) = some cs.length)
    (h : K ⟨ts.setIfInBounds d (.agg cs.toArray), ds⟩ w) : if Region.wanted o (yielded ops ts) = true then o.wp P ⟨ts, ds⟩ w K Q else E := by
  rw [if_pos hw]; exact wp_load_mid ty x ho b 0 hx cs dd hc.range hu hdd hi (by rw [hd]; exact h)
end
end Go.Proofs.Ytofadpodlaakbaa
