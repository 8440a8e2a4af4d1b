/- The walk of sha.Block. -/
import Derived.Test.YtofadpodlaakbaaGreatJ2
import Derived.Test.YtofadpodlaakbaaGreatJ1
import Derived.Laws.IdiomCopy
namespace Go.Proofs.YtofadpodlaakbaaGreat
open Go.ChangeShapes Go.WideShapes Go.ChangeAt Go.RowKit
set_option linter.unusedVariables false
structure Vr (w2 w : World) (n b : Nat) : Prop where
 lo : w2.heap.size ≤ b
 hi : b < w.heap.size
 th : w.there b 0 n
theorem Vr.below {w2 w w' : World} {n b : Nat} (h : Vr w2 w n b) (hb : Below w.heap.size w w') : Vr w2 w' n b := ⟨h.lo, Nat.lt_of_lt_of_le h.hi hb.size, there_below h.th hb h.hi⟩
theorem size_setCells (b : Nat) : ∀ (vs : List Value) (o : Nat) (w : World), (w.setCells b o vs).heap.size = w.heap.size
 | [], _, _ => rfl
 | v :: r, o, w => by rw [World.setCells, size_setCells b r]; simp [World.setCell]
theorem Vr.set {w2 w : World} {n b : Nat} (h : Vr w2 w n b) (b' : Nat) (vs : List Value) : Vr w2 (w.setCells b' 0 vs) n b := ⟨h.lo, by rw [size_setCells]; exact h.hi, World.there_setCells h.th b' 0 vs⟩
theorem Vr.new (w2 w : World) (cs : List Value) (t : TypeId) (h : w2.heap.size ≤ w.heap.size) : Vr w2 (w.alloc (.cells cs.toArray t)) cs.length w.heap.size := ⟨h, by simp, there_new w cs t⟩
section
variable {P : Program} {ops : Array Oper} {o : Oper} {t : Array Value} {ds : List Deferred} {w : World} {K : Act → World → Prop} {Q : Exit → Act → World → Prop} {E : Prop}
theorem wanted_run (hw : Region.wanted o (yielded ops t) = true) (d : Nat) (hd : o.dst = some d) (v : Value) (w' : World)
  (hrun : (execOp (Act.eval ⟨t, ds⟩) o).run P w = .ok (.value v) w') (h : K ⟨t.setIfInBounds d v, ds⟩ w') : if Region.wanted o (yielded ops t) = true then o.wp P ⟨t, ds⟩ w K Q else E := by
 rw [if_pos hw]; unfold Oper.wp; rw [hrun]; show K (Act.put ⟨t, ds⟩ o.dst v) w'; rw [hd]; exact h
theorem wanted_load (hw : Region.wanted o (yielded ops t) = true) (d : Nat) (hd : o.dst = some d) (ty : TypeId) (x : Operand) (ho : o.op = .load ty x)
  (b : Nat) (hx : Act.eval ⟨t, ds⟩ x = .pointer (some ⟨b, 0, none⟩)) (cs : List Value) (dd : TypeDesc) (hc : w.rangeAt b 0 cs) (hu : P.underlying ty = some dd) (hdd : dd.isRow = true) (hi : (P.info? ty).map (·.size) = some cs.length)
  (h : K ⟨t.setIfInBounds d (.agg cs.toArray), ds⟩ w) : if Region.wanted o (yielded ops t) = true then o.wp P ⟨t, ds⟩ w K Q else E := by
 rw [if_pos hw]; exact wp_load_mid ty x ho b 0 hx cs dd hc hu hdd hi (by rw [hd]; exact h)
theorem wanted_store (hw : Region.wanted o (yielded ops t) = true) (hd : o.dst = none) (ty : TypeId) (x y : Operand) (ho : o.op = .store ty x y)
  (b : Nat) (cs : List Value) (hx : Act.eval ⟨t, ds⟩ x = .pointer (some ⟨b, 0, none⟩)) (hy : Act.eval ⟨t, ds⟩ y = .agg cs.toArray) (ht : w.there b 0 cs.length) (hi : (P.info? ty).map (·.size) = some cs.length) (h1 : ∀ v ∈ cs, v.oneCell' = true)
  (h : K ⟨t, ds⟩ (w.setCells b 0 cs)) : if Region.wanted o (yielded ops t) = true then o.wp P ⟨t, ds⟩ w K Q else E := by
 rw [if_pos hw]; exact wp_store_mid ty x y ho b 0 cs.toArray hx hy (by rw [List.size_toArray]; exact ht) (by rw [List.size_toArray]; exact hi) (all_oneCell_toArray h1) (by rw [hd, List.toList_toArray]; exact h)
end
theorem set_same {w : World} {b : Nat} {vs : List Value} (h : w.there b 0 vs.length) : (w.setCells b 0 vs).rangeAt b 0 vs := World.rangeAt_setCells_same w b 0 vs h
theorem set_apart {w : World} {b b' : Nat} {cs vs : List Value} (h : w.rangeAt b' 0 cs) (hne : b' ≠ b) : (w.setCells b 0 vs).rangeAt b' 0 cs := World.rangeAt_setCells_apart h b 0 vs (.inl hne)
def zeros8 : List Value := List.replicate 8 (.int .u32 0)
theorem info_w8 : (Tryz.prog.info? 101).map (·.size) = some 8 := by kernel_rfl
theorem under_w8 : Tryz.prog.underlying 101 = some (.array 8 100) := by kernel_rfl
theorem cells_one (h : Q8) : ∀ v ∈ h.cells, v.oneCell' = true := by intro v hv; simp [Q8.cells] at hv; rcases hv with rfl | rfl | rfl | rfl | rfl | rfl | rfl | rfl <;> rfl
theorem step_copy {P : Program} {ops : Array Oper} {o : Oper} {a : Act} {w : World} {K : Act → World → Prop} {Q : Exit → Act → World → Prop} {E : Prop}
  (hg : o.guard = none) (d x : Operand) (dT sT : TypeId) (hop : o.op = Op.call { callee := Callee.builtin Builtin.copy, args := #[d, x], argTypes := #[dT, sT] })
  (v u : Value) (hd : a.eval d = v) (hx : a.eval x = u) {v' : Value} {w' : World} (hr : (Builtin.copy_ #[dT, sT] o.type #[v, u]).run P w = .ok v' w') (hK : K (a.put o.dst v') w') :
  if Region.wanted o (yielded ops a.tmps) = true then Oper.wp P o a w K Q else E := by
 have hw : Region.wanted o (yielded ops a.tmps) = true := by simp [Region.wanted, hg]
 rw [if_pos hw]
 unfold Oper.wp
 simp [execOp, hop, resolve, invoke, builtin, hd, hx, hr, Result.andThen]
 exact hK
theorem cell_of {w : World} {b : Nat} {L : List Int} (h : w.rangeAt b 0 (L.map (Value.int .u32))) (i : Nat) (hi : i < L.length) : w.cell? ⟨b, i, none⟩ = some (.int .u32 (L.getD i 0)) := by
 have := h i (.int .u32 (L.getD i 0)) (by rw [List.getElem?_map, List.getD_eq_getElem?_getD, List.getElem?_eq_getElem hi]; rfl)
 rwa [Nat.zero_add] at this
theorem cells_of {w : World} {b : Nat} {s : Q8} (h : w.rangeAt b 0 s.cells) : w.cell? ⟨b, 0, none⟩ = some (.int .u32 s.a) ∧ w.cell? ⟨b, 1, none⟩ = some (.int .u32 s.b) ∧ w.cell? ⟨b, 2, none⟩ = some (.int .u32 s.c) ∧ w.cell? ⟨b, 3, none⟩ = some (.int .u32 s.d) ∧
  w.cell? ⟨b, 4, none⟩ = some (.int .u32 s.e) ∧ w.cell? ⟨b, 5, none⟩ = some (.int .u32 s.f) ∧ w.cell? ⟨b, 6, none⟩ = some (.int .u32 s.g) ∧ w.cell? ⟨b, 7, none⟩ = some (.int .u32 s.h) := by
 refine ⟨?_, ?_, ?_, ?_, ?_, ?_, ?_, ?_⟩
 ·simpa using h 0 _ rfl
 ·simpa using h 1 _ rfl
 ·simpa using h 2 _ rfl
 ·simpa using h 3 _ rfl
 ·simpa using h 4 _ rfl
 ·simpa using h 5 _ rfl
 ·simpa using h 6 _ rfl
 ·simpa using h 7 _ rfl
theorem one_is (k w : Int) (s : Q8) : ((s.h + greatP s.e 6 11 25 + pick s.e s.f s.g + k) % 4294967296 + w) % 4294967296 = oneP k w s := by
 unfold oneP addW
 rw [wrap_u32, wrap_u32, wrap_u32, wrap_u32]
 generalize greatP s.e 6 11 25 = x
 generalize pick s.e s.f s.g = y
 omega
theorem two_is (s : Q8) : (greatP s.a 2 13 22 + most s.a s.b s.c) % 4294967296 = twoP s := by unfold twoP addW; rw [wrap_u32]
theorem copy_up {w v : World} {b : Nat} {s S : Q8} (e : s = S) (h : w.rangeAt b 0 S.cells) (ht : w.there b 0 8) (hv : ∀ q : Addr, v.cell? q = w.cell? q ∧ v.frozen? q = w.frozen? q) :
  (Builtin.copy_ #[124, 124] 3 #[.slice (some ⟨b, 1, none⟩) 7 7, .slice (some ⟨b, 0, none⟩) 7 8]).run Tryz.prog v = .ok (goInt 7) (v.setCells b 1 [.int .u32 s.a, .int .u32 s.b, .int .u32 s.c, .int .u32 s.d, .int .u32 s.e, .int .u32 s.f, .int .u32 s.g]) := by
 subst e
 refine run_copy_cells (P := Tryz.prog) v 124 124 3 100 b 1 7 7 ⟨b, 0, none⟩ 7 8 (hu := by kernel_rfl) (hs := by kernel_rfl) (hn := rfl) (cs := [.int .u32 s.a, .int .u32 s.b, .int .u32 s.c, .int .u32 s.d, .int .u32 s.e, .int .u32 s.f, .int .u32 s.g]) ?_ ?_ ?_ ?_
 ·intro j x hj
  have hj7 : j < 7 := (List.getElem?_eq_some_iff.1 hj).1
  have h8 : s.cells[j]? = some x := by
   have : s.cells = [.int .u32 s.a, .int .u32 s.b, .int .u32 s.c, .int .u32 s.d, .int .u32 s.e, .int .u32 s.f, .int .u32 s.g] ++ [.int .u32 s.h] := rfl
   rw [this, List.getElem?_append_left (by simpa using hj7)]; exact hj
  have := h j x h8
  have hadd : (⟨b, 0, none⟩ : Addr).add j = ⟨b, 0 + j, none⟩ := by unfold Addr.add; split <;> simp_all
  rw [hadd, (hv _).1]; exact this
 ·intro j hj
  rw [(hv _).1]; have := (ht (1 + j) (by simp at hj; omega)).1; rwa [Nat.zero_add] at this
 ·intro j hj
  rw [(hv _).2]; have := (ht (1 + j) (by simp at hj; omega)).2; rwa [Nat.zero_add] at this
 ·intro x hx; simp at hx; rcases hx with rfl | rfl | rfl | rfl | rfl | rfl | rfl <;> rfl
theorem copied {w v : World} {b : Nat} {s S : Q8} (e : s = S) (h : w.rangeAt b 0 S.cells) (ht : w.there b 0 8) (hv : ∀ q : Addr, v.cell? q = w.cell? q ∧ v.frozen? q = w.frozen? q) :
  (v.setCells b 1 [.int .u32 s.a, .int .u32 s.b, .int .u32 s.c, .int .u32 s.d, .int .u32 s.e, .int .u32 s.f, .int .u32 s.g]).rangeAt b 0 [.int .u32 s.a, .int .u32 s.a, .int .u32 s.b, .int .u32 s.c, .int .u32 s.d, .int .u32 s.e, .int .u32 s.f, .int .u32 s.g] ∧ (v.setCells b 1 [.int .u32 s.a, .int .u32 s.b, .int .u32 s.c, .int .u32 s.d, .int .u32 s.e, .int .u32 s.f, .int .u32 s.g]).there b 0 8 := by
 subst e
 have hvt : v.there b 0 8 := fun j hj => by obtain ⟨h1, h2⟩ := ht j hj; exact ⟨by rw [(hv _).1]; exact h1, by rw [(hv _).2]; exact h2⟩
 have hv1 : v.there b 1 7 := fun j hj => by have := hvt (1 + j) (by omega); rwa [Nat.zero_add] at this
 have hr := World.rangeAt_setCells_same v b 1 [.int .u32 s.a, .int .u32 s.b, .int .u32 s.c, .int .u32 s.d, .int .u32 s.e, .int .u32 s.f, .int .u32 s.g] hv1
 refine ⟨fun j x hj => ?_, World.there_setCells hvt b 1 _⟩
 rw [Nat.zero_add]
 match j, hj with
 | 0, hj =>
  rw [World.cell?_setCells_out _ _ _ _ _ (fun _ _ => .inl Nat.zero_lt_one), (hv _).1]
  have := h 0 (.int .u32 s.a) rfl
  rw [Nat.zero_add] at this; rw [this]; exact hj
 | j + 1, hj =>
  have := hr j x (by simpa using hj)
  rwa [Nat.add_comm] at this
structure MidM (h : Q8) (ws : List Value) (w2 : World) (f : Array Bool) (w : World) (b6 b7 b8 : Nat) : Prop where
 bel : Below w2.heap.size w2 w
 v6 : On f 4 → Vr w2 w 64 b6
 v7 : On f 5 → Vr w2 w 64 b7
 v8 : On f 6 → Vr w2 w 8 b8
 n67 : On f 4 → On f 5 → b6 ≠ b7
 n68 : On f 4 → On f 6 → b6 ≠ b8
 n78 : On f 5 → On f 6 → b7 ≠ b8
 r6 : On f 7 → w.rangeAt b6 0 kV
 r7 : On f 8 → w.rangeAt b7 0 ws
 r8 : On f 9 → w.rangeAt b8 0 h.cells
 c7 : On f 7 → On f 4 ∧ On f 5 ∧ On f 6
 c8 : On f 8 → On f 7
 c9 : On f 9 → On f 8
variable {h : Q8} {ws : List Value} {w2 w w' : World} {f : Array Bool} {b6 b7 b8 : Nat}
theorem MidM.below (m : MidM h ws w2 f w b6 b7 b8) (hb : Below w.heap.size w w') : MidM h ws w2 f w' b6 b7 b8 where
 bel := m.bel.trans (hb.mono m.bel.size)
 v6 x := (m.v6 x).below hb
 v7 x := (m.v7 x).below hb
 v8 x := (m.v8 x).below hb
 n67 := m.n67
 n68 := m.n68
 n78 := m.n78
 r6 x := rangeAt_below (m.r6 x) hb (m.v6 (m.c7 x).1).hi
 r7 x := rangeAt_below (m.r7 x) hb (m.v7 (m.c7 (m.c8 x)).2.1).hi
 r8 x := rangeAt_below (m.r8 x) hb (m.v8 (m.c7 (m.c8 (m.c9 x))).2.2).hi
 c7 := m.c7
 c8 := m.c8
 c9 := m.c9
theorem MidM.put (m : MidM h ws w2 f w b6 b7 b8) (i : Nat) (hs : f.size = 10) (hi : i < 4) : MidM h ws w2 (f.setIfInBounds i true) w b6 b7 b8 := by
 have k : ∀ j, 4 ≤ j → On (f.setIfInBounds i true) j → On f j := fun j hj x => on_back (by omega) x (by omega)
 have k' : ∀ j, On f j → On (f.setIfInBounds i true) j := fun j x => (on_put (by omega)).2 (.inr x)
 exact ⟨m.bel, fun x => m.v6 (k _ (by omega) x), fun x => m.v7 (k _ (by omega) x), fun x => m.v8 (k _ (by omega) x), fun x y => m.n67 (k _ (by omega) x) (k _ (by omega) y), fun x y => m.n68 (k _ (by omega) x) (k _ (by omega) y), fun x y => m.n78 (k _ (by omega) x) (k _ (by omega) y),
  fun x => m.r6 (k _ (by omega) x), fun x => m.r7 (k _ (by omega) x), fun x => m.r8 (k _ (by omega) x), fun x => by obtain ⟨a, b, c⟩ := m.c7 (k _ (by omega) x); exact ⟨k' _ a, k' _ b, k' _ c⟩, fun x => k' _ (m.c8 (k _ (by omega) x)), fun x => k' _ (m.c9 (k _ (by omega) x))⟩
theorem MidM.mk6 (m : MidM h ws w2 f w b6 b7 b8) (hs : f.size = 10) (hn : ¬ On f 4) (cs : List Value) (t : TypeId) (hc : cs.length = 64) : MidM h ws w2 (f.setIfInBounds 4 true) (w.alloc (.cells cs.toArray t)) w.heap.size b7 b8 := by
 have mb := m.below (w' := w.alloc (.cells cs.toArray t)) ((Below.refl _ _).alloc (Nat.le_refl _) _)
 have k : ∀ j, j ≠ 4 → On (f.setIfInBounds 4 true) j → On f j := fun j hj x => on_back (by omega) x hj
 have h7 : ¬ On f 7 := fun x => hn (m.c7 x).1
 have h8 : ¬ On f 8 := fun x => h7 (m.c8 x)
 have h9 : ¬ On f 9 := fun x => h8 (m.c9 x)
 exact ⟨mb.bel, fun _ => hc ▸ Vr.new w2 w cs t m.bel.size, fun x => mb.v7 (k _ (by decide) x), fun x => mb.v8 (k _ (by decide) x), fun _ y e => absurd (m.v7 (k _ (by decide) y)).hi (by omega), fun _ y e => absurd (m.v8 (k _ (by decide) y)).hi (by omega), fun x y => mb.n78 (k _ (by decide) x) (k _ (by decide) y),
  fun x => absurd (k _ (by decide) x) h7, fun x => absurd (k _ (by decide) x) h8, fun x => absurd (k _ (by decide) x) h9, fun x => absurd (k _ (by decide) x) h7, fun x => absurd (k _ (by decide) x) h8, fun x => absurd (k _ (by decide) x) h9⟩
theorem MidM.mk7 (m : MidM h ws w2 f w b6 b7 b8) (hs : f.size = 10) (hn : ¬ On f 5) (cs : List Value) (t : TypeId) (hc : cs.length = 64) : MidM h ws w2 (f.setIfInBounds 5 true) (w.alloc (.cells cs.toArray t)) b6 w.heap.size b8 := by
 have mb := m.below (w' := w.alloc (.cells cs.toArray t)) ((Below.refl _ _).alloc (Nat.le_refl _) _)
 have k : ∀ j, j ≠ 5 → On (f.setIfInBounds 5 true) j → On f j := fun j hj x => on_back (by omega) x hj
 have h7 : ¬ On f 7 := fun x => hn (m.c7 x).2.1
 have h8 : ¬ On f 8 := fun x => h7 (m.c8 x)
 have h9 : ¬ On f 9 := fun x => h8 (m.c9 x)
 exact ⟨mb.bel, fun x => mb.v6 (k _ (by decide) x), fun _ => hc ▸ Vr.new w2 w cs t m.bel.size, fun x => mb.v8 (k _ (by decide) x), fun x _ e => absurd (m.v6 (k _ (by decide) x)).hi (by omega), fun x y => mb.n68 (k _ (by decide) x) (k _ (by decide) y), fun _ y e => absurd (m.v8 (k _ (by decide) y)).hi (by omega),
  fun x => absurd (k _ (by decide) x) h7, fun x => absurd (k _ (by decide) x) h8, fun x => absurd (k _ (by decide) x) h9, fun x => absurd (k _ (by decide) x) h7, fun x => absurd (k _ (by decide) x) h8, fun x => absurd (k _ (by decide) x) h9⟩
theorem MidM.mk8 (m : MidM h ws w2 f w b6 b7 b8) (hs : f.size = 10) (hn : ¬ On f 6) (cs : List Value) (t : TypeId) (hc : cs.length = 8) : MidM h ws w2 (f.setIfInBounds 6 true) (w.alloc (.cells cs.toArray t)) b6 b7 w.heap.size := by
 have mb := m.below (w' := w.alloc (.cells cs.toArray t)) ((Below.refl _ _).alloc (Nat.le_refl _) _)
 have k : ∀ j, j ≠ 6 → On (f.setIfInBounds 6 true) j → On f j := fun j hj x => on_back (by omega) x hj
 have h7 : ¬ On f 7 := fun x => hn (m.c7 x).2.2
 have h8 : ¬ On f 8 := fun x => h7 (m.c8 x)
 have h9 : ¬ On f 9 := fun x => h8 (m.c9 x)
 exact ⟨mb.bel, fun x => mb.v6 (k _ (by decide) x), fun x => mb.v7 (k _ (by decide) x), fun _ => hc ▸ Vr.new w2 w cs t m.bel.size, fun x y => mb.n67 (k _ (by decide) x) (k _ (by decide) y), fun x _ e => absurd (m.v6 (k _ (by decide) x)).hi (by omega), fun x _ e => absurd (m.v7 (k _ (by decide) x)).hi (by omega),
  fun x => absurd (k _ (by decide) x) h7, fun x => absurd (k _ (by decide) x) h8, fun x => absurd (k _ (by decide) x) h9, fun x => absurd (k _ (by decide) x) h7, fun x => absurd (k _ (by decide) x) h8, fun x => absurd (k _ (by decide) x) h9⟩
theorem MidM.st6 (m : MidM h ws w2 f w b6 b7 b8) (hs : f.size = 10) (h4 : On f 4) (h5 : On f 5) (h6 : On f 6) (hn8 : ¬ On f 8) : MidM h ws w2 (f.setIfInBounds 7 true) (w.setCells b6 0 kV) b6 b7 b8 := by
 have k : ∀ j, j ≠ 7 → On (f.setIfInBounds 7 true) j → On f j := fun j hj x => on_back (by omega) x hj
 have k' : ∀ j, On f j → On (f.setIfInBounds 7 true) j := fun j x => (on_put (by omega)).2 (.inr x)
 have h9 : ¬ On f 9 := fun x => hn8 (m.c9 x)
 exact ⟨below_cells (m.v6 h4).lo _ _ _ _ m.bel, fun _ => (m.v6 h4).set _ _, fun _ => (m.v7 h5).set _ _, fun _ => (m.v8 h6).set _ _, fun _ _ => m.n67 h4 h5, fun _ _ => m.n68 h4 h6, fun _ _ => m.n78 h5 h6,
  fun _ => set_same (by rw [kV_length]; exact (m.v6 h4).th), fun x => absurd (k _ (by decide) x) hn8, fun x => absurd (k _ (by decide) x) h9, fun _ => ⟨k' _ h4, k' _ h5, k' _ h6⟩, fun x => absurd (k _ (by decide) x) hn8, fun x => absurd (k _ (by decide) x) h9⟩
theorem MidM.st7 (m : MidM h ws w2 f w b6 b7 b8) (hws : ws.length = 64) (hs : f.size = 10) (h7 : On f 7) (hn9 : ¬ On f 9) : MidM h ws w2 (f.setIfInBounds 8 true) (w.setCells b7 0 ws) b6 b7 b8 := by
 have k : ∀ j, j ≠ 8 → On (f.setIfInBounds 8 true) j → On f j := fun j hj x => on_back (by omega) x hj
 have k' : ∀ j, On f j → On (f.setIfInBounds 8 true) j := fun j x => (on_put (by omega)).2 (.inr x)
 obtain ⟨h4, h5, h6⟩ := m.c7 h7
 exact ⟨below_cells (m.v7 h5).lo _ _ _ _ m.bel, fun _ => (m.v6 h4).set _ _, fun _ => (m.v7 h5).set _ _, fun _ => (m.v8 h6).set _ _, fun _ _ => m.n67 h4 h5, fun _ _ => m.n68 h4 h6, fun _ _ => m.n78 h5 h6,
  fun _ => set_apart (m.r6 h7) (m.n67 h4 h5), fun _ => set_same (by rw [hws]; exact (m.v7 h5).th), fun x => absurd (k _ (by decide) x) hn9, fun _ => ⟨k' _ h4, k' _ h5, k' _ h6⟩, fun _ => k' _ h7, fun x => absurd (k _ (by decide) x) hn9⟩
theorem MidM.st8 (m : MidM h ws w2 f w b6 b7 b8) (hs : f.size = 10) (h8 : On f 8) : MidM h ws w2 (f.setIfInBounds 9 true) (w.setCells b8 0 h.cells) b6 b7 b8 := by
 have k' : ∀ j, On f j → On (f.setIfInBounds 9 true) j := fun j x => (on_put (by omega)).2 (.inr x)
 have h7 := m.c8 h8
 obtain ⟨h4, h5, h6⟩ := m.c7 h7
 exact ⟨below_cells (m.v8 h6).lo _ _ _ _ m.bel, fun _ => (m.v6 h4).set _ _, fun _ => (m.v7 h5).set _ _, fun _ => (m.v8 h6).set _ _, fun _ _ => m.n67 h4 h5, fun _ _ => m.n68 h4 h6, fun _ _ => m.n78 h5 h6,
  fun _ => set_apart (m.r6 h7) (m.n68 h4 h6), fun _ => set_apart (m.r7 h8) (m.n78 h5 h6), fun _ => set_same (m.v8 h6).th, fun _ => ⟨k' _ h4, k' _ h5, k' _ h6⟩, fun _ => k' _ h7, fun _ => k' _ h8⟩
def Mid (h : Q8) (ws : List Value) (a : Option Addr) (c H : Nat) (w2 : World) (f : Array Bool) (act : Act) (w : World) : Prop :=
 ∃ v17 v18 v19 v20 v6 v7 v8 b6 b7 b8, act = ⟨#[Value.agg #[.int .u32 h.a, .int .u32 h.b, .int .u32 h.c, .int .u32 h.d, .int .u32 h.e, .int .u32 h.f, .int .u32 h.g, .int .u32 h.h], .slice a 64 c, .pointer (some ⟨H, 0, none⟩), undef, .pointer (some ⟨H + 1, 0, none⟩), .bool false, v6, v7, v8, undef, undef, undef, undef, .slice a 64 c, .int .i64 64, .bool false, undef, v17, v18, v19, v20, undef, undef, undef, undef, undef, undef, undef, undef, undef, undef, undef, undef, undef, undef, undef, undef, undef, undef, undef, undef, undef, undef, undef, undef, undef, undef, undef, undef, undef, undef, undef, undef, undef, undef, undef, undef, undef, undef, undef, undef, undef, undef, undef, undef, undef, undef, undef, undef, undef, undef, undef, undef, undef, undef, undef, undef, undef, undef, undef, undef, undef, undef], []⟩ ∧
  (On f 0 → v17 = .agg kV.toArray) ∧ (On f 1 → v18 = .slice a 64 c) ∧ (On f 2 → v19 = .agg ws.toArray) ∧ (On f 3 → v20 = .agg h.cells.toArray) ∧
  (On f 4 → v6 = .pointer (some ⟨b6, 0, none⟩)) ∧ (On f 5 → v7 = .pointer (some ⟨b7, 0, none⟩)) ∧ (On f 6 → v8 = .pointer (some ⟨b8, 0, none⟩)) ∧ MidM h ws w2 f w b6 b7 b8
def Q8.get (s : Q8) : Nat → Int
 | 0 => s.a | 1 => s.b | 2 => s.c | 3 => s.d | 4 => s.e | 5 => s.f | 6 => s.g | _ => s.h
def mix (h s : Q8) (j : Nat) : List Value := (h.add s).cells.take j ++ h.cells.drop j
theorem mix_length (h s : Q8) (j : Nat) : (mix h s j).length = 8 := by
 have e1 : (h.add s).cells.length = 8 := rfl
 have e2 : h.cells.length = 8 := rfl
 simp only [mix, List.length_append, List.length_take, List.length_drop, e1, e2]; omega
theorem lt8 {j : Nat} (h : j < 8) : j = 0 ∨ j = 1 ∨ j = 2 ∨ j = 3 ∨ j = 4 ∨ j = 5 ∨ j = 6 ∨ j = 7 := by omega
theorem mix_succ (h s : Q8) (j : Nat) (hj : j < 8) : mix h s (j + 1) = (mix h s j).set j (.int .u32 (addW (h.get j) (s.get j))) := by
 rcases lt8 hj with rfl | rfl | rfl | rfl | rfl | rfl | rfl | rfl <;> rfl
theorem mix_get (h s : Q8) (j : Nat) (hj : j < 8) : (mix h s j)[j]? = some (.int .u32 (h.get j)) := by
 rcases lt8 hj with rfl | rfl | rfl | rfl | rfl | rfl | rfl | rfl <;> rfl
theorem q8_get (s : Q8) (j : Nat) (hj : j < 8) : s.cells[j]? = some (.int .u32 (s.get j)) := by
 rcases lt8 hj with rfl | rfl | rfl | rfl | rfl | rfl | rfl | rfl <;> rfl
theorem mix_cell {w : World} {b j : Nat} {h s : Q8} (hr : w.rangeAt b 0 (mix h s j)) (hj : j < 8) : w.cell? ⟨b, j, none⟩ = some (.int .u32 (h.get j)) := by
 have := hr j _ (mix_get h s j hj); rwa [Nat.zero_add] at this
theorem q8_cell {w : World} {b j : Nat} {s : Q8} (hr : w.rangeAt b 0 s.cells) (hj : j < 8) : w.cell? ⟨b, j, none⟩ = some (.int .u32 (s.get j)) := by
 have := hr j _ (q8_get s j hj); rwa [Nat.zero_add] at this
theorem range_other {w : World} {b b' k : Nat} {cs : List Value} {v : Value} (h : w.rangeAt b 0 cs) (hne : b' ≠ b) : (w.setCell ⟨b', k, none⟩ v).rangeAt b 0 cs := fun j x hj => by
 rw [World.cell?_setCell_other _ _ _ _ (by intro e; cases e; exact hne rfl)]; exact h j x hj
set_option maxRecDepth 100000 in
set_option maxHeartbeats 4000000 in
theorem block_any (a : Option Addr) (c : Nat) (l : List UInt8) (h : Q8) (w : World) (ho : h.Ok) (hr : Rd w a 64 c l) : Calls Tryz.prog 74 #[h.val, .slice a 64 c] w fun e w' => e = .returned (.tuple #[(blockQ h l).val, .bool true]) ∧ Below w.heap.size w w' := by
 unfold Q8.val
 go_enter Tryz.func74, Tryz.ntmps74
 go_upto_region 3 with fail
 obtain ⟨w2, hw2⟩ : ∃ w2, w2 = (w.alloc (.cells #[.int .u32 h.a, .int .u32 h.b, .int .u32 h.c, .int .u32 h.d, .int .u32 h.e, .int .u32 h.f, .int .u32 h.g, .int .u32 h.h] 101)).alloc (.cells #[.int .u32 0, .int .u32 0, .int .u32 0, .int .u32 0, .int .u32 0, .int .u32 0, .int .u32 0, .int .u32 0] 101) := ⟨_, rfl⟩
 rw [← hw2]
 have hHlt : w.heap.size < w2.heap.size := by rw [hw2]; simp; omega
 have hBw : Below w.heap.size w w2 := by rw [hw2]; exact ((Below.refl _ _).alloc (Nat.le_refl _) _).alloc (by simp) _
 have hr2 : Rd w2 a 64 c l := hr.below hBw
 have hH : w2.rangeAt w.heap.size 0 h.cells := by
  rw [hw2]; exact World.rangeAt_alloc (fun j v hj => new_cell (cs := h.cells.toArray) (by rw [Nat.zero_add]; simpa using hj)) _
 have HH := Lib.hid (show w2.there w.heap.size 0 8 ∧ w2.there (w.heap.size + 1) 0 8 ∧ w.heap.size + 1 < w2.heap.size by
  rw [hw2]
  refine ⟨there_below (there_new w h.cells 101) ((Below.refl _ _).alloc (Nat.le_refl _) _) (by simp [Q8.cells]), ?_, by simp⟩
  have := there_new (w.alloc (.cells h.cells.toArray 101)) zeros8 101
  rw [show (w.alloc (.cells h.cells.toArray 101)).heap.size = w.heap.size + 1 by simp] at this
  exact this)
 obtain ⟨W, hW⟩ : ∃ W, W = wsV l 64 := ⟨_, rfl⟩
 have hWl : W.length = 64 := by rw [hW]; exact wsV_length l 64 (Nat.le_refl _)
 have hW1 : ∀ v ∈ W, v.oneCell' = true := by rw [hW]; exact wsV_one l 64
 have CS := Lib.hid (fun w' (h : Rd w' a 64 c l) => spread_any a c l w' h)
 rw [← hW] at CS
 refine region_inv (by kernel_rfl) (by kernel_rfl) (Mid h W a c w.heap.size w2) ?_ ?_ ?_
 ·have hoff : ∀ j, ¬ On (Array.replicate 10 false) j := by
   intro j hj; simp only [On, Array.getD_eq_getD_getElem?, Array.getElem?_replicate] at hj; split at hj <;> simp at hj
  exact ⟨undef, undef, undef, undef, undef, undef, undef, 0, 0, 0, rfl, fun x => absurd x (hoff _), fun x => absurd x (hoff _), fun x => absurd x (hoff _), fun x => absurd x (hoff _), fun x => absurd x (hoff _), fun x => absurd x (hoff _), fun x => absurd x (hoff _),
   ⟨(Below.refl _ _).drew, fun x => absurd x (hoff _), fun x => absurd x (hoff _), fun x => absurd x (hoff _), fun x => absurd x (hoff _), fun x => absurd x (hoff _), fun x => absurd x (hoff _), fun x => absurd x (hoff _), fun x => absurd x (hoff _), fun x => absurd x (hoff _), fun x => absurd x (hoff _), fun x => absurd x (hoff _), fun x => absurd x (hoff _)⟩⟩
 ·rintro i o f act wm hio hs hn he hI K hK
  have hi : i < 10 := (Array.getElem?_eq_some_iff.1 hio).1
  replace hs : f.size = 10 := hs
  obtain ⟨v17, v18, v19, v20, v6, v7, v8, b6, b7, b8, rfl, p0, p1, p2, p3, p4, p5, p6, hM⟩ := hI
  match i, hi with
  | 0, _ =>
   cases hio
   have k : ∀ j, j ≠ 0 → On (f.setIfInBounds 0 true) j → On f j := fun j hj x => on_back (by omega) x hj
   go_simp
   refine (constants_any _).mono ?_
   rintro e w3 ⟨rfl, hb⟩
   exact hK _ _ ⟨_, _, _, _, _, _, _, b6, b7, b8, rfl, fun _ => rfl, fun x => p1 (k _ (by decide) x), fun x => p2 (k _ (by decide) x), fun x => p3 (k _ (by decide) x), fun x => p4 (k _ (by decide) x), fun x => p5 (k _ (by decide) x), fun x => p6 (k _ (by decide) x), (hM.put 0 hs (by decide)).below hb⟩
  | 1, _ =>
   cases hio
   have k : ∀ j, j ≠ 1 → On (f.setIfInBounds 1 true) j → On f j := fun j hj x => on_back (by omega) x hj
   go_simp
   exact hK _ _ ⟨_, _, _, _, _, _, _, b6, b7, b8, rfl, fun x => p0 (k _ (by decide) x), fun _ => rfl, fun x => p2 (k _ (by decide) x), fun x => p3 (k _ (by decide) x), fun x => p4 (k _ (by decide) x), fun x => p5 (k _ (by decide) x), fun x => p6 (k _ (by decide) x), hM.put 1 hs (by decide)⟩
  | 2, _ =>
   cases hio
   have k : ∀ j, j ≠ 2 → On (f.setIfInBounds 2 true) j → On f j := fun j hj x => on_back (by omega) x hj
   have h1 : On f 1 := he ⟨1, .data⟩ (by simp) rfl
   obtain rfl := p1 h1
   go_simp
   refine (CS.out _ (hr2.below hM.bel)).mono ?_
   rintro e w3 ⟨rfl, hb⟩
   exact hK _ _ ⟨_, _, _, _, _, _, _, b6, b7, b8, rfl, fun x => p0 (k _ (by decide) x), fun _ => rfl, fun _ => rfl, fun x => p3 (k _ (by decide) x), fun x => p4 (k _ (by decide) x), fun x => p5 (k _ (by decide) x), fun x => p6 (k _ (by decide) x), (hM.put 2 hs (by decide)).below hb⟩
  | 3, _ =>
   cases hio
   have k : ∀ j, j ≠ 3 → On (f.setIfInBounds 3 true) j → On f j := fun j hj x => on_back (by omega) x hj
   have hc := rangeAt_below hH hM.bel hHlt
   refine wanted_load (by rfl) 20 rfl 101 (.tmp 2) rfl w.heap.size rfl h.cells _ hc under_w8 rfl info_w8 ?_
   simp only [List.setIfInBounds_toArray, List.set_cons_zero, List.set_cons_succ]
   exact hK _ _ ⟨_, _, _, _, _, _, _, b6, b7, b8, rfl, fun x => p0 (k _ (by decide) x), fun x => p1 (k _ (by decide) x), fun x => p2 (k _ (by decide) x), fun _ => rfl, fun x => p4 (k _ (by decide) x), fun x => p5 (k _ (by decide) x), fun x => p6 (k _ (by decide) x), hM.put 3 hs (by decide)⟩
  | 4, _ =>
   cases hio
   have k : ∀ j, j ≠ 4 → On (f.setIfInBounds 4 true) j → On f j := fun j hj x => on_back (by omega) x hj
   refine wanted_run (by rfl) 6 rfl (.pointer (some ⟨wm.heap.size, 0, none⟩)) (wm.alloc (.cells zeros64.toArray 119)) (by kernel_rfl) ?_
   simp only [List.setIfInBounds_toArray, List.set_cons_zero, List.set_cons_succ]
   exact hK _ _ ⟨_, _, _, _, _, _, _, wm.heap.size, b7, b8, rfl, fun x => p0 (k _ (by decide) x), fun x => p1 (k _ (by decide) x), fun x => p2 (k _ (by decide) x), fun x => p3 (k _ (by decide) x), fun _ => rfl, fun x => p5 (k _ (by decide) x), fun x => p6 (k _ (by decide) x), hM.mk6 hs (on_off (by omega) hn) zeros64 _ rfl⟩
  | 5, _ =>
   cases hio
   have k : ∀ j, j ≠ 5 → On (f.setIfInBounds 5 true) j → On f j := fun j hj x => on_back (by omega) x hj
   refine wanted_run (by rfl) 7 rfl (.pointer (some ⟨wm.heap.size, 0, none⟩)) (wm.alloc (.cells zeros64.toArray 119)) (by kernel_rfl) ?_
   simp only [List.setIfInBounds_toArray, List.set_cons_zero, List.set_cons_succ]
   exact hK _ _ ⟨_, _, _, _, _, _, _, b6, wm.heap.size, b8, rfl, fun x => p0 (k _ (by decide) x), fun x => p1 (k _ (by decide) x), fun x => p2 (k _ (by decide) x), fun x => p3 (k _ (by decide) x), fun x => p4 (k _ (by decide) x), fun _ => rfl, fun x => p6 (k _ (by decide) x), hM.mk7 hs (on_off (by omega) hn) zeros64 _ rfl⟩
  | 6, _ =>
   cases hio
   have k : ∀ j, j ≠ 6 → On (f.setIfInBounds 6 true) j → On f j := fun j hj x => on_back (by omega) x hj
   refine wanted_run (by rfl) 8 rfl (.pointer (some ⟨wm.heap.size, 0, none⟩)) (wm.alloc (.cells zeros8.toArray 101)) (by kernel_rfl) ?_
   simp only [List.setIfInBounds_toArray, List.set_cons_zero, List.set_cons_succ]
   exact hK _ _ ⟨_, _, _, _, _, _, _, b6, b7, wm.heap.size, rfl, fun x => p0 (k _ (by decide) x), fun x => p1 (k _ (by decide) x), fun x => p2 (k _ (by decide) x), fun x => p3 (k _ (by decide) x), fun x => p4 (k _ (by decide) x), fun x => p5 (k _ (by decide) x), fun _ => rfl, hM.mk8 hs (on_off (by omega) hn) zeros8 _ rfl⟩
  | 7, _ =>
   cases hio
   have k : ∀ j, j ≠ 7 → On (f.setIfInBounds 7 true) j → On f j := fun j hj x => on_back (by omega) x hj
   have h4 : On f 4 := he ⟨4, .data⟩ (by simp) rfl
   have h0 : On f 0 := he ⟨0, .data⟩ (by simp) rfl
   have h5 : On f 5 := he ⟨5, .phase⟩ (by simp) rfl
   have h6 : On f 6 := he ⟨6, .phase⟩ (by simp) rfl
   obtain rfl := p0 h0
   obtain rfl := p4 h4
   have hn8 : ¬ On f 8 := fun x => on_off (by omega) hn (hM.c8 x)
   refine wanted_store (by rfl) rfl 119 (.tmp 6) (.tmp 17) rfl b6 kV rfl rfl (by rw [kV_length]; exact (hM.v6 h4).th) (by rw [kV_length]; exact info_w64) kV_one ?_
   exact hK _ _ ⟨_, _, _, _, _, _, _, b6, b7, b8, rfl, fun _ => rfl, fun x => p1 (k _ (by decide) x), fun x => p2 (k _ (by decide) x), fun x => p3 (k _ (by decide) x), fun _ => rfl, fun x => p5 (k _ (by decide) x), fun x => p6 (k _ (by decide) x), hM.st6 hs h4 h5 h6 hn8⟩
  | 8, _ =>
   cases hio
   have k : ∀ j, j ≠ 8 → On (f.setIfInBounds 8 true) j → On f j := fun j hj x => on_back (by omega) x hj
   have h7 : On f 7 := he ⟨7, .chain⟩ (by simp) rfl
   have h2 : On f 2 := he ⟨2, .data⟩ (by simp) rfl
   have h5 : On f 5 := he ⟨5, .data⟩ (by simp) rfl
   obtain rfl := p2 h2
   obtain rfl := p5 h5
   have hn9 : ¬ On f 9 := fun x => on_off (by omega) hn (hM.c9 x)
   refine wanted_store (by rfl) rfl 119 (.tmp 7) (.tmp 19) rfl b7 W rfl rfl (by rw [hWl]; exact (hM.v7 h5).th) (by rw [hWl]; exact info_w64) hW1 ?_
   exact hK _ _ ⟨_, _, _, _, _, _, _, b6, b7, b8, rfl, fun x => p0 (k _ (by decide) x), fun x => p1 (k _ (by decide) x), fun _ => rfl, fun x => p3 (k _ (by decide) x), fun x => p4 (k _ (by decide) x), fun _ => rfl, fun x => p6 (k _ (by decide) x), hM.st7 hWl hs h7 hn9⟩
  | 9, _ =>
   cases hio
   have k : ∀ j, j ≠ 9 → On (f.setIfInBounds 9 true) j → On f j := fun j hj x => on_back (by omega) x hj
   have h8 : On f 8 := he ⟨8, .chain⟩ (by simp) rfl
   have h3 : On f 3 := he ⟨3, .data⟩ (by simp) rfl
   have h6 : On f 6 := he ⟨6, .data⟩ (by simp) rfl
   obtain rfl := p3 h3
   obtain rfl := p6 h6
   refine wanted_store (by rfl) rfl 101 (.tmp 8) (.tmp 20) rfl b8 h.cells rfl rfl (hM.v8 h6).th info_w8 (cells_one h) ?_
   exact hK _ _ ⟨_, _, _, _, _, _, _, b6, b7, b8, rfl, fun x => p0 (k _ (by decide) x), fun x => p1 (k _ (by decide) x), fun x => p2 (k _ (by decide) x), fun _ => rfl, fun x => p4 (k _ (by decide) x), fun x => p5 (k _ (by decide) x), fun _ => rfl, hM.st8 hs h8⟩
 ·rintro f act w3 hall hs ⟨v17, v18, v19, v20, v6, v7, v8, b6, b7, b8, rfl, p0, p1, p2, p3, p4, p5, p6, hM⟩
  replace hs : f.size = 10 := hs
  have on : ∀ j, j < 10 → On f j := fun j hj => on_all hall hs j hj
  obtain rfl := p0 (on 0 (by decide))
  obtain rfl := p1 (on 1 (by decide))
  obtain rfl := p2 (on 2 (by decide))
  obtain rfl := p3 (on 3 (by decide))
  obtain rfl := p4 (on 4 (by decide))
  obtain rfl := p5 (on 5 (by decide))
  obtain rfl := p6 (on 6 (by decide))
  have R6 := Lib.hid (hM.r6 (on 7 (by decide)))
  have R7 := Lib.hid (hM.r7 (on 8 (by decide)))
  have R8 := Lib.hid (hM.r8 (on 9 (by decide)))
  have T8 := Lib.hid (hM.v8 (on 6 (by decide)))
  have T6 := Lib.hid (hM.v6 (on 4 (by decide)))
  have T7 := Lib.hid (hM.v7 (on 5 (by decide)))
  have NE := Lib.hid (show b6 ≠ b7 ∧ b6 ≠ b8 ∧ b7 ≠ b8 from ⟨hM.n67 (on 4 (by decide)) (on 5 (by decide)), hM.n68 (on 4 (by decide)) (on 6 (by decide)), hM.n78 (on 5 (by decide)) (on 6 (by decide))⟩)
  have HB3 := Lib.hid hM.bel
  clear p0 p1 p2 p3 p4 p5 p6 hM on hall hs CS hr2 hr
  go_wp2_with fail
  have HK := Lib.hid (fun i (hi : i < 64) => cell_of (L := kL) R6.out i (by have := kV_length; rw [kV, List.length_map] at this; omega))
  have HW := Lib.hid (fun i (hi : i < 64) => cell_of (L := wordsTo l 64) (by have := R7.out; rw [hW, wsV_full] at this; exact this) i (by rw [wordsTo_length]; exact hi))
  clear R6 R7
  go_loopw [9, 10, 11, 21] (fun iv ov tv kv wr => ∃ i : Nat, i ≤ 64 ∧ kv = .int .i64 (i : Int) ∧ Hid (wr.rangeAt b8 0 (roundsTo (wordsTo l 64) h i).cells) ∧ Hid (wr.there b8 0 8) ∧ Hid (∀ p : Addr, p.block ≠ b8 → p.block < w3.heap.size → wr.cell? p = w3.cell? p ∧ wr.frozen? p = w3.frozen? p) ∧ Hid (w3.heap.size ≤ wr.heap.size) ∧ Hid (Below w2.heap.size w2 wr))
   (fun _ _ _ kv _ => 64 - (intOf kv).toNat)
  case atStart => exact ⟨0, by omega, rfl, R8.out, T8.out.th, fun _ _ _ => ⟨rfl, rfl⟩, Nat.le_refl _, HB3.out⟩
  case round =>
   obtain ⟨i, hi, rfl, hR, hT, hA, hS, hB⟩ := hrel
   by_cases hlt : i < 64
   ·have hlt' : (i : Int) < 64 := by omega
    have hi0 : (0 : Int) ≤ (i : Int) := by omega
    obtain ⟨c0, c1, c2, c3, c4, c5, c6, c7⟩ := cells_of hR.out
    have hok := roundsTo_ok (wordsTo l 64) h ho i
    have ck := HK.out i hlt
    have cw := HW.out i hlt
    rw [← (hA.out ⟨b6, i, none⟩ NE.out.2.1 T6.out.hi).1] at ck
    rw [← (hA.out ⟨b7, i, none⟩ NE.out.2.2 T7.out.hi).1] at cw
    obtain ⟨s, hs⟩ : ∃ s, s = roundsTo (wordsTo l 64) h i := ⟨_, rfl⟩
    rw [← hs] at c0 c1 c2 c3 c4 c5 c6 c7 hok
    have HS := Lib.hid hs
    clear hs
    obtain ⟨o0, o1, o2, o3, o4, o5, o6, o7⟩ := hok
    obtain ⟨ki, hki⟩ : ∃ x, x = kL.getD i 0 := ⟨_, rfl⟩
    obtain ⟨wi, hwi⟩ : ∃ x, x = (wordsTo l 64).getD i 0 := ⟨_, rfl⟩
    rw [← hki] at ck
    rw [← hwi] at cw
    have HKW := Lib.hid (show roundsTo (wordsTo l 64) h (i + 1) = rnd ki wi s by rw [hki, hwi, HS.out]; rfl)
    clear hki hwi
    go_wp2_with fail
    go_quiet (first
     | (go_at_call 92; refine Calls.quiet_of_same (great_q _ _ _ _ _ ?_); exact o4)
     | (go_at_call 93; exact Calls.quiet_of_same (pick_q _ _ _ _)))
    go_wp2_with fail
    obtain ⟨wq, hwq⟩ : ∃ wq, wq = wr.drewN nq := ⟨_, rfl⟩
    rw [← hwq]
    have c0 : wq.cell? ⟨b8, 0, none⟩ = some (.int .u32 s.a) := by rw [hwq]; exact c0
    have c1 : wq.cell? ⟨b8, 1, none⟩ = some (.int .u32 s.b) := by rw [hwq]; exact c1
    have c2 : wq.cell? ⟨b8, 2, none⟩ = some (.int .u32 s.c) := by rw [hwq]; exact c2
    have HQ := Lib.hid hwq
    clear hwq
    go_quiet (first
     | (go_at_call 92; refine Calls.quiet_of_same (great_q _ _ _ _ _ ?_); exact o0)
     | (go_at_call 94; exact Calls.quiet_of_same (most_q _ _ _ _)))
    go_wp2_with fail
    obtain ⟨wp, hwp⟩ : ∃ wp, wp = wq.drewN nq := ⟨_, rfl⟩
    rw [← hwp]
    have HWW := Lib.hid hW
    clear hW
    have HP : Hid (∀ q : Addr, wp.cell? q = wr.cell? q ∧ wp.frozen? q = wr.frozen? q) := Lib.hid (by intro q; rw [hwp, HQ.out]; exact ⟨rfl, rfl⟩)
    have HPB : Hid (Below w2.heap.size w2 wp ∧ w3.heap.size ≤ wp.heap.size) := Lib.hid (by rw [hwp, HQ.out]; exact ⟨below_drewN (below_drewN hB.out _) _, hS.out⟩)
    clear hwp
    have HCOPY : Hid (∀ v : World, (∀ q : Addr, v.cell? q = wr.cell? q ∧ v.frozen? q = wr.frozen? q) → (Builtin.copy_ #[124, 124] 3 #[.slice (some ⟨b8, 1, none⟩) 7 7, .slice (some ⟨b8, 0, none⟩) 7 8]).run Tryz.prog v = .ok (goInt 7) (v.setCells b8 1 [.int .u32 s.a, .int .u32 s.b, .int .u32 s.c, .int .u32 s.d, .int .u32 s.e, .int .u32 s.f, .int .u32 s.g])) := Lib.hid fun v hv => copy_up HS.out hR.out hT.out hv
    clear c0 c1 c2 c3 c4 c5 c6 c7
    generalize hone : (((s.h + greatP s.e 6 11 25 + pick s.e s.f s.g + ki) % 4294967296 + wi) % 4294967296) = one
    generalize htwo : (greatP s.a 2 13 22 + most s.a s.b s.c) % 4294967296 = two
    have HSUM := Lib.hid (show one = oneP ki wi s ∧ two = twoP s from ⟨hone.symm.trans (one_is ki wi s), htwo.symm.trans (two_is s)⟩)
    clear hone htwo
    go_region_law ((refine step_copy rfl (.tmp 57) (.tmp 58) 124 124 rfl _ _ (by go_simp) (by go_simp) (HCOPY.out _ (by intro q; exact HP.out q)) ?_))
    obtain ⟨wc, hwc⟩ : ∃ wc, wc = wp.drew.setCells b8 1 [.int .u32 s.a, .int .u32 s.b, .int .u32 s.c, .int .u32 s.d, .int .u32 s.e, .int .u32 s.f, .int .u32 s.g] := ⟨_, rfl⟩
    rw [← hwc]
    obtain ⟨hRc, hTc⟩ := copied (v := wp.drew) HS.out hR.out hT.out (fun q => HP.out q)
    rw [← hwc] at hRc hTc
    have HWC : Hid ((∀ p : Addr, p.block ≠ b8 → wc.cell? p = wr.cell? p ∧ wc.frozen? p = wr.frozen? p) ∧ w3.heap.size ≤ wc.heap.size ∧ Below w2.heap.size w2 wc) := by
     refine Lib.hid ⟨fun p hp => ?_, ?_, ?_⟩
     ·rw [hwc, World.cell?_setCells_out _ _ _ _ _ (fun h _ => absurd h hp), World.frozen?_setCells]; exact HP.out p
     ·rw [hwc, size_setCells]; exact HPB.out.2
     ·rw [hwc]; exact below_cells T8.out.lo _ _ _ _ (below_drewN HPB.out.1 1)
    have d4 := hRc 4 _ rfl
    have d0 := hRc 0 _ rfl
    have f4 := (hTc 4 (by decide)).2
    have f0 := (hTc 0 (by decide)).2
    simp only [Nat.zero_add] at d4 d0 f4 f0
    have HRC := Lib.hid hRc
    have HTC := Lib.hid hTc
    clear hRc hTc hwc
    go_wp2_with fail
    obtain ⟨e1, e2⟩ := HSUM.out
    have HR2 := Lib.hid (rangeAt_set (rangeAt_set HRC.out 4 (.int .u32 ((s.d + one) % 4294967296)) (by simp)) 0 (.int .u32 ((one + two) % 4294967296)) (by simp))
    refine ⟨⟨i + 1, by omega, rfl, ?_, there_set (there_set HTC.out _ _) _ _, ?_, ?_, ?_⟩, ?_⟩
    ·rw [HKW.out]
     have := HR2.out
     rw [e1, e2] at this ⊢
     have e3 : (s.d + oneP ki wi s) % 4294967296 = addW s.d (oneP ki wi s) := (wrap_u32 _).symm
     have e4 : (oneP ki wi s + twoP s) % 4294967296 = addW (oneP ki wi s) (twoP s) := (wrap_u32 _).symm
     rw [e3, e4] at this ⊢
     exact this
    ·intro p hp hlt2
     rw [World.cell?_setCell_other _ _ _ _ (by intro e; exact hp (by rw [← e])), World.cell?_setCell_other _ _ _ _ (by intro e; exact hp (by rw [← e])), World.frozen?_setCell, World.frozen?_setCell, (HWC.out.1 p hp).1, (HWC.out.1 p hp).2]
     exact hA.out p hp hlt2
    ·exact Lib.hid (by simpa [World.setCell] using HWC.out.2.1)
    ·exact (HWC.out.2.2.setCell (p := ⟨b8, 4, none⟩) T8.out.lo _).setCell (p := ⟨b8, 0, none⟩) T8.out.lo _
    ·simp [intOf]; omega
   ·have hlt' : ¬ (i : Int) < 64 := by omega
    obtain rfl : i = 64 := by omega
    obtain ⟨s, hs⟩ : ∃ s, s = roundsTo (wordsTo l 64) h 64 := ⟨_, rfl⟩
    rw [← hs] at hR
    have HS := Lib.hid hs
    have hBQ : blockQ h l = h.add s := by rw [hs]; rfl
    clear hs
    have hSo : s.Ok := by rw [HS.out]; exact roundsTo_ok _ _ ho _
    have HH2 := Lib.hid (show wr.there w.heap.size 0 8 ∧ wr.there (w.heap.size + 1) 0 8 ∧ w.heap.size + 1 < w2.heap.size from ⟨there_below HH.out.1 hB.out hHlt, there_below HH.out.2.1 hB.out HH.out.2.2, HH.out.2.2⟩)
    have HRH := Lib.hid (rangeAt_below hH hB.out hHlt)
    have HBW := Lib.hid (hBw.trans (hB.out.mono (Nat.le_of_lt hHlt)))
    have HNE := Lib.hid (show b8 ≠ w.heap.size ∧ b8 ≠ w.heap.size + 1 from ⟨by have := T8.out.lo; omega, by have := T8.out.lo; have := HH.out.2.2; omega⟩)
    have HBQ := Lib.hid hBQ
    clear hBQ HK HW hA hW
    go_wp2_with fail
    go_loopw [12, 70] (fun iv kv wx => ∃ j : Nat, j ≤ 8 ∧ kv = .int .i64 (j : Int) ∧ Hid (wx.rangeAt w.heap.size 0 (mix h s j)) ∧ Hid (wx.there w.heap.size 0 8) ∧ Hid (wx.there (w.heap.size + 1) 0 8) ∧ Hid (wx.rangeAt b8 0 s.cells) ∧ Hid (Below w.heap.size w wx))
     (fun _ kv _ => 8 - (intOf kv).toNat)
    case atStart => exact ⟨0, by omega, rfl, HRH.out, HH2.out.1, HH2.out.2.1, hR.out, HBW.out⟩
    case round =>
     obtain ⟨j, hj, rfl, hRj, hTj, hUj, hSj, hBj⟩ := hrel
     by_cases hlt : j < 8
     ·have hlt' : (j : Int) < 8 := by omega
      have hj0 : (0 : Int) ≤ (j : Int) := by omega
      have cj := mix_cell hRj.out hlt
      have sj := q8_cell hSj.out hlt
      have fj := (hTj.out j hlt).2
      rw [Nat.zero_add] at fj
      have HMS := Lib.hid (mix_succ h s j hlt)
      have HML := Lib.hid (mix_length h s j)
      generalize h.get j = hj' at *
      generalize s.get j = sj' at *
      go_wp2_with fail
      go_region
      go_wp2_with fail
      go_roundw
      case rel => exact ⟨j + 1, by omega, by go_num, by rw [HMS.out, addW, wrap_u32]; exact rangeAt_set hRj.out j _ (by rw [HML.out]; exact hlt), there_set hTj.out _ _, there_set hUj.out _ _, range_other hSj.out (by have := HNE.out; omega), (hBj.out.setCell (p := ⟨w.heap.size, j, none⟩) (Nat.le_refl _) _).drew⟩
      case measure => simp [intOf]; omega
     ·have hlt' : ¬ (j : Int) < 8 := by omega
      obtain rfl : j = 8 := by omega
      go_upto_region 18 with fail
      rename_i K1 hK1
      have hM8 : mix h s 8 = (h.add s).cells := rfl
      rw [hM8] at hRj
      go_step
      refine wpList_load_mid rfl 101 (.tmp 2) rfl w.heap.size 0 rfl (h.add s).cells _ hRj.out under_w8 rfl info_w8 ?_
      simp only [Act.put, List.setIfInBounds_toArray, List.set_cons_zero, List.set_cons_succ]
      refine wpList_store_mid rfl 101 (.tmp 4) (.tmp 82) rfl (w.heap.size + 1) 0 (h.add s).cells.toArray rfl rfl ?h1 ?h2 ?h3 ?_
      case h1 => exact hUj.out
      case h2 => exact info_w8
      case h3 => exact all_oneCell_toArray (cells_one _)
      iterate 2 go_step
      rename_i K2 hK2
      refine hK2 _ _ ?_
      go_step
      refine hK1 _ _ ?_
      go_step
      refine bodyPost_ret (v := .tuple #[(h.add s).val, .bool true]) ?_ rfl ⟨?_, ?_⟩
      ·have hl := run_loadVar_mid (P := Tryz.prog) _ (w.heap.size + 1) 0 101 (h.add s).cells _ (World.rangeAt_setCells_same wr (w.heap.size + 1) 0 (h.add s).cells hUj.out) under_w8 rfl info_w8
       simp [results, Tryz.results74, asAddr, hl]
       rfl
      ·rw [HBQ.out]; rfl
      ·exact below_cells (Nat.le_succ _) _ _ _ _ hBj.out
theorem q8_cells_new (w : World) (s : Q8) (t : TypeId) : (w.alloc (.cells s.cells.toArray t)).rangeAt w.heap.size 0 s.cells := fun j v hj => new_cell (cs := s.cells.toArray) (by rw [Nat.zero_add]; simpa using hj)
end Go.Proofs.YtofadpodlaakbaaGreat
