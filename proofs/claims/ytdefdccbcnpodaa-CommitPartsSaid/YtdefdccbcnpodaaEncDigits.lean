/- The walk of the iterator 'digits' of the layer enc, and of Num, which ranges over it. -/
import Derived.Test.YtdefdccbcnpodaaChecked
import Derived.Test.YtdefdccbcnpodaaBase
import Derived.Test.YtdefdccbcnpodaaEncPlain
import Derived.Test.YtdefdccbcnpodaaOwn
import Derived.RangeFuncNested
import Derived.RangeFuncBound
import Derived.RangeFuncCalls
import Derived.RangeFuncLeaves
import Derived.RangeFuncBox
import Derived.Maps.AppendAt
import Derived.Shelf.Abstract
import Derived.Shelf.RegionOpen
import Derived.OwnWalkIn
import Derived.TacticsInMore
import Derived.LoopNIn
import Derived.LoopIn
import Derived.Handy
import Derived.Outline
namespace Go.Proofs.Ytdefdccbcnpodaa
open Go Go.RowKit Go.Shelf
set_option linter.unusedVariables false
attribute [local go_sem] Oper.semAt_some

set_option maxRecDepth 100000 in
set_option maxHeartbeats 1000000 in
/-- What 'digits' hands to a body: the bytes of the number in its box, one by one; for every body that leaves the box alone and always goes on. -/
theorem digits_in (F : Fence) (n : Nat) (h6 : F.fn 80) (hro : F.round = none) (hn : 1 ≤ n) (l bx : Nat) (N : Nat) (hN : N < 18446744073709551616) (J : List UInt8 → World → Prop)
    (hJ : ∀ pre W v, J pre W → J pre (W.setCell ⟨bx, 0, none⟩ v))
    (hJz : ∀ pre W, J pre W → W.frozen? ⟨bx, 0, none⟩ = false)
    (hY : ∀ pre (x : UInt8) W, J pre W → pre.length < 10 → YieldAt F (n - 1) Try.prog l #[.int .u8 (x.toNat : Int)] W fun e W' =>
      e = .returned (.bool true) ∧ J (pre ++ [x]) W' ∧ W'.cell? ⟨bx, 0, none⟩ = W.cell? ⟨bx, 0, none⟩)
    (W : World) (hb : W.cell? ⟨bx, 0, none⟩ = some (.int .u64 (N : Int))) (h0 : J [] W) :
    CallsIn F n Try.prog 80 #[.func (.yield l) #[] #[], .pointer (some ⟨bx, 0, none⟩)] W fun e W' => (∃ v, e = .returned v) ∧ J (numL N) W' := by
  have hl10 := numL_le10 N hN
  refine callsIn_of_wp Try.func80 rfl h6 ?_ hro
  simp only [Try.ntmps80, List.size_toArray, List.length_cons, List.length_nil, Nat.reduceAdd, Nat.reduceSub, Array.replicate_succ, Array.replicate_zero, List.push_toArray, List.append_toArray, List.nil_append, List.cons_append]
  gi_wp2
  gi_loopw [3] (fun _ wr => ∃ (pre : List UInt8) (m : Nat), wr.cell? ⟨bx, 0, none⟩ = some (.int .u64 (m : Int)) ∧ m < 18446744073709551616 ∧ Hid (pre ++ numL m = numL N) ∧ J pre wr)
    (fun _ wr => match wr.cell? ⟨bx, 0, none⟩ with | some v => (intOf v).toNat | none => 0)
  case atStart => exact ⟨[], N, hb, hN, rfl, h0⟩
  case round =>
    obtain ⟨pre, m, hc, hm, HP, hj⟩ := hrel
    have hplen : pre.length < 10 := by
      have h2 := congrArg List.length HP.out
      simp only [List.length_append] at h2
      have := numL_pos m
      omega
    by_cases hbig : m > 127
    · have hbig' : (127 : Int) < (m : Int) := by omega
      obtain ⟨fn, tmps, assign, body, hy, hR⟩ := hY pre (UInt8.ofNat (m % 128 + 128)) wr hj hplen
      rw [← or128 m] at hy
      have HP2 := Lib.hid (show (pre ++ [UInt8.ofNat (m % 128 + 128)]) ++ numL (m / 128) = numL N by rw [← HP.out, numL_big hbig]; simp)
      gi_wp2
      refine hR.mono ?_
      rintro e W3 ⟨rfl, hJ3, hk3⟩
      have hc3 : W3.cell? ⟨bx, 0, none⟩ = some (.int .u64 (m : Int)) := hk3.trans hc
      have hz3 := hJz _ _ hJ3
      gi_wp2
      have hs : (W3.setCell ⟨bx, 0, none⟩ (.int .u64 ((m : Int) / 128))).cell? ⟨bx, 0, none⟩ = some (.int .u64 ((m / 128 : Nat) : Int)) := by
        rw [World.cell?_setCell_same' _ _ _ (by rw [hc3]; rfl)]; rfl
      refine ⟨⟨pre ++ [UInt8.ofNat (m % 128 + 128)], m / 128, hs, by omega, HP2.out, hJ _ _ _ hJ3⟩, ?_⟩
      rw [hs, hc]
      simp only [intOf]
      omega
    · have hbig' : ¬ (127 : Int) < (m : Int) := by omega
      obtain ⟨fn, tmps, assign, body, hy, hR⟩ := hY pre (UInt8.ofNat m) wr hj hplen
      rw [small_byte m (by omega)] at hy
      have HP2 := Lib.hid (show pre ++ [UInt8.ofNat m] = numL N by rw [← HP.out, numL_small (by omega)])
      gi_wp2
      refine hR.mono ?_
      rintro e W3 ⟨rfl, hJ3, hk3⟩
      gi_wp2
      go_end0
      exact ⟨⟨_, rfl⟩, by rw [← HP2.out]; exact hJ3⟩

theorem digits_make (F : Fence) (n : Nat) (hF2 : F.fn 53) (hro : F.round = none) (N : Int) (w : World) :
    CallsIn F n Try.prog 53 #[.int .u64 N] w fun e w' => e = .returned (.func (.func 80) #[] #[.pointer (some ⟨w.heap.size, 0, none⟩)]) ∧ w' = w.alloc (.cells #[.int .u64 N] 49) := by
  refine callsIn_of_wp Try.func53 rfl hF2 ?_ hro
  simp only [Try.ntmps53, List.size_toArray, List.length_cons, List.length_nil, Nat.reduceAdd, Nat.reduceSub, Array.replicate_succ, Array.replicate_zero, List.push_toArray, List.append_toArray, List.nil_append, List.cons_append]
  gi_wp2
  go_ret
  exact ⟨rfl, rfl⟩

/-- What holds between two rounds of Num's loop: the box of the slice, what that owns, the box of the iterator, the loop's record. -/
def NumJ (w : World) (r : Loop) (pre : List UInt8) (W : World) : Prop :=
  (∃ v, Boxed W w.heap.size 31 v ∧ W.ownsRow w.heap.size 5 1 v pre.length (pre.map B)) ∧ (∃ m, Boxed W (w.heap.size + 1) 49 m) ∧ Below w.heap.size w W ∧
  W.heap[w.heap.size + 3]? = some (.loop r) ∧ W.heap[w.heap.size + 2]? = some (.deferred (some []))

theorem NumJ.store {w : World} {r : Loop} {pre : List UInt8} {W : World} (v : Value) (h : NumJ w r pre W) : NumJ w r pre (W.setCell ⟨w.heap.size + 1, 0, none⟩ v) := by
  obtain ⟨⟨u, hu, hr⟩, ⟨m, hm⟩, hb, h3, h2⟩ := h
  have hg := grownBy_setCell' W (w.heap.size + 1) v
  exact ⟨⟨u, hu.kept hg (by simp), hr.kept hg (.inr (hm.not_row (by decide) hr).symm)⟩, ⟨v, hm.set v⟩, hb.setCell (p := ⟨w.heap.size + 1, 0, none⟩) (by simp) v,
    (Below.heap_setCell _ _ _ _ (by simp)).trans h3, (Below.heap_setCell _ _ _ _ (by simp)).trans h2⟩

theorem NumJ.put {w : World} {r r' : Loop} {pre : List UInt8} {W : World} (h : NumJ w r pre W) : NumJ w r' pre (W.putObj (w.heap.size + 3) (.loop r')) := by
  obtain ⟨⟨u, hu, hr⟩, ⟨m, hm⟩, hb, h3, h2⟩ := h
  have hg := grownBy_putObj' W (w.heap.size + 3) (.loop r')
  exact ⟨⟨u, hu.kept hg (by simp), ownsRow_putObj hr _ h3 rfl⟩, ⟨m, hm.kept hg (by simp)⟩, hb.grown hg hb.size (fun k e => by cases e; omega),
    World.putObj_heap_same (Array.getElem?_eq_some_iff.1 h3).1, (World.putObj_heap_other (by omega)).trans h2⟩

/-- How the body of Num's loop is left: it goes on, one byte more. -/
def NumP (w : World) (r : Loop) (xs : List UInt8) (W : World) : Exit → Act → World → Prop
  | .normal, _, W' => NumJ w r xs W' ∧ W'.cell? ⟨w.heap.size + 1, 0, none⟩ = W.cell? ⟨w.heap.size + 1, 0, none⟩
  | _, _, _ => False

/-- A range over 'digits', for the body that Num has. -/
theorem range_digits (F : Fence) (n : Nat) (h6 : F.fn 80) (hro : F.round = none) (hn : 2 ≤ n) (N : Nat) (hN : N < 18446744073709551616) {g : Operand} {ps : Array Tmp} {assign body : Code} {Q : Exit → Act → World → Prop} {a : Act} (w W0 : World)
    (hs : W0.heap.size = w.heap.size + 2) (hg : a.eval g = .func (.func 80) #[] #[.pointer (some ⟨w.heap.size + 1, 0, none⟩)]) (hps : ps.size = 1)
    (h0 : ∀ r : Loop, NumJ w r [] ((W0.alloc (.deferred (some []))).alloc (.loop r))) (hbx : W0.cell? ⟨w.heap.size + 1, 0, none⟩ = some (.int .u64 (N : Int)))
    (a₁ : UInt8 → Act)
    (hasg : ∀ (x : UInt8) (W : World) (K : Act → World → Prop), K (a₁ x) W → assign.wpIn (F.inRound (w.heap.size + 3)) (n - 1 - 1) Try.prog (Exit.then K (fun _ _ _ => False)) { tmps := (ps.zip #[.int .u8 (x.toNat : Int)]).foldl (fun tmps (t, a) => tmps.setIfInBounds t a) a.tmps, defers := [] } W)
    (hbody : ∀ (r : Loop) (pre : List UInt8) (x : UInt8) (W : World), NumJ w r pre W → pre.length < 10 → body.wpIn (F.inRound (w.heap.size + 3)) (n - 1 - 1) Try.prog (NumP w r (pre ++ [x]) W) (a₁ x) W)
    (hdone : ∀ (r : Loop) (W : World), NumJ w r (numL N) W → Q .normal { a with defers := [{ target := .collected (w.heap.size + 2), args := #[] }] ++ a.defers } W) :
    (Code.rangeFunc g ps assign body).wpIn F n Try.prog Q a W0 := by
  refine wpIn_rangeFunc (fun fn hfn => ?_)
  obtain ⟨r, hr⟩ : ∃ r : Loop, r = { state := .ready, pending := none, fn := fn, tmps := a.tmps, params := ps, assign := assign, body := body, defers := w.heap.size + 2 } := ⟨_, rfl⟩
  have hst : r.state = .ready := by rw [hr]
  have hpe : r.pending = none := by rw [hr]
  refine ⟨w.heap.size + 3, [{ target := .collected (w.heap.size + 2), args := #[] }], (W0.alloc (.deferred (some []))).alloc (.loop r), { target := .fn (.func 80) #[.pointer (some ⟨w.heap.size + 1, 0, none⟩)], args := #[.func (.yield (w.heap.size + 3)) #[] #[]] }, (W0.alloc (.deferred (some []))).alloc (.loop r), 80,
    #[.func (.yield (w.heap.size + 3)) #[] #[]] ++ #[.pointer (some ⟨w.heap.size + 1, 0, none⟩)], (W0.alloc (.deferred (some []))).alloc (.loop r), ?_, ?_, ?_, ?_, fun _ => by omega, ?_⟩
  · rw [hro, run_enterLoop_outer, hs, hr]
  · simp only [resolve, hg]
    simp [go_sem]
  · intro f' hf'; simp [Target.leads] at hf'; subst hf'; exact h6
  · simp [invoke, go_sem]
  · refine (digits_in F (n - 1) h6 hro (by omega) (w.heap.size + 3) (w.heap.size + 1) N hN (fun pre W => NumJ w r pre W) (fun pre W v h => h.store v) (fun pre W h => by obtain ⟨_, ⟨m, hm⟩, _⟩ := h; exact hm.frozen) ?_ _ (carry_alloc (carry_alloc hbx)) (h0 r)).mono ?_
    · intro pre x W hj hlen
      have hl := hj.2.2.2.1
      have hy := run_yield (P := Try.prog) (args := #[.int .u8 (x.toNat : Int)]) hl (by rw [hr]; simp [hps])
      have hfn' : F.fn r.fn := by rw [hr]; exact hfn
      have ht : r.tmps = a.tmps := by rw [hr]
      have hp : r.params = ps := by rw [hr]
      have ha : r.assign = assign := by rw [hr]
      have hb : r.body = body := by rw [hr]
      rw [ht, hp, ha, hb] at hy
      refine ⟨r.fn, _, assign, body, hy, roundIn_of_wpIn hfn' (hasg x W _ ⟨_, run_beginRound hl hst, ?_⟩)⟩
      refine wpIn_mono (hbody _ pre x _ (hj.put (r' := { r with state := .busy })) hlen) ?_
      rintro e a3 W3 hp3
      cases e with
      | normal =>
        obtain ⟨hj3, hc3⟩ := hp3
        have hend := run_endRound (P := Try.prog) none hj3.2.2.2.1
        refine ⟨_, _, hend, rfl, ?_, ?_⟩
        · have e1 : ({ ({ r with state := .busy } : Loop) with state := if (none : Option Code).isNone = true then .ready else .done, pending := none } : Loop) = r := by rw [hr]; rfl
          have h4 := hj3.put (r' := r)
          rw [← e1] at h4
          rw [e1] at h4 ⊢
          exact h4
        · rw [World.cell?_of_block (World.putObj_heap_other (by simp)), hc3]
          exact World.cell?_of_block (World.putObj_heap_other (by simp))
      | ret => exact hp3.elim
      | exit id => exact hp3.elim
      | goto t => exact hp3.elim
      | panic ch => exact hp3.elim
      | outgrown => exact hp3.elim
    · rintro e W2 ⟨⟨v, rfl⟩, hj⟩
      have hend := run_endLoop (P := Try.prog) hj.2.2.2.1 (by rw [hst]; simp)
      rw [hpe] at hend
      exact ⟨none, _, hend, hdone _ _ (hj.put (r' := { r with state := .exhausted, pending := none }))⟩

set_option maxRecDepth 100000 in
set_option maxHeartbeats 1000000 in
theorem num_in (F : Fence) (n : Nat) (hF1 : F.fn 26) (hF2 : F.fn 53) (h6 : F.fn 80) (hro : F.round = none) (hn : 2 ≤ n) (N : Nat) (hN : N < 18446744073709551616) (w : World) :
    CallsIn F n Try.prog 26 #[.int .u64 (N : Int)] w fun e w' => ∃ v, e = .returned v ∧ w'.ownsRow w.heap.size 5 1 v (numL N).length ((numL N).map B) ∧ Below w.heap.size w w' := by
  obtain ⟨i0, hi, hz0, hz1, hz2⟩ := info_parts info_u8
  refine callsIn_of_wp_marks Try.func26 rfl hF1 ?_ hro
  simp only [Try.ntmps26, List.size_toArray, List.length_cons, List.length_nil, Nat.reduceAdd, Nat.reduceSub, Array.replicate_succ, Array.replicate_zero, List.push_toArray, List.append_toArray, List.nil_append, List.cons_append]
  gi_wp2
  refine ⟨fun _ => by omega, ?_⟩
  refine (digits_make F (n - 1) hF2 hro _ _).mono ?_
  rintro e w1 ⟨rfl, rfl⟩
  gi_wp2
  have hl10 := numL_le10 N hN
  refine range_digits F n h6 hro hn N hN w _ (by simp) rfl rfl ?start ?box
    (fun x => { tmps := #[Value.int IntKind.u64 ↑N, undef, Value.slice none 0 0, Value.pointer (some { block := w.heap.size, off := 0 }), Value.int .u8 (x.toNat : Int), Value.int IntKind.u64 ↑N, Value.func (Fn.func 80) #[] #[Value.pointer (some { block := w.heap.size + 1, off := 0 })], Value.int .u8 (x.toNat : Int), undef, undef, undef, undef, undef], defers := [] }) ?asg ?body ?done
  case start =>
    intro r
    have e1 : ((w.alloc (Obj.cells #[Value.slice none 0 0] 31)).alloc (Obj.cells #[Value.int IntKind.u64 ↑N] 49)).heap.size = w.heap.size + 2 := by simp
    have b0 : Boxed (w.alloc (Obj.cells #[Value.slice none 0 0] 31)) w.heap.size 31 (Value.slice none 0 0) := Boxed.new w _ _
    have b1 := Boxed.new (w.alloc (Obj.cells #[Value.slice none 0 0] 31)) 49 (Value.int IntKind.u64 ↑N)
    rw [World.size_alloc] at b1
    refine ⟨⟨_, ((b0.alloc _).alloc _).alloc _, World.ownsRow_nil _ _ _ _⟩, ⟨_, (b1.alloc _).alloc _⟩, ((((Below.refl _ _).alloc (Nat.le_refl _) _).alloc (by simp) _).alloc (by simp; omega) _).alloc (by simp; omega) _, ?_, ?_⟩
    · have := World.alloc_heap_new ((((w.alloc (Obj.cells #[Value.slice none 0 0] 31)).alloc (Obj.cells #[Value.int IntKind.u64 ↑N] 49)).alloc (.deferred (some [])))) (.loop r)
      simpa using this
    · have := World.alloc_heap_new (((w.alloc (Obj.cells #[Value.slice none 0 0] 31)).alloc (Obj.cells #[Value.int IntKind.u64 ↑N] 49))) (.deferred (some []))
      rw [e1] at this
      exact (Below.heap_alloc _ _ _ (by simp)).trans this
  case box =>
    have b1 := Boxed.new (w.alloc (Obj.cells #[Value.slice none 0 0] 31)) 49 (Value.int IntKind.u64 ↑N)
    rw [World.size_alloc] at b1
    exact b1.cell
  case asg =>
    intro x W K hK
    gi_wp2
    exact hK
  case body =>
    rintro r pre x W ⟨⟨v, hv, hrow⟩, ⟨m, hm⟩, hB, h3, h2⟩ hlen
    have hv0 := hv.cell
    gi_wp2_with (gi_at_builtin; refine wpListIn_append_own _ rfl _ _ 31 rfl w.heap.size 5 i0 (.int .u8 0) 1 1 Try.underlying31 hi hz0 hz1 hz2 rfl (by decide) _ _ _ rfl (hrow.alloc _) ⟨W.heap.size, 0, none⟩ 1 1 [B x] rfl rfl (cell_one_new _ _ _) (by simp [Value.oneCell', B]) (by unfold maxLen; omega) (by omega) (by have := hB.size; simp; omega) ?_; intro v' w1 hown' hgrow _; obtain ⟨g', cap', rfl⟩ := ownsRow_succ hown'; obtain ⟨hv1, hv2, hr2, hk2, hb2⟩ := hv.appended (by decide) hrow hB.size (Nat.le_refl _) hown' hgrow; have hm1 : Boxed w1 (w.heap.size + 1) 49 m := (hm.alloc _).kept hgrow (hm.not_row (by decide) hrow); have hc1 := hv1.cell; have hf1 := hv1.frozen)
    have hm2 := hm1.kept (grownBy_setCell' w1 w.heap.size (.slice (some ⟨g', 0, none⟩) (pre.length + 1) cap')) (by simp)
    refine ⟨⟨⟨_, hv2, ?_⟩, ⟨m, hm2⟩, hB.trans hb2, hk2.same _ _ h3 rfl, hk2.same _ _ h2 rfl⟩, hm2.cell.trans hm.cell.symm⟩
    simpa using hr2
  case done =>
    rintro r W ⟨⟨v, hv, hrow⟩, ⟨m, hm⟩, hB, h3, h2⟩
    have hv0 := hv.cell
    gi_wp2
    refine ⟨by simp, .inl ⟨_, _, rfl, run_takeDeferred h2, ?_⟩⟩
    refine ⟨_, results_tmp rfl _ _ _, v, rfl, ownsRow_putObj hrow _ h2 rfl, ?_⟩
    exact hB.grown (grownBy_putObj' _ _ _) hB.size (fun k e => by cases e; omega)
end Go.Proofs.Ytdefdccbcnpodaa
