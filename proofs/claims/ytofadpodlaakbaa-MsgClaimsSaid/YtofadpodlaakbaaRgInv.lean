/- A region that draws its order, by an invariant on which of its operations are done: each operation is handled once, whatever the number of orders. Laws over any program. -/
import Derived.Test.YtofadpodlaakbaaJ1
namespace Go.Proofs.Ytofadpodlaakbaa
open Go
set_option linter.unusedVariables false

/-- Every edge that binds leads back in the text. -/
def backB (ops : Array Oper) : Bool :=
  (List.range ops.size).all fun i => ((ops[i]?).map fun o => o.after.all fun e => !Region.binds .any e || decide (e.on < i)).getD true
theorem backB_spec {ops : Array Oper} (h : backB ops = true) (i : Nat) (o : Oper) (ho : ops[i]? = some o) (e : _) (he : e ∈ o.after) (hb : Region.binds .any e = true) : e.on < i := by
  have hi : i < ops.size := (Array.getElem?_eq_some_iff.1 ho).1
  simp only [backB, List.all_eq_true, List.mem_range] at h
  have h1 := h i hi
  rw [ho] at h1
  simp only [Option.map_some, Option.getD_some] at h1
  have h2 := (Array.all_eq_true_iff_forall_mem.1 h1) e he
  simpa [hb] using h2
def leftN (l : List Bool) : Nat := (l.filter fun b => !b).length
theorem leftN_set : ∀ (l : List Bool) (i : Nat), l[i]? = some false → leftN (l.set i true) + 1 = leftN l
  | [], i, h => by simp at h
  | b :: r, 0, h => by
    simp only [List.getElem?_cons_zero, Option.some.injEq] at h
    subst h; simp [leftN]
  | b :: r, i + 1, h => by
    simp only [List.getElem?_cons_succ] at h
    have := leftN_set r i h
    simp only [List.set_cons_succ, leftN, List.filter_cons] at this ⊢
    cases b <;> simp at this ⊢ <;> omega
theorem leftN_zero : ∀ (l : List Bool), leftN l = 0 → ∀ i, i < l.length → l[i]? = some true
  | [], _, i, hi => by simp at hi
  | b :: r, h, 0, _ => by cases b <;> simp [leftN] at h ⊢
  | b :: r, h, i + 1, hi => by
    rw [List.getElem?_cons_succ]
    refine leftN_zero r ?_ i (by simpa using hi)
    cases b
    · simp [leftN] at h
    · simpa [leftN] using h

section
variable {P : Program} {ops : Array Oper} {Q : Exit → Act → World → Prop}
theorem ready_mem {l : Array Bool} {i : Nat} (h : i ∈ Region.ready .any ops l) : ∃ o, ops[i]? = some o ∧ l.getD i true = false ∧ ∀ e ∈ o.after, Region.binds .any e = true → l.getD e.on false = true := by
  simp only [Region.ready, List.mem_filter, List.mem_range, Bool.and_eq_true] at h
  obtain ⟨hi, h1, h2⟩ := h
  rw [Array.getElem?_eq_getElem hi] at h2
  refine ⟨ops[i], Array.getElem?_eq_getElem hi, by simpa using h1, fun e he hb => ?_⟩
  simp only [Option.map_some, Option.getD_some] at h2
  have h3 := (Array.all_eq_true_iff_forall_mem.1 h2) e he
  simpa [hb] using h3
theorem ready_nil (hb : backB ops = true) {l : Array Bool} (hs : l.size = ops.size) (h : Region.ready .any ops l = []) : ∀ i, i < ops.size → l.getD i true = true := by
  intro i
  induction i using Nat.strongRecOn with
  | _ i ih =>
    intro hi
    cases hl : l.getD i true with
    | true => rfl
    | false =>
      exfalso
      have : i ∈ Region.ready .any ops l := by
        simp only [Region.ready, List.mem_filter, List.mem_range, Bool.and_eq_true]
        refine ⟨hi, by rw [hl]; rfl, ?_⟩
        rw [Array.getElem?_eq_getElem hi]
        simp only [Option.map_some, Option.getD_some]
        refine Array.all_eq_true_iff_forall_mem.2 fun e he => ?_
        cases hbe : Region.binds .any e with
        | false => rfl
        | true =>
          have hlt := backB_spec hb i ops[i] (Array.getElem?_eq_getElem hi) e he hbe
          have h1 := ih e.on hlt (by omega)
          have hsz : e.on < l.size := by omega
          simp only [Array.getD_eq_getD_getElem?, Array.getElem?_eq_getElem hsz, Option.getD_some] at h1 ⊢
          simp [h1]
      rw [h] at this
      cases this

theorem wpAny_inv (hb : backB ops = true) (I : Array Bool → Act → World → Prop)
    (hstep : ∀ (i : Nat) (o : Oper) (l : Array Bool) (a : Act) (w : World), ops[i]? = some o → l.size = ops.size → l.getD i true = false →
      (∀ e ∈ o.after, Region.binds .any e = true → l.getD e.on false = true) → I l a w → ∀ K : Act → World → Prop, (∀ a' w', I (l.setIfInBounds i true) a' w' → K a' w') →
      if Region.wanted o (yielded ops a.tmps) = true then o.wp P a w K Q else K (a.put o.dst undef) w)
    (hend : ∀ (l : Array Bool) (a : Act) (w : World), (∀ i, i < ops.size → l.getD i true = true) → l.size = ops.size → I l a w → Q .normal a w) :
    ∀ (fuel : Nat) (l : Array Bool) (a : Act) (w : World), l.size = ops.size → leftN l.toList ≤ fuel → I l a w → wpAny P .any ops Q fuel l a w := by
  intro fuel
  induction fuel with
  | zero =>
    intro l a w hs hf hI
    have hall : ∀ i, i < ops.size → l.getD i true = true := fun i hi => by
      have := leftN_zero l.toList (by omega) i (by simpa [hs] using hi)
      rw [Array.getElem?_toList] at this
      simp [Array.getD_eq_getD_getElem?, this]
    refine ⟨?_, hend l a w hall hs hI⟩
    rw [List.eq_nil_iff_forall_not_mem]
    intro i hi
    obtain ⟨o, ho, h1, _⟩ := ready_mem hi
    rw [hall i (Array.getElem?_eq_some_iff.1 ho).1] at h1
    cases h1
  | succ fuel ih =>
    intro l a w hs hf hI
    refine ⟨fun h => hend l a w (ready_nil hb hs h) hs hI, fun i hi => ?_⟩
    obtain ⟨o, ho, h1, h2⟩ := ready_mem hi
    have hil : i < l.size := by rw [hs]; exact (Array.getElem?_eq_some_iff.1 ho).1
    refine wpOp_step ho fun K hK => hstep i o l a w ho hs h1 h2 hI K fun a' w' hI' => hK a' w' (ih _ a' w' (by simp [hs]) ?_ hI')
    have h3 : l.toList[i]? = some false := by
      rw [Array.getElem?_toList, Array.getElem?_eq_getElem hil]
      simp only [Array.getD_eq_getD_getElem?, Array.getElem?_eq_getElem hil, Option.getD_some] at h1
      rw [h1]
    have h4 := leftN_set l.toList i h3
    rw [Array.toList_setIfInBounds]
    omega

/-- THE LAW. -/
theorem region_inv {id : Nat} {a : Act} {w : World} (hm : P.follows .mixedOrders = true) (hb : backB ops = true) (I : Array Bool → Act → World → Prop)
    (h0 : I (Array.replicate ops.size false) a w.drew)
    (hstep : ∀ (i : Nat) (o : Oper) (l : Array Bool) (a : Act) (w : World), ops[i]? = some o → l.size = ops.size → l.getD i true = false →
      (∀ e ∈ o.after, Region.binds .any e = true → l.getD e.on false = true) → I l a w → ∀ K : Act → World → Prop, (∀ a' w', I (l.setIfInBounds i true) a' w' → K a' w') →
      if Region.wanted o (yielded ops a.tmps) = true then o.wp P a w K Q else K (a.put o.dst undef) w)
    (hend : ∀ (l : Array Bool) (a : Act) (w : World), (∀ i, i < ops.size → l.getD i true = true) → l.size = ops.size → I l a w → Q .normal a w) :
    (Code.region id ops true).wp P Q a w := by
  refine wp_region_any hm ?_
  refine wpAny_inv hb I hstep hend ops.size _ a _ (by simp) ?_ h0
  have : ∀ n, leftN (List.replicate n false) = n := fun n => by simp [leftN]
  simp [this]
end
/-- Operation j is done. -/
def On (f : Array Bool) (j : Nat) : Prop := f.getD j false = true
theorem on_put {f : Array Bool} {i j : Nat} (hi : i < f.size) : On (f.setIfInBounds i true) j ↔ (j = i ∨ On f j) := by
  simp only [On, Array.getD_eq_getD_getElem?, Array.getElem?_setIfInBounds]
  by_cases e : i = j
  · subst e; simp [hi]
  · rw [if_neg e]
    constructor
    · exact fun h => .inr h
    · rintro (h | h)
      · exact absurd h.symm e
      · exact h
theorem on_back {f : Array Bool} {i j : Nat} (hi : i < f.size) (h : On (f.setIfInBounds i true) j) (hne : j ≠ i) : On f j := ((on_put hi).1 h).resolve_left hne
theorem on_off {f : Array Bool} {i : Nat} (hi : i < f.size) (h : f.getD i true = false) : ¬ On f i := by
  intro h2
  simp only [On, Array.getD_eq_getD_getElem?, Array.getElem?_eq_getElem hi, Option.getD_some] at h h2
  rw [h] at h2; cases h2
theorem on_all {f : Array Bool} {n : Nat} (h : ∀ i, i < n → f.getD i true = true) (hs : f.size = n) (j : Nat) (hj : j < n) : On f j := by
  have := h j hj
  simpa only [On, Array.getD_eq_getD_getElem?, Array.getElem?_eq_getElem (show j < f.size by omega), Option.getD_some] using this
end Go.Proofs.Ytofadpodlaakbaa
