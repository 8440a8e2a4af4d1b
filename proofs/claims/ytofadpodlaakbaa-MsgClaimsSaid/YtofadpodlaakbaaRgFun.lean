/- A region that draws its order, by an invariant: the frame is told by a function from slots to values, so that a wide frame costs no letter a slot. Laws over any program. -/
import Derived.Test.YtofadpodlaakbaaRgInv
import Derived.Lib.AppendZeros
import Derived.Great.BuildSlice
namespace Go.Proofs.Ytofadpodlaakbaa
open Go
set_option linter.unusedVariables false

/-- A function with one value turned. -/
def upd (g : Nat → Value) (d : Nat) (v : Value) : Nat → Value := fun j => cond (Nat.beq j d) v (g j)
theorem upd_same {g : Nat → Value} {d : Nat} {v : Value} (h : g d = v) : upd g d v = g := by
  funext j
  unfold upd
  cases e : Nat.beq j d with
  | false => rfl
  | true => rw [Nat.eq_of_beq_eq_true e, h]; rfl
theorem upd_at {g : Nat → Value} {d : Nat} {v : Value} : upd g d v d = v := by unfold upd; rw [Nat.beq_refl]; rfl
theorem upd_past {g : Nat → Value} {d j : Nat} {v : Value} (h : j ≠ d) : upd g d v j = g j := by
  unfold upd
  cases e : Nat.beq j d with
  | false => rfl
  | true => exact absurd (Nat.eq_of_beq_eq_true e) h
/-- The number, and the value, at a place of a list. -/
def dkN : List Nat → Nat → Nat
  | [], _ => 0
  | x :: _, 0 => x
  | _ :: l, n + 1 => dkN l n
def vkN : List Value → Nat → Value
  | [], _ => undef
  | x :: _, 0 => x
  | _ :: l, n + 1 => vkN l n
theorem vals_step {f : Array Bool} {g : Nat → Value} {n : Nat} {v : Value} {N : Nat} {ds : List Nat} {vs : List Value} {ex : Nat → Bool} (hD : ∀ j, j < N → ∀ n, n < N → j ≠ n → dkN ds j ≠ dkN ds n) (hn : n < N) (hi : n < f.size)
    (P : ∀ j, j < N → ex j = false → On f j → g (dkN ds j) = vkN vs j) (hv : ex n = false → v = vkN vs n) :
    ∀ j, j < N → ex j = false → On (f.setIfInBounds n true) j → upd g (dkN ds n) v (dkN ds j) = vkN vs j := by
  intro j hj he ho
  by_cases e : j = n
  · subst e; rw [upd_at]; exact hv he
  · rw [upd_past (hD j hj n hn e)]; exact P j hj he (on_back hi ho e)
theorem vals_keep {f : Array Bool} {g : Nat → Value} {n : Nat} {N : Nat} {ds : List Nat} {vs : List Value} {ex : Nat → Bool} (hi : n < f.size) (hx : ex n = true)
    (P : ∀ j, j < N → ex j = false → On f j → g (dkN ds j) = vkN vs j) : ∀ j, j < N → ex j = false → On (f.setIfInBounds n true) j → g (dkN ds j) = vkN vs j :=
  fun j hj h x => P j hj h (on_back hi x (by rintro rfl; rw [hx] at h; cases h))
theorem skip_if {c : Prop} [Decidable c] {A B : Prop} (h : ¬ c) (hB : B) : if c then A else B := by rw [if_neg h]; exact hB
section
variable {P : Program} {ops : Array Oper} {Q : Exit → Act → World → Prop}
theorem region_fun {id : Nat} {a : Act} {w : World} (hm : P.follows .mixedOrders = true) (hb : backB ops = true) (T : (Nat → Value) → Array Value) (ha : a = ⟨T (vkN a.tmps.toList), []⟩) (I : Array Bool → (Nat → Value) → World → Prop)
    (h0 : I (Array.replicate ops.size false) (vkN a.tmps.toList) w.drew)
    (hstep : ∀ (i : Nat) (o : Oper) (l : Array Bool) (g : Nat → Value) (w : World), ops[i]? = some o → l.size = ops.size → l.getD i true = false →
      (∀ e ∈ o.after, Region.binds .any e = true → l.getD e.on false = true) → I l g w → ∀ K : Act → World → Prop, (∀ g' w', I (l.setIfInBounds i true) g' w' → K ⟨T g', []⟩ w') →
      if Region.wanted o (yielded ops (T g)) = true then o.wp P ⟨T g, []⟩ w K Q else K ((⟨T g, []⟩ : Act).put o.dst undef) w)
    (hend : ∀ (l : Array Bool) (g : Nat → Value) (w : World), (∀ i, i < ops.size → l.getD i true = true) → l.size = ops.size → I l g w → Q .normal ⟨T g, []⟩ w) :
    (Code.region id ops true).wp P Q a w := by
  refine region_inv hm hb (fun l a w => ∃ g, a = ⟨T g, []⟩ ∧ I l g w) ⟨_, ha, h0⟩ ?_ ?_
  · rintro i o l a w ho hs h1 h2 ⟨g, rfl, hI⟩ K hK
    exact hstep i o l g w ho hs h1 h2 hI K fun g' w' h => hK _ _ ⟨g', rfl, h⟩
  · rintro l a w hall hs ⟨g, rfl, hI⟩
    exact hend l g w hall hs hI
/-- The same, in a function that has deferred a call. -/
theorem region_funD (ds : List Deferred) {id : Nat} {a : Act} {w : World} (hm : P.follows .mixedOrders = true) (hb : backB ops = true) (T : (Nat → Value) → Array Value) (ha : a = ⟨T (vkN a.tmps.toList), ds⟩) (I : Array Bool → (Nat → Value) → World → Prop)
    (h0 : I (Array.replicate ops.size false) (vkN a.tmps.toList) w.drew)
    (hstep : ∀ (i : Nat) (o : Oper) (l : Array Bool) (g : Nat → Value) (w : World), ops[i]? = some o → l.size = ops.size → l.getD i true = false →
      (∀ e ∈ o.after, Region.binds .any e = true → l.getD e.on false = true) → I l g w → ∀ K : Act → World → Prop, (∀ g' w', I (l.setIfInBounds i true) g' w' → K ⟨T g', ds⟩ w') →
      if Region.wanted o (yielded ops (T g)) = true then o.wp P ⟨T g, ds⟩ w K Q else K ((⟨T g, ds⟩ : Act).put o.dst undef) w)
    (hend : ∀ (l : Array Bool) (g : Nat → Value) (w : World), (∀ i, i < ops.size → l.getD i true = true) → l.size = ops.size → I l g w → Q .normal ⟨T g, ds⟩ w) :
    (Code.region id ops true).wp P Q a w := by
  refine region_inv hm hb (fun l a w => ∃ g, a = ⟨T g, ds⟩ ∧ I l g w) ⟨_, ha, h0⟩ ?_ ?_
  · rintro i o l a w ho hs h1 h2 ⟨g, rfl, hI⟩ K hK
    exact hstep i o l g w ho hs h1 h2 hI K fun g' w' h => hK _ _ ⟨g', rfl, h⟩
  · rintro l a w hall hs ⟨g, rfl, hI⟩
    exact hend l g w hall hs hI
end
/-- An append whose run is known, as a step of a region. -/
theorem app_run_at {P : Program} {ops : Array Oper} {o : Oper} {ts : Array Value} {ds : List Deferred} {w : World} {K : Act → World → Prop} {Q : Exit → Act → World → Prop} {E : Prop}
    (hw : Region.wanted o (yielded ops ts) = true) (s x : Operand) (t : TypeId) (hop : o.op = Op.call { callee := Callee.builtin Builtin.append, args := #[s, x], argTypes := #[t, t] })
    {v y v' : Value} {w' : World} (hs : Act.eval ⟨ts, ds⟩ s = v) (hx : Act.eval ⟨ts, ds⟩ x = y) (hrun : (Builtin.append_ #[t, t] o.type #[v, y]).run P w = .ok v' w') (hK : K (Act.put ⟨ts, ds⟩ o.dst v') w') :
    if Region.wanted o (yielded ops ts) = true then o.wp P ⟨ts, ds⟩ w K Q else E := by
  rw [if_pos hw]
  exact Lib.wp_append_run w s x t t hop v y hs hx v' w' hrun hK

/-- A slice of one value of many cells, as a step of a region. -/
theorem one_slice_at {P : Program} {ops : Array Oper} {o : Oper} {ts : Array Value} {ds : List Deferred} {w : World} {K : Act → World → Prop} {Q : Exit → Act → World → Prop} {E : Prop}
    (hw : Region.wanted o (yielded ops ts) = true) (t e : TypeId) (x : Operand) (hop : o.op = .buildSlice t 1 #[(0, x)]) (cs : List Value) (hx : Act.eval ⟨ts, ds⟩ x = .agg cs.toArray) (ie : TypeInfo) (z : Value)
    (hu : P.underlying t = some (.slice e)) (hie : P.info? e = some ie) (hz : ie.zero = some z) (hs : ie.size = cs.length) (hpos : 0 < cs.length) (hsmall : cs.length ≤ 1000)
    (hK : K (Act.put ⟨ts, ds⟩ o.dst (.slice (some ⟨w.heap.size, 0, none⟩) 1 1)) (w.alloc (.cells cs.toArray e))) :
    if Region.wanted o (yielded ops ts) = true then o.wp P ⟨ts, ds⟩ w K Q else E := by
  rw [if_pos hw]
  refine wp_buildSlice t e 1 #[(0, x)] hop cs.toArray ie z hu hie hz (by rw [hs]; omega) (by rw [hs]; omega) ?_ hK
  have := Great.fill_whole (s := ie.size) (by rw [hs]; exact hpos) [.agg cs.toArray] ((Array.range (1 * ie.size)).map (z.cells[· % z.cells.size]!)) (by intro v hv; simp only [List.mem_singleton] at hv; subst hv; show cs.toArray.size = _; rw [List.size_toArray, hs]) (by simp)
  simpa [hx, Value.cells] using this
end Go.Proofs.Ytofadpodlaakbaa
