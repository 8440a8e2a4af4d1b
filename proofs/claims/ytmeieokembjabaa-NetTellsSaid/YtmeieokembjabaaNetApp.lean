/- Appending a packet to packets that are only read. -/
import Derived.Test.YtmeieokembjabaaNetSmall
import Derived.Laws.Append
import Derived.Deep.Slices
namespace Go.Proofs.Ytmeieokembjabaa
open Go.ChangeShapes Go.WideShapes Go.ChangeAt Go.RowKit
set_option linter.unusedVariables false

theorem pkC_length : ∀ (vs : List Value) (ps : List Pk), vs.length = ps.length → (pkC vs ps).length = ps.length * 3
  | [], [], _ => rfl
  | [], _ :: _, h => by simp at h
  | _ :: _, [], h => by simp at h
  | v :: vs, p :: ps, h => by
    have := pkC_length vs ps (by simpa using h)
    simp only [pkC, List.length_cons, this]
    omega
/-- Each packet's bytes are read at its value. -/
def Vals (w : World) (vs : List Value) (ps : List Pk) : Prop := vs.length = ps.length ∧ ∀ i, i < ps.length → ∃ a' c', vs.getD i undef = .slice a' (ps.getD i noPk).by_.length c' ∧ Rd w a' (ps.getD i noPk).by_.length c' (ps.getD i noPk).by_ ∧ (a' = none → c' = 0)
theorem Vals.below {w w' : World} {vs : List Value} {ps : List Pk} (h : Vals w vs ps) (hb : Below w.heap.size w w') : Vals w' vs ps := ⟨h.1, fun i hi => by
  obtain ⟨a', c', h1, h2, h3⟩ := h.2 i hi
  exact ⟨a', c', h1, h2.below hb, h3⟩⟩
theorem Vals.snoc {w : World} {vs : List Value} {ps : List Pk} (h : Vals w vs ps) {p : Pk} {x : Option Addr} {cx : Nat} (hr : Rd w x p.by_.length cx p.by_) (hx : x = none → cx = 0) : Vals w (vs ++ [.slice x p.by_.length cx]) (ps ++ [p]) := by
  refine ⟨by simp [h.1], fun i hi => ?_⟩
  rw [List.length_append] at hi
  by_cases e : i < ps.length
  · have e1 : (vs ++ [Value.slice x p.by_.length cx]).getD i undef = vs.getD i undef := by rw [List.getD_eq_getElem?_getD, List.getElem?_append_left (by rw [h.1]; exact e), ← List.getD_eq_getElem?_getD]
    have e2 : (ps ++ [p]).getD i noPk = ps.getD i noPk := by rw [List.getD_eq_getElem?_getD, List.getElem?_append_left e, ← List.getD_eq_getElem?_getD]
    rw [e1, e2]; exact h.2 i e
  · obtain rfl : i = ps.length := by simp at hi; omega
    have e1 : (vs ++ [Value.slice x p.by_.length cx]).getD ps.length undef = .slice x p.by_.length cx := by rw [List.getD_eq_getElem?_getD, List.getElem?_append_right (by rw [h.1]; exact Nat.le_refl _), h.1]; simp
    have e2 : (ps ++ [p]).getD ps.length noPk = p := by rw [List.getD_eq_getElem?_getD, List.getElem?_append_right (Nat.le_refl _)]; simp
    rw [e1, e2]; exact ⟨x, cx, rfl, hr, hx⟩
theorem Pks.of_cells {w : World} {g cap off : Nat} {vs : List Value} {ps : List Pk} (hv : Vals w vs ps) (hc : ∀ j v, (pkC vs ps)[j]? = some v → w.cell? ⟨g, off + j, none⟩ = some v) (hn : ps.length ≤ cap) (hm : cap ≤ 9223372036854775807) : Pks w (some ⟨g, off, none⟩) ps.length cap ps := by
  refine ⟨rfl, hn, hm, (fun h => by cases h), .inr ⟨g, off, rfl, fun i hi => ?_⟩⟩
  obtain ⟨a', c', e, hr, hx⟩ := hv.2 i hi
  obtain ⟨e0, e1, e2⟩ := pkC_at vs ps i hv.1 hi
  exact ⟨a', c', hc _ _ e0, by rw [Nat.add_assoc]; exact hc _ _ e1, by rw [Nat.add_assoc, ← e]; exact hc _ _ e2, hr, hx⟩
theorem Pks.vals {w : World} {a : Option Addr} {n c : Nat} {ps : List Pk} (h : Pks w a n c ps) : ∃ vs, Vals w vs ps ∧ ∀ x, a = some x → ∀ j v, (pkC vs ps)[j]? = some v → w.cell? (x.add j) = some v := by
  rcases h.cells with h0 | ⟨b, off, rfl, hc⟩
  · have : ps = [] := List.eq_nil_of_length_eq_zero (by rw [h.len, h0])
    subst this
    exact ⟨[], ⟨rfl, fun i hi => by simp at hi⟩, fun x _ j v hv => by simp [pkC] at hv⟩
  · have each : ∀ i, i < n → ∃ y : Option Addr × Nat, w.cell? ⟨b, off + i * 3, none⟩ = some (.int .i64 (ps.getD i noPk).fr) ∧ w.cell? ⟨b, off + i * 3 + 1, none⟩ = some (.int .i64 (ps.getD i noPk).to) ∧
        w.cell? ⟨b, off + i * 3 + 2, none⟩ = some (.slice y.1 (ps.getD i noPk).by_.length y.2) ∧ Rd w y.1 (ps.getD i noPk).by_.length y.2 (ps.getD i noPk).by_ ∧ (y.1 = none → y.2 = 0) := fun i hi => by
      obtain ⟨a', c', h1, h2, h3, h4, h5⟩ := hc i hi
      exact ⟨(a', c'), h1, h2, h3, h4, h5⟩
    obtain ⟨y, hy⟩ := Go.Deep.choose_lt each
    refine ⟨(List.range n).map fun i => .slice (y i).1 (ps.getD i noPk).by_.length (y i).2, ⟨by simp [h.len], fun i hi => ?_⟩, ?_⟩
    · rw [h.len] at hi
      obtain ⟨_, _, _, h4, h5⟩ := hy i hi
      exact ⟨(y i).1, (y i).2, by rw [List.getD_eq_getElem?_getD, List.getElem?_map, List.getElem?_range hi]; rfl, h4, h5⟩
    · intro x hx j v hv
      cases hx
      have hvl : ((List.range n).map fun i => Value.slice (y i).1 (ps.getD i noPk).by_.length (y i).2).length = ps.length := by simp [h.len]
      have hj : j < ps.length * 3 := by
        have := (List.getElem?_eq_some_iff.1 hv).1
        rwa [pkC_length _ _ hvl] at this
      have hi : j / 3 < ps.length := by omega
      obtain ⟨e0, e1, e2⟩ := pkC_at _ ps (j / 3) hvl hi
      obtain ⟨h1, h2, h3, _, _⟩ := hy (j / 3) (by rw [← h.len]; exact hi)
      have hadd : (⟨b, off, none⟩ : Addr).add j = ⟨b, off + j, none⟩ := by unfold Addr.add; split <;> simp_all
      rw [hadd]
      have hj3 : j % 3 = 0 ∨ j % 3 = 1 ∨ j % 3 = 2 := by omega
      rcases hj3 with e | e | e
      · have ej : j = j / 3 * 3 := by omega
        rw [ej] at hv ⊢
        rw [e0] at hv
        rw [h1, hv]
      · have ej : j = j / 3 * 3 + 1 := by omega
        rw [ej] at hv ⊢
        rw [e1] at hv
        rw [← Nat.add_assoc, h2, hv]
      · have ej : j = j / 3 * 3 + 2 := by omega
        rw [ej] at hv ⊢
        rw [e2, List.getD_eq_getElem?_getD, List.getElem?_map, List.getElem?_range (by rw [← h.len]; exact hi)] at hv
        rw [← Nat.add_assoc, h3]
        exact hv

/-- 'append(l[:len(l):len(l)], p)': l is read only; what is handed back is new. -/
theorem app_grow {w : World} {a : Option Addr} {n c : Nat} {ps : List Pk} (h : Pks w a n c ps) (hn : n ≤ 1000) {b : Nat} {p : Pk} {x : Option Addr} {cx : Nat} (hc : Cel w b 25 [.int .i64 p.fr, .int .i64 p.to, .slice x p.by_.length cx]) (hr : Rd w x p.by_.length cx p.by_) (hx : x = none → cx = 0) :
    ∃ g cap w', (Builtin.append_ #[22, 22] 22 #[.slice a n n, .slice (some ⟨b, 0, none⟩) 1 1]).run Try.prog w = .ok (.slice (some ⟨g, 0, none⟩) (n + 1) cap) w' ∧ Pks w' (some ⟨g, 0, none⟩) (n + 1) cap (ps ++ [p]) ∧ Below w.heap.size w w' := by
  obtain ⟨i0, hi, hz0, hz1, hz2⟩ := info_parts info_pk
  obtain ⟨vs, hv, hcell⟩ := h.vals
  have hnews : ∀ j u, [Value.int .i64 p.fr, .int .i64 p.to, .slice x p.by_.length cx][j]? = some u → w.cell? ((⟨b, 0, none⟩ : Addr).add j) = some u := fun j u hu => by
    have hadd : (⟨b, 0, none⟩ : Addr).add j = ⟨b, j, none⟩ := by unfold Addr.add; split <;> simp_all
    rw [hadd]; exact hc.at j u hu
  have hlen : (ps ++ [p]).length = n + 1 := by rw [List.length_append, h.len]; rfl
  have hsn := pkC_snoc vs ps (.slice x p.by_.length cx) p hv.1
  cases a with
  | none =>
    obtain rfl : n = 0 := by have := h.le; have := h.non rfl; omega
    have hps : ps = [] := List.eq_nil_of_length_eq_zero h.len
    subst hps
    obtain ⟨v', w', h1, h2, h3, _⟩ := run_append_own (P := Try.prog) w w.heap.size 22 22 25 i0 _ 3 40 Try.underlying22 hi hz0 hz1 hz2 rfl (by decide) (.slice none 0 0) 0 [] (World.ownsRow_nil _ _ _ _) ⟨b, 0, none⟩ 1 1 _ rfl hnews (by intro u hu; simp at hu; rcases hu with rfl | rfl | rfl <;> rfl) (by unfold maxLen; omega) (by omega) (Nat.le_refl _)
    have hb : Below w.heap.size w w' := (Below.refl _ w).grown h3 (Nat.le_refl _) (fun k hk => by cases hk)
    rcases h2.2 with ⟨_, h0⟩ | ⟨g, cap, cur, rfl, hg, hgg, hcap, hm, hs, hx2⟩
    · omega
    · have hvs : vs = [] := List.eq_nil_of_length_eq_zero hv.1
      subst hvs
      refine ⟨g, cap, w', h1, ?_, hb⟩
      have := Pks.of_cells (w := w') (g := g) (off := 0) (cap := cap) ((hv.below hb).snoc (hr.below hb) hx) (fun j v hj => by
        have h5 := h2.cells (g := g) rfl j v (by rw [hsn] at hj; simpa [pkC] using hj)
        have hadd : (⟨g, 0, none⟩ : Addr).add j = ⟨g, 0 + j, none⟩ := by unfold Addr.add; split <;> simp_all
        rwa [hadd] at h5) (by rw [hlen]; omega) (Nat.le_trans hm (by unfold maxLen; decide))
      rwa [hlen] at this
  | some y =>
    have hrun := run_append_grow (P := Try.prog) w 22 22 25 i0 _ Try.underlying22 hi hz0 y n n (pkC vs ps) (by rw [pkC_length _ _ hv.1, h.len, hz1]) (fun j v hj => hcell y rfl j v hj) ⟨b, 0, none⟩ 1 1 _ (by rw [hz1]; rfl) hnews (by omega) (by omega) (by
      have := nextslicecap_le (show n < n + 1 by omega)
      rw [hz2]
      omega)
    refine ⟨_, _, _, hrun, ?_, ((Below.refl _ w).drew).alloc (Nat.le_refl _) _⟩
    have hb : Below w.heap.size w (w.drew.alloc (.cells ((pkC vs ps).toArray ++ [Value.int .i64 p.fr, .int .i64 p.to, .slice x p.by_.length cx].toArray ++ Builtin.zeroCells (Value.agg #[.int .i64 0, .int .i64 0, .slice none 0 0]).cells (grownCap w (n + 1) n 25 - (n + 1))) 25)) := ((Below.refl _ w).drew).alloc (Nat.le_refl _) _
    have hge := grownCap_ge w (n + 1) n 25
    have hcm := grownCap_le_maxLen w (n + 1) n 25 (by unfold maxLen; omega)
    have := Pks.of_cells (g := w.heap.size) (off := 0) (cap := grownCap w (n + 1) n 25) ((hv.below hb).snoc (hr.below hb) hx) (fun j v hj => by
      rw [hsn] at hj
      rw [Nat.zero_add]
      refine new_cell (w := w.drew) ?_
      have hjl := (List.getElem?_eq_some_iff.1 hj).1
      have e : ((pkC vs ps).toArray ++ [Value.int .i64 p.fr, .int .i64 p.to, .slice x p.by_.length cx].toArray : Array Value) = (pkC vs ps ++ [Value.int .i64 p.fr, .int .i64 p.to, .slice x p.by_.length cx]).toArray := by simp
      rw [e, Array.getElem?_append_left (by rw [List.size_toArray]; exact hjl), List.getElem?_toArray]
      exact hj) (by rw [hlen]; omega) (Nat.le_trans hcm (by unfold maxLen; decide))
    rwa [hlen] at this
end Go.Proofs.Ytmeieokembjabaa
