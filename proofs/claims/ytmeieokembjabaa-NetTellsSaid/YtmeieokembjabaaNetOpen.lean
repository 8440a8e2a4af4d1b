/- Packets that came in, as what they read as; a packet that came in. -/
import Derived.Test.YtmeieokembjabaaNetSl
import Derived.Lib.SmallJoins
import Derived.Deep.Slices
import Derived.Deep.Strs
namespace Go.Proofs.Ytmeieokembjabaa
open Go.ChangeShapes Go.WideShapes Go.ChangeAt Go.RowKit
set_option linter.unusedVariables false

theorem open_by {H : Type} {enc : TypeId × Value → H} {w : World} {base n : Nat} {held : Bool} {v : Value} {y : DataW H × List MemPlace}
    (h : DataW.trod enc Try.prog w base (fun _ => true) held n 23 [v] = some y) : ∃ (a : Option Addr) (c : Nat) (l : List UInt8), v = .slice a l.length c ∧ Rd w a l.length c l ∧ (a = none → c = 0) := by
  rcases open_ints Try.underlying23 Try.underlying5 (by kernel_rfl) h with ⟨hcs, _⟩ | ⟨x, l, c, zs, hcs, _, hl, hm, hz, _, hcell, hwz⟩
  · cases hcs
    exact ⟨none, 0, [], rfl, Rd.zero _ _ _ (by decide), fun _ => rfl⟩
  · cases hcs
    obtain ⟨r, h⟩ := Rd.of_row (w := w) (zs := zs) (.inr ⟨_, rfl, hl, hm, by simpa using hz, hcell, hwz⟩)
    have e := h.len
    subst e
    exact ⟨some x, c, r, rfl, h, fun h => by cases h⟩
theorem open_pkc {H : Type} {enc : TypeId × Value → H} {w : World} {base n : Nat} {held : Bool} {v0 v1 v2 : Value} {y0 y1 y2 : DataW H × List MemPlace}
    (h0 : DataW.trod enc Try.prog w base (fun _ => true) held n 3 [v0] = some y0) (h1 : DataW.trod enc Try.prog w base (fun _ => true) held n 3 [v1] = some y1) (h2 : DataW.trod enc Try.prog w base (fun _ => true) held n 23 [v2] = some y2) :
    ∃ (p : Pk) (a : Option Addr) (c : Nat), v0 = .int .i64 p.fr ∧ v1 = .int .i64 p.to ∧ v2 = .slice a p.by_.length c ∧ Rd w a p.by_.length c p.by_ ∧ (a = none → c = 0) := by
  obtain ⟨f, e0, _, _⟩ := DataW.trod_int Try.underlying3 h0
  obtain ⟨t, e1, _, _⟩ := DataW.trod_int Try.underlying3 h1
  obtain ⟨a, c, l, rfl, hr, ha⟩ := open_by h2
  cases e0; cases e1
  exact ⟨⟨f, t, l⟩, a, c, rfl, rfl, rfl, hr, ha⟩
/-- A packet that came in. -/
theorem open_pk {H : Type} {enc : TypeId × Value → H} {w : World} {base b0 : Nat} {held : Bool} {r : Reach} {v : Value} {d : DataW H} {p : List MemPlace}
    (hv : Value.okWide Try.prog w r b0 25 v) (h : DataW.Trod enc Try.prog w base (fun _ => true) held 25 v d p) :
    ∃ (p : Pk) (a : Option Addr) (c : Nat), v = .agg #[.int .i64 p.fr, .int .i64 p.to, .slice a p.by_.length c] ∧ Rd w a p.by_.length c p.by_ ∧ (a = none → c = 0) := by
  obtain ⟨v0, v1, v2, y0, y1, y2, n, rfl, _, _, h0, h1, h2⟩ := Go.Joins.open_agg3 Try.underlying25 (by kernel_rfl) (by kernel_rfl) hv h
  obtain ⟨p, a, c, rfl, rfl, rfl, hr, ha⟩ := open_pkc h0 h1 h2
  exact ⟨p, a, c, rfl, hr, ha⟩
/-- Packets that came in. -/
theorem open_pks {H : Type} {enc : TypeId × Value → H} {w : World} {base : Nat} {held : Bool} {a : Option Addr} {n c : Nat} {d : DataW H} {p : List MemPlace}
    (h : DataW.Trod enc Try.prog w base (fun _ => true) held 22 (.slice a n c) d p) : ∃ ps, Pks w a n c ps := by
  obtain ⟨fuel, hf⟩ := h
  rcases Go.Deep.open_slice Try.underlying22 hf with ⟨hcs, _⟩ | ⟨x, l, cap, m, k, D, Pl, hcs, _, hl, hm, hmm, _, hx⟩
  · simp [Value.cells] at hcs
    obtain ⟨rfl, rfl, rfl⟩ := hcs
    exact ⟨[], rfl, Nat.le_refl _, by decide, fun _ => rfl, .inl rfl⟩
  · simp [Value.cells] at hcs
    obtain ⟨rfl, rfl, rfl⟩ := hcs
    simp only [if_true] at hmm
    subst hmm
    have hC : Try.prog.cellsOf 25 = 3 := by kernel_rfl
    rw [hC] at hx
    have each : ∀ i, i < m → ∃ q : Pk × Option Addr × Nat, w.cell? (x.add (i * 3)) = some (.int .i64 q.1.fr) ∧ w.cell? (x.add (i * 3 + 1)) = some (.int .i64 q.1.to) ∧ w.cell? (x.add (i * 3 + 2)) = some (.slice q.2.1 q.1.by_.length q.2.2) ∧ Rd w q.2.1 q.1.by_.length q.2.2 q.1.by_ ∧ (q.2.1 = none → q.2.2 = 0) := by
      intro i hi
      obtain ⟨cs, h1, h2⟩ := hx i hi
      obtain ⟨_, hlen, hcell⟩ := World.cells?_some h1
      match cs, hlen with
      | [v0, v1, v2], _ =>
        obtain ⟨y0, y1, y2, n', _, _, g0, g1, g2⟩ := Go.Deep.trod_struct3 Try.underlying25 h2
        obtain ⟨q, a', c', rfl, rfl, rfl, hr, ha⟩ := open_pkc (v0 := v0) (v1 := v1) (v2 := v2) g0 g1 g2
        have c0 := hcell 0 (by decide)
        have c1 := hcell 1 (by decide)
        have c2 := hcell 2 (by decide)
        rw [Go.Deep.add_add] at c0 c1 c2
        exact ⟨(q, a', c'), c0, c1, c2, hr, ha⟩
    have : Inhabited (Pk × Option Addr × Nat) := ⟨(noPk, none, 0)⟩
    obtain ⟨f, hf⟩ := Go.Deep.choose_lt (α := Pk × Option Addr × Nat) each
    refine ⟨(List.range n).map fun i => (f i).1, by simp, hl, Nat.le_trans hm (by unfold maxLen; decide), (fun h => by cases h), ?_⟩
    by_cases h0 : n = 0
    · exact .inl h0
    obtain ⟨b, off, spot⟩ := x
    have hc0 := (hf 0 (by omega)).1
    have hspot : spot = none := by simpa [Addr.add] using World.cell?_spot hc0
    subst hspot
    refine .inr ⟨b, off, rfl, fun i hi => ?_⟩
    obtain ⟨h1, h2, h3, h4, h5⟩ := hf i (by omega)
    have e : ((List.range n).map fun i => (f i).1).getD i noPk = (f i).1 := by
      rw [List.getD_eq_getElem?_getD, List.getElem?_map, List.getElem?_range hi]; rfl
    have hadd : ∀ j, (⟨b, off, none⟩ : Addr).add j = ⟨b, off + j, none⟩ := by intro j; unfold Addr.add; split <;> simp_all
    rw [hadd] at h1 h2 h3
    rw [e]
    exact ⟨(f i).2.1, (f i).2.2, h1, h2, h3, h4, h5⟩
end Go.Proofs.Ytmeieokembjabaa
