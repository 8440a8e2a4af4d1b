/- A message that came in: its parts. -/
import Derived.Test.YtofadpodlaakbaaGreatMsgMay
import Derived.Test.YtofadpodlaakbaaGreatCmOpen
namespace Go.Proofs.YtofadpodlaakbaaGreat
open Go.ChangeShapes Go.WideShapes Go.ChangeAt Go.RowKit
set_option linter.unusedVariables false

set_option maxRecDepth 100000 in
theorem open_cms {H : Type} {enc : TypeId × Value → H} {w : World} {base n : Nat} {held : Bool} {v : Value} {y : DataW H × List MemPlace}
    (h : DataW.trod enc Tryz.prog w base (fun _ => true) held n 23 [v] = some y) : ∃ (a : Option Addr) (c : Nat) (l : List Cmt), v = .slice a l.length c ∧ Cms w a l.length c l := by
  rcases Go.Deep.open_slice Tryz.underlying23 h with ⟨hcs, _⟩ | ⟨x, l, cap, m, k, D, Pl, hcs, _, hl, hm, hmm, _, hx⟩
  · cases hcs
    exact ⟨none, 0, [], rfl, Cms.nil w⟩
  · cases hcs
    simp only [if_true] at hmm
    subst hmm
    have hC : Tryz.prog.cellsOf 41 = 8 := by kernel_rfl
    rw [hC] at hx
    have each : ∀ i, i < m → ∃ q : Cmt × (Option Addr × Nat), CmR w q.1 q.2.1 q.2.2 ∧ ∀ j, j < 8 → w.cell? (x.add (i * 8 + j)) = (q.1.cs q.2.1 q.2.2)[j]? := by
      intro i hi
      obtain ⟨cs, h1, h2⟩ := hx i hi
      obtain ⟨_, hlen, hcell⟩ := World.cells?_some h1
      obtain ⟨c, a, cp, rfl, hr⟩ := open_cmc h2
      refine ⟨⟨c, a, cp⟩, hr, fun j hj => ?_⟩
      have c0 := hcell j hj
      rw [Go.Deep.add_add] at c0
      rw [c0]
    haveI : Inhabited (Cmt × (Option Addr × Nat)) := ⟨(noC, (none, 0))⟩
    obtain ⟨f, hf⟩ := Go.Deep.choose_lt (α := Cmt × (Option Addr × Nat)) each
    have hlen : ((List.range l).map fun i => (f i).1).length = l := by simp
    refine ⟨some x, m, (List.range l).map fun i => (f i).1, by rw [hlen], ?_⟩
    rw [hlen]
    refine ⟨hlen, hl, Nat.le_trans hm (by unfold maxLen; decide), (fun h => by cases h), ?_⟩
    by_cases h0 : l = 0
    · exact .inl h0
    obtain ⟨b, off, spot⟩ := x
    have hc0 := (hf 0 (by omega)).2 0 (by decide)
    have hz : ((f 0).1.cs (f 0).2.1 (f 0).2.2)[0]? = some (.int .i64 (f 0).1.node) := rfl
    rw [hz] at hc0
    have hspot : spot = none := by simpa [Addr.add] using World.cell?_spot hc0
    subst hspot
    refine .inr ⟨b, off, rfl, fun i hi => ?_⟩
    obtain ⟨h1, h2⟩ := hf i (by omega)
    have e : ((List.range l).map fun i => (f i).1).getD i noC = (f i).1 := by
      rw [List.getD_eq_getElem?_getD, List.getElem?_map, List.getElem?_range hi]; rfl
    have hadd : ∀ j, (⟨b, off, none⟩ : Addr).add j = ⟨b, off + j, none⟩ := by intro j; unfold Addr.add; split <;> simp_all
    rw [e]
    refine ⟨(f i).2.1, (f i).2.2, fun j v hj => ?_, h1⟩
    have hj8 : j < 8 := (List.getElem?_eq_some_iff.1 hj).1
    have := h2 j hj8
    rw [hadd, hj] at this
    rw [← this]
    congr 2
    omega
theorem list3 {α : Type} {cs : List α} (h : cs.length = 3) : ∃ c0 c1 c2, cs = [c0, c1, c2] := by
  match cs, h with
  | [c0, c1, c2], _ => exact ⟨c0, c1, c2, rfl⟩
set_option maxRecDepth 100000 in
/-- A message that came in. -/
theorem open_msg {H : Type} {enc : TypeId × Value → H} {w : World} {base b0 : Nat} {held : Bool} {r : Reach} {v : Value} {d : DataW H} {p : List MemPlace}
    (hv : Value.okWide Tryz.prog w r b0 25 v) (h : DataW.Trod enc Tryz.prog w base (fun _ => true) held 25 v d p) :
    ∃ (m : Msg) (ai : Option Addr) (ci : Nat) (ac : Option Addr) (cc : Nat), v = m.val ai ci ac cc ∧ MsgR w m ai ci ac cc := by
  obtain ⟨cs, rfl, hsz⟩ := okWide_struct Tryz.underlying25 hv
  obtain ⟨fuel, hf⟩ := h
  have hC : Tryz.prog.cellsOf 25 = 3 := by kernel_rfl
  have hI : Tryz.prog.cellsOf 3 = 1 := by kernel_rfl
  have hP : Tryz.prog.cellsOf 22 = 1 := by kernel_rfl
  have hQ : Tryz.prog.cellsOf 23 = 1 := by kernel_rfl
  obtain ⟨y0, y1, y2, n1, _, hl, h0, h1, h2⟩ := Go.Deep.trod_struct3 Tryz.underlying25 hf
  rw [hC] at hl
  obtain ⟨c0, c1, c2, e⟩ := list3 hl
  rw [e] at h0 h1 h2
  simp only [hI, hP, hQ, List.drop_succ_cons, List.drop_zero, List.take_succ_cons, List.take_zero] at h0 h1 h2
  obtain ⟨x0, e0, _, _⟩ := DataW.trod_int Tryz.underlying3 h0
  obtain ⟨a1, k1, l1, e1, hids⟩ := open_ids h1
  obtain ⟨a2, k2, l2, e2, hcms⟩ := open_cms h2
  cases e0
  subst e1 e2
  refine ⟨⟨x0, l1, l2⟩, a1, k1, a2, k2, ?_, hids, hcms⟩
  unfold Msg.val Msg.cs
  have e3 : cs = [Value.int .i64 x0, .slice a1 l1.length k1, .slice a2 l2.length k2].toArray := by
    have h3 : cs.toList = [Value.int .i64 x0, .slice a1 l1.length k1, .slice a2 l2.length k2] := e
    rw [← h3]
  rw [e3]
end Go.Proofs.YtofadpodlaakbaaGreat
