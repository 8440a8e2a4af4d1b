/- Packets of the call's own; the walk of own, of the layer net. -/
import Derived.Test.YtmeieokembjabaaNetPlain
import Derived.Deep.Cut
namespace Go.Proofs.Ytmeieokembjabaa
open Go.ChangeShapes Go.WideShapes Go.ChangeAt Go.RowKit
set_option linter.unusedVariables false

theorem info_pk : (Try.prog.info? 25).map (fun i => (i.zero, i.size, i.bytes)) = some (some (.agg #[.int .i64 0, .int .i64 0, .slice none 0 0]), 3, 40) := by kernel_rfl
/-- The cells of packets. -/
def pkC : List Value → List Pk → List Value
  | v :: vs, p :: ps => .int .i64 p.fr :: .int .i64 p.to :: v :: pkC vs ps
  | _, _ => []
theorem pkC_snoc : ∀ (vs : List Value) (ps : List Pk) (v : Value) (p : Pk), vs.length = ps.length → pkC (vs ++ [v]) (ps ++ [p]) = pkC vs ps ++ [.int .i64 p.fr, .int .i64 p.to, v]
  | [], [], v, p, _ => rfl
  | [], _ :: _, _, _, h => by simp at h
  | _ :: _, [], _, _, h => by simp at h
  | x :: vs, y :: ps, v, p, h => by
    simp only [List.cons_append, pkC]
    rw [pkC_snoc vs ps v p (by simpa using h)]
theorem pkC_at : ∀ (vs : List Value) (ps : List Pk) (i : Nat), vs.length = ps.length → i < ps.length →
    (pkC vs ps)[i * 3]? = some (.int .i64 (ps.getD i noPk).fr) ∧ (pkC vs ps)[i * 3 + 1]? = some (.int .i64 (ps.getD i noPk).to) ∧ (pkC vs ps)[i * 3 + 2]? = some (vs.getD i undef)
  | _, [], i, _, h => by simp at h
  | [], _ :: _, _, h, _ => by simp at h
  | v :: vs, p :: ps, 0, _, _ => ⟨rfl, rfl, rfl⟩
  | v :: vs, p :: ps, i + 1, h, hi => by
    have ih := pkC_at vs ps i (by simpa using h) (by simpa using hi)
    rw [show (i + 1) * 3 = i * 3 + 3 by omega]
    simpa [pkC] using ih
theorem ownsRow_low {w w' : World} {base size : Nat} {e : TypeId} {v : Value} {n : Nat} {xs : List Value} (h : w.ownsRow base e size v n xs) (hk : ∀ k, v.ownBlock = some k → w'.heap[k]? = w.heap[k]?) : w'.ownsRow base e size v n xs := by
  refine ⟨h.1, ?_⟩
  rcases h.2 with h2 | ⟨g, cap, cur, rfl, hg, hh, r⟩
  · exact .inl h2
  · exact .inr ⟨g, cap, cur, rfl, hg, by rw [hk g rfl]; exact hh, r⟩
theorem apart_pk {w : World} {base base' n m : Nat} {x v : Value} {ls xs : List Value} (h : w.ownsRow base 5 1 x n ls) (h' : w.ownsRow base' 25 3 v m xs) : x.ownBlock = none ∨ x.ownBlock ≠ v.ownBlock := by
  rcases h.2 with ⟨rfl, _⟩ | ⟨g, cap, cur, rfl, _, hg, _⟩
  · exact .inl rfl
  right
  rcases h'.2 with ⟨rfl, _⟩ | ⟨g', cap', cur', rfl, _, hg', _⟩
  · intro e; cases e
  · intro e
    injection e with e
    simp only at e
    subst e
    rw [hg] at hg'
    injection hg' with hg'
    injection hg' with _ h2 _
    exact absurd h2 (by decide)

/-- Packets of the call's own, each with bytes of its own. -/
structure OwnPk (w : World) (base : Nat) (v : Value) (vs : List Value) (ps : List Pk) : Prop where
  row : w.ownsRow base 25 3 v ps.length (pkC vs ps)
  num : vs.length = ps.length
  each : ∀ i, i < ps.length → w.ownsRow base 5 1 (vs.getD i undef) (ps.getD i noPk).by_.length ((ps.getD i noPk).by_.map B)
  apart : ∀ i j, i < j → j < ps.length → ∀ k, (vs.getD j undef).ownBlock = some k → (vs.getD i undef).ownBlock ≠ some k
theorem OwnPk.below {w w' : World} {base : Nat} {v : Value} {vs : List Value} {ps : List Pk} (h : OwnPk w base v vs ps) (hb : Below w.heap.size w w') : OwnPk w' base v vs ps :=
  ⟨ownsRow_low h.row fun k hk => hb.block k (h.row.lt k hk).2, h.num, fun i hi => ownsRow_below (h.each i hi) hb, h.apart⟩
theorem OwnPk.pks {w : World} {base : Nat} {v : Value} {vs : List Value} {ps : List Pk} (h : OwnPk w base v vs ps) : ∃ a c, v = .slice a ps.length c ∧ Pks w a ps.length c ps := by
  rcases h.row.2 with ⟨rfl, h0⟩ | ⟨g, cap, cur, rfl, hb, hg, hn, hc, hs, hx⟩
  · exact ⟨none, 0, by rw [h0], ⟨rfl, by omega, by decide, fun _ => rfl, .inl h0⟩⟩
  · refine ⟨some ⟨g, 0, none⟩, cap, rfl, rfl, hn, Nat.le_trans hc (by unfold maxLen; decide), (fun h => by cases h), .inr ⟨g, 0, rfl, fun i hi => ?_⟩⟩
    have h3 := h.each i hi
    obtain ⟨a', c', e, hr⟩ := Rd.of_own h3
    rw [e] at h3
    obtain ⟨e0, e1, e2⟩ := pkC_at vs ps i h.num hi
    have hcell : ∀ j x, (pkC vs ps)[j]? = some x → w.cell? ⟨g, 0 + j, none⟩ = some x := fun j x hj => by
      have := h.row.cells (g := g) rfl j x hj
      have hadd : (⟨g, 0, none⟩ : Addr).add j = ⟨g, 0 + j, none⟩ := by unfold Addr.add; split <;> simp_all
      rwa [hadd] at this
    exact ⟨a', c', hcell _ _ e0, by rw [Nat.add_assoc]; exact hcell _ _ e1, by rw [Nat.add_assoc, ← e]; exact hcell _ _ e2, hr, own_none h3⟩

/-- 'append(v, p)': v is the call's own. -/
theorem app_pk {w : World} {base : Nat} {v : Value} {n : Nat} {xs : List Value} (hown : w.ownsRow base 25 3 v n xs) (x y z : Value) (h1 : ∀ u ∈ [x, y, z], u.oneCell' = true) (hn : n ≤ 10000) (hbase : base ≤ w.heap.size) :
    ∃ v' w', (Builtin.append_ #[22, 22] 22 #[v, .slice (some ⟨w.heap.size, 0, none⟩) 1 1]).run Try.prog (w.alloc (.cells #[x, y, z] 25)) = .ok v' w' ∧
      w'.ownsRow base 25 3 v' (n + 1) (xs ++ [x, y, z]) ∧ (w.alloc (.cells #[x, y, z] 25)).grownBy w' v.ownBlock := by
  obtain ⟨i0, hi, hz0, hz1, hz2⟩ := info_parts info_pk
  obtain ⟨v', w', h1, h2, h3, _⟩ := run_append_own (P := Try.prog) (w.alloc (.cells #[x, y, z] 25)) base 22 22 25 i0 _ 3 40 Try.underlying22 hi hz0 hz1 hz2 rfl (by decide) v n xs (hown.alloc _) ⟨w.heap.size, 0, none⟩ 1 1 [x, y, z] rfl (by
    intro j u hu
    have hadd : (⟨w.heap.size, 0, none⟩ : Addr).add j = ⟨w.heap.size, j, none⟩ := by unfold Addr.add; split <;> simp_all
    rw [hadd]
    exact new_cell (by simpa using hu)) h1 (by unfold maxLen; omega) (by omega) (by rw [size_alloc']; omega)
  exact ⟨v', w', h1, h2, h3⟩

set_option maxRecDepth 100000 in
set_option maxHeartbeats 2000000 in
theorem own_any (a : Option Addr) (n c : Nat) (ps : List Pk) (w : World) (hr : Pks w a n c ps) (hn : n ≤ 1000) (hL : ∀ i, i < n → (ps.getD i noPk).by_.length ≤ 100000) : Calls Try.prog 22 #[.slice a n c] w fun e w' => ∃ v vs, e = .returned v ∧ OwnPk w' w.heap.size v vs ps ∧ Below w.heap.size w w' := by
  have HR := Lib.hid hr
  have HL := Lib.hid hL
  clear hr hL
  go_enter Try.func22, Try.ntmps22
  go_wp2_with fail
  go_loopw [3, 5, 8] (fun v3 v5 v8 wr => ∃ (i : Nat) (vs : List Value), i ≤ n ∧ v8 = .int .i64 (i : Int) ∧ Hid (OwnPk wr w.heap.size v3 vs (ps.take i)) ∧ Hid (Below w.heap.size w wr)) (fun _ _ v8 _ => n - (intOf v8).toNat)
  case atStart => exact ⟨0, [], Nat.zero_le _, rfl, Lib.hid ⟨⟨rfl, .inl ⟨rfl, rfl⟩⟩, rfl, fun i hi => by simp at hi, fun i j _ hj => by simp at hj⟩, Lib.hid (Below.refl _ _)⟩
  case round =>
    obtain ⟨i, vs, hi, rfl, hO, hB⟩ := hrel
    by_cases hin : i < n
    case neg =>
      obtain rfl : i = n := by omega
      have HE := Lib.hid (show OwnPk wr w.heap.size u3 vs ps by
        have := hO.out; rwa [List.take_of_length_le (by rw [HR.out.len]; exact Nat.le_refl _)] at this)
      clear hO
      go_wp2_with fail
      go_ret
      exact ⟨u3, vs, rfl, HE.out, hB.out⟩
    obtain ⟨b, off, e1, f1⟩ := ((HR.out.below hB.out).cells).resolve_left (by omega)
    subst e1
    obtain ⟨a', c', g0, g1, g2, g3, g4⟩ := f1 i hin
    obtain ⟨p, hp⟩ : ∃ p, p = ps.getD i noPk := ⟨_, rfl⟩
    have hpl := HL.out i hin
    rw [← hp] at g0 g1 g2 g3 hpl
    obtain ⟨L, hLL⟩ : ∃ L, L = p.by_.length := ⟨_, rfl⟩
    rw [← hLL] at g2 g3 hpl
    have HP := Lib.hid (show p = ps.getD i noPk ∧ L = p.by_.length from ⟨hp, hLL⟩)
    have H3 := Lib.hid (show Rd wr a' L c' p.by_ ∧ (a' = none → c' = 0) from ⟨g3, g4⟩)
    clear f1 hp hLL g3 g4
    go_upto_region 5 with fail
    generalize hw1 : wr.alloc (.cells _ _) = w1
    obtain ⟨b5, hb5⟩ : ∃ b5, b5 = wr.heap.size := ⟨_, rfl⟩
    have HC1 := Lib.hid (show Cel w1 b5 25 [.int .i64 p.fr, .int .i64 p.to, .slice a' L c'] by rw [← hw1, hb5]; exact Cel.new wr _ _)
    have HB1 := Lib.hid (show Below wr.heap.size wr w1 by rw [← hw1]; exact (Below.refl _ _).alloc (Nat.le_refl _) _)
    have HB5 := Lib.hid hb5
    rw [← hb5]
    clear hw1 hb5 g0 g1 g2
    have p0 : w1.cell? ⟨b5, 0, none⟩ = some (.int .i64 p.fr) := HC1.out.at 0 _ rfl
    have p1 : w1.cell? ⟨b5, 1, none⟩ = some (.int .i64 p.to) := HC1.out.at 1 _ rfl
    have p2 : w1.cell? ⟨b5, 2, none⟩ = some (.slice a' L c') := HC1.out.at 2 _ rfl
    go_wp2_with fail
    refine (clone_any a' L c' p.by_ w1 (H3.out.1.below HB1.out) H3.out.2 (by omega)).mono ?_
    rintro e w2 ⟨v2, rfl, ho2, hb⟩
    rw [← HP.out.2] at ho2
    obtain ⟨a2, c2, rfl, _⟩ := Rd.of_own ho2
    have hC2 := HC1.out.step hb
    clear p0 p1 p2
    have p2 : w2.cell? ⟨b5, 2, none⟩ = some (.slice a' L c') := hC2.at 2 _ rfl
    have f2 : w2.frozen? ⟨b5, 2, none⟩ = false := hC2.free 2
    have HC2 := Lib.hid hC2
    have HO2 := Lib.hid ho2
    have HB2 := Lib.hid hb
    clear hC2 ho2 hb
    go_upto_region 6 with fail
    generalize hw3 : w2.setCell _ _ = w3
    have HC3 := Lib.hid (show Cel w3 b5 25 [.int .i64 p.fr, .int .i64 p.to, .slice a2 L c2] by rw [← hw3]; exact HC2.out.set 2 _)
    have ho3 : Only w2 w3 b5 := by rw [← hw3]; exact only_set _ _ _ _
    have hb13 : Below wr.heap.size wr w3 := ho3.below ((HB1.out.step HB2.out)) (by rw [HB5.out]; exact Nat.le_refl _)
    have hO3 : w3.ownsRow w1.heap.size 5 1 (.slice a2 L c2) L (p.by_.map B) := ownsRow_low HO2.out fun k hk => ho3.block k (by
      have h1 := (HO2.out.lt k hk).1
      have h2 := HC1.out.lt
      omega)
    have hOw := hO.out
    obtain ⟨v5, w5, hrun, hown, hg⟩ := app_pk (ownsRow_low hOw.row fun k hk => hb13.block k (hOw.row.lt k hk).2) (.int .i64 p.fr) (.int .i64 p.to) (.slice a2 L c2) (by intro u hu; simp at hu; rcases hu with rfl | rfl | rfl <;> rfl) (by rw [List.length_take]; omega) (Nat.le_trans hB.out.size hb13.size)
    have HRUN := Lib.hid hrun
    obtain ⟨w4, hw4⟩ : ∃ w4, w4 = w3.alloc (.cells #[.int .i64 p.fr, .int .i64 p.to, .slice a2 L c2] 25) := ⟨_, rfl⟩
    have hb34 : Below w3.heap.size w3 w4 := by rw [hw4]; exact (Below.refl _ _).alloc (Nat.le_refl _) _
    rw [← hw4] at hg
    have hrow4 : w4.ownsRow w.heap.size 25 3 u3 (ps.take i).length (pkC vs (ps.take i)) := ownsRow_low hOw.row fun k hk => (hb34.block k (by have := (hOw.row.lt k hk).2; have := hb13.size; omega)).trans (hb13.block k (hOw.row.lt k hk).2)
    have htake : ps.take (i + 1) = ps.take i ++ [p] := by
      rw [List.take_add_one, HP.out.1, List.getD_eq_getElem?_getD, List.getElem?_eq_getElem (by rw [HR.out.len]; exact hin)]; rfl
    have hlt : (ps.take i).length = i := by rw [List.length_take, HR.out.len]; omega
    have hvl : vs.length = i := by rw [hOw.num, hlt]
    have HN := Lib.hid (show OwnPk w5 w.heap.size v5 (vs ++ [.slice a2 L c2]) (ps.take (i + 1)) by
      rw [htake]
      refine ⟨by rw [pkC_snoc _ _ _ _ hOw.num, List.length_append]; exact hown, by simp [hOw.num], fun j hj => ?_, fun j k hjk hk m hm => ?_⟩
      · rw [List.length_append, hlt] at hj
        by_cases e : j < i
        · have h1 := hOw.each j (by rw [hlt]; exact e)
          have h2 : w4.ownsRow w.heap.size 5 1 (vs.getD j undef) _ _ := ownsRow_below (ownsRow_below h1 hb13) hb34
          have e1 : (vs ++ [Value.slice a2 L c2]).getD j undef = vs.getD j undef := by rw [List.getD_eq_getElem?_getD, List.getElem?_append_left (by omega), ← List.getD_eq_getElem?_getD]
          have e2 : (ps.take i ++ [p]).getD j noPk = (ps.take i).getD j noPk := by rw [List.getD_eq_getElem?_getD, List.getElem?_append_left (by omega), ← List.getD_eq_getElem?_getD]
          rw [e1, e2]
          exact h2.kept hg (apart_pk h2 hrow4)
        · obtain rfl : j = i := by simp at hj; omega
          have e1 : (vs ++ [Value.slice a2 L c2]).getD j undef = .slice a2 L c2 := by rw [List.getD_eq_getElem?_getD, List.getElem?_append_right (by omega), hvl]; simp
          have e2 : (ps.take j ++ [p]).getD j noPk = p := by rw [List.getD_eq_getElem?_getD, List.getElem?_append_right (by omega), hlt]; simp
          rw [e1, e2, ← HP.out.2]
          have h2 : w4.ownsRow w.heap.size 5 1 (.slice a2 L c2) L (p.by_.map B) := ownsRow_mono (ownsRow_below hO3 hb34) (Nat.le_trans hB.out.size HB1.out.size)
          exact h2.kept hg (apart_pk h2 hrow4)
      · rw [List.length_append, hlt] at hk
        have e1 : (vs ++ [Value.slice a2 L c2]).getD j undef = vs.getD j undef := by rw [List.getD_eq_getElem?_getD, List.getElem?_append_left (by simp at hk; omega), ← List.getD_eq_getElem?_getD]
        rw [e1]
        by_cases e : k < i
        · have e2 : (vs ++ [Value.slice a2 L c2]).getD k undef = vs.getD k undef := by rw [List.getD_eq_getElem?_getD, List.getElem?_append_left (by omega), ← List.getD_eq_getElem?_getD]
          rw [e2] at hm
          exact hOw.apart j k hjk (by rw [hlt]; exact e) m hm
        · obtain rfl : k = i := by simp at hk; omega
          have e2 : (vs ++ [Value.slice a2 L c2]).getD k undef = .slice a2 L c2 := by rw [List.getD_eq_getElem?_getD, List.getElem?_append_right (by omega), hvl]; simp
          rw [e2] at hm
          intro h3
          have h4 := (HO2.out.lt m hm).1
          have h5 := ((hOw.each j (by rw [hlt]; exact hjk)).lt m h3).2
          have h6 := HB1.out.size
          omega)
    have HB6 := Lib.hid (show Below w.heap.size w w5 from ((hB.out.trans (hb13.mono hB.out.size)).trans (hb34.mono (Nat.le_trans hB.out.size hb13.size))).grown hg (Nat.le_trans hB.out.size (Nat.le_trans hb13.size hb34.size)) (fun k hk => (hrow4.lt k hk).1))
    clear hw3 ho3 hb13 hO3 hOw hrun hown hw4 hb34 hg hrow4 htake hlt hvl p2 f2
    have p0 : w3.cell? ⟨b5, 0, none⟩ = some (.int .i64 p.fr) := HC3.out.at 0 _ rfl
    have p1 : w3.cell? ⟨b5, 1, none⟩ = some (.int .i64 p.to) := HC3.out.at 1 _ rfl
    have p2 : w3.cell? ⟨b5, 2, none⟩ = some (.slice a2 L c2) := HC3.out.at 2 _ rfl
    go_wp2_with (at_builtin; refine Lib.wpList_append_run _ rfl _ _ _ _ rfl _ _ rfl rfl _ _ HRUN.out ?_)
    refine ⟨⟨i + 1, _, by omega, rfl, HN, HB6⟩, ?_⟩
    simp [intOf]; omega
end Go.Proofs.Ytmeieokembjabaa
