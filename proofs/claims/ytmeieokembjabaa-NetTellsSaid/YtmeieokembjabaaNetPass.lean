/- The walk of Pass, of the layer net. -/
import Derived.Test.YtmeieokembjabaaNetTwice
import Derived.ScopeJumps
import Derived.WalkMore
namespace Go.Proofs.Ytmeieokembjabaa
open Go.ChangeShapes Go.WideShapes Go.ChangeAt Go.RowKit
set_option linter.unusedVariables false

/-- But for block b nothing of what was there has changed. -/
structure PastN (w w' : World) (b : Nat) : Prop where
  os : w'.os = w.os
  tape : w'.tape = w.tape
  output : w'.output = w.output
  size : w.heap.size ≤ w'.heap.size
  block : ∀ k, k < w.heap.size → k ≠ b → w'.heap[k]? = w.heap[k]?
theorem PastN.refl (w : World) (b : Nat) : PastN w w b := ⟨rfl, rfl, rfl, Nat.le_refl _, fun _ _ _ => rfl⟩
theorem PastN.step {w w' w'' : World} {b : Nat} (h : PastN w w' b) (hb : Below w'.heap.size w' w'') : PastN w w'' b :=
  ⟨hb.os.trans h.os, hb.tape.trans h.tape, hb.output.trans h.output, Nat.le_trans h.size hb.size, fun k hk hne => (hb.block k (Nat.lt_of_lt_of_le hk h.size)).trans (h.block k hk hne)⟩
theorem PastN.only {w w' w'' : World} {b : Nat} (h : PastN w w' b) (ho : Only w' w'' b) : PastN w w'' b :=
  ⟨ho.os.trans h.os, ho.tape.trans h.tape, ho.output.trans h.output, by rw [ho.size]; exact h.size, fun k hk hne => (ho.block k hne).trans (h.block k hk hne)⟩
theorem PastN.grown {w w' w'' : World} {b : Nat} {row : Option Nat} (h : PastN w w' b) (hg : w'.grownBy w'' row) (hr : ∀ k, row = some k → w.heap.size ≤ k) : PastN w w'' b := by
  obtain ⟨h1, h2, h3, h4, h5⟩ := hg
  exact ⟨h1.trans h.os, h2.trans h.tape, h3.trans h.output, Nat.le_trans h.size h4, fun k hk hne => (h5 k (Nat.lt_of_lt_of_le hk h.size) (by
    intro e
    have := hr k e.symm
    omega)).trans (h.block k hk hne)⟩
theorem PastN.below {w0 w w' : World} {b : Nat} (h : PastN w w' b) (hb : Below w0.heap.size w0 w) (hlo : w0.heap.size ≤ b) : Below w0.heap.size w0 w' :=
  ⟨h.os.trans hb.os, h.tape.trans hb.tape, h.output.trans hb.output, Nat.le_trans hb.size h.size, fun k hk => (h.block k (Nat.lt_of_lt_of_le hk hb.size) (by omega)).trans (hb.block k hk)⟩
theorem OwnPk.past {w w' : World} {base b : Nat} {v : Value} {vs : List Value} {ps : List Pk} (h : OwnPk w base v vs ps) (hp : PastN w w' b) (hb : b < base) : OwnPk w' base v vs ps :=
  ⟨ownsRow_low h.row fun k hk => hp.block k (h.row.lt k hk).2 (by have := (h.row.lt k hk).1; omega), h.num, fun i hi => ownsRow_low (h.each i hi) fun k hk => hp.block k ((h.each i hi).lt k hk).2 (by have := ((h.each i hi).lt k hk).1; omega), h.apart⟩
/-- The items but the i-th, of the first k. -/
def eraK {α : Type} (l : List α) (i : Int) (k : Nat) : List α := if 0 ≤ i ∧ i < (k : Int) then (l.take k).eraseIdx i.toNat else l.take k
theorem eraK_on {α : Type} {l : List α} {i : Int} {k : Nat} (d : α) (hk : k < l.length) (h : (k : Int) ≠ i) : eraK l i (k + 1) = eraK l i k ++ [l.getD k d] := by
  have ht : l.take (k + 1) = l.take k ++ [l.getD k d] := by rw [List.take_add_one, List.getD_eq_getElem?_getD, List.getElem?_eq_getElem hk]; rfl
  unfold eraK
  by_cases h1 : 0 ≤ i ∧ i < (k : Int)
  · rw [if_pos h1, if_pos (by omega), ht, List.eraseIdx_append_of_lt_length (by rw [List.length_take]; omega)]
  · rw [if_neg h1, if_neg (by omega), ht]
theorem eraK_at {α : Type} {l : List α} {k : Nat} (d : α) (hk : k < l.length) : eraK l (k : Int) (k + 1) = eraK l (k : Int) k := by
  have ht : l.take (k + 1) = l.take k ++ [l.getD k d] := by rw [List.take_add_one, List.getD_eq_getElem?_getD, List.getElem?_eq_getElem hk]; rfl
  unfold eraK
  rw [if_pos (by omega), if_neg (by omega), ht]
  have hl : (l.take k).length = k := by rw [List.length_take]; omega
  rw [Int.toNat_natCast, List.eraseIdx_append_of_length_le (by omega), hl]
  simp
theorem eraK_length {α β : Type} {l : List α} {m : List β} (h : l.length = m.length) (i : Int) (k : Nat) : (eraK l i k).length = (eraK m i k).length := by
  unfold eraK
  split
  · rw [List.length_eraseIdx, List.length_eraseIdx, List.length_take, List.length_take, h]
  · rw [List.length_take, List.length_take, h]
theorem eraK_le {α : Type} (l : List α) (i : Int) (k : Nat) : (eraK l i k).length ≤ l.length := by
  unfold eraK
  split
  · rw [List.length_eraseIdx, List.length_take]; split <;> omega
  · rw [List.length_take]; omega
theorem eraK_all (ps : List Pk) (i : Int) : eraK ps i ps.length = passP ps i := by
  unfold eraK passP hasP
  rw [List.take_of_length_le (Nat.le_refl _)]
  by_cases h : 0 ≤ i ∧ i < (ps.length : Int)
  · rw [if_pos h, if_pos (by simp [h.1, h.2])]
  · rw [if_neg h, if_neg (by simp only [Bool.and_eq_true, decide_eq_true_eq]; exact h)]
theorem Vals.erase {w : World} {vs : List Value} {ps : List Pk} (h : Vals w vs ps) (i : Int) : Vals w (eraK vs i ps.length) (eraK ps i ps.length) := by
  refine ⟨eraK_length h.1 i _, fun j hj => ?_⟩
  unfold eraK at hj ⊢
  rw [List.take_of_length_le (Nat.le_of_eq h.1), List.take_of_length_le (Nat.le_refl _)] at *
  by_cases hi : 0 ≤ i ∧ i < (ps.length : Int)
  · rw [if_pos hi] at hj
    rw [if_pos hi, if_pos hi]
    rw [List.length_eraseIdx] at hj
    by_cases hji : j < i.toNat
    · have e1 : (vs.eraseIdx i.toNat).getD j undef = vs.getD j undef := by rw [List.getD_eq_getElem?_getD, List.getElem?_eraseIdx_of_lt hji, ← List.getD_eq_getElem?_getD]
      have e2 : (ps.eraseIdx i.toNat).getD j noPk = ps.getD j noPk := by rw [List.getD_eq_getElem?_getD, List.getElem?_eraseIdx_of_lt hji, ← List.getD_eq_getElem?_getD]
      rw [e1, e2]; exact h.2 j (by omega)
    · have e1 : (vs.eraseIdx i.toNat).getD j undef = vs.getD (j + 1) undef := by rw [List.getD_eq_getElem?_getD, List.getElem?_eraseIdx_of_ge (by omega), ← List.getD_eq_getElem?_getD]
      have e2 : (ps.eraseIdx i.toNat).getD j noPk = ps.getD (j + 1) noPk := by rw [List.getD_eq_getElem?_getD, List.getElem?_eraseIdx_of_ge (by omega), ← List.getD_eq_getElem?_getD]
      rw [e1, e2]; exact h.2 (j + 1) (by split at hj <;> omega)
  · rw [if_neg hi] at hj
    rw [if_neg hi, if_neg hi]
    exact h.2 j hj
theorem OwnPk.vals {w : World} {base : Nat} {v : Value} {vs : List Value} {ps : List Pk} (h : OwnPk w base v vs ps) : Vals w vs ps := ⟨h.num, fun i hi => by
  have h3 := h.each i hi
  obtain ⟨a', c', e, hr⟩ := Rd.of_own h3
  rw [e] at h3
  exact ⟨a', c', e, hr, own_none h3⟩⟩
theorem OwnPk.get {w : World} {base n c : Nat} {a : Option Addr} {vs : List Value} {ps : List Pk} (h : OwnPk w base (.slice a n c) vs ps) (i : Nat) (hi : i < ps.length) : ∃ g x cx, a = some ⟨g, 0, none⟩ ∧ vs.getD i undef = .slice x (ps.getD i noPk).by_.length cx ∧
    w.cell? ⟨g, 0 + i * 3, none⟩ = some (.int .i64 (ps.getD i noPk).fr) ∧ w.cell? ⟨g, 0 + i * 3 + 1, none⟩ = some (.int .i64 (ps.getD i noPk).to) ∧ w.cell? ⟨g, 0 + i * 3 + 2, none⟩ = some (.slice x (ps.getD i noPk).by_.length cx) := by
  obtain ⟨a', c', e, _, _⟩ := h.vals.2 i hi
  obtain ⟨e0, e1, e2⟩ := pkC_at vs ps i h.num hi
  rcases h.row.2 with ⟨_, h0⟩ | ⟨g, cap, cur, hv, hb, hg, hn, hc, hs, hx⟩
  · omega
  · have ha : a = some ⟨g, 0, none⟩ := by injection hv
    subst ha
    have hcell : ∀ j x, (pkC vs ps)[j]? = some x → w.cell? ⟨g, 0 + j, none⟩ = some x := fun j x hj => by
      have := h.row.cells (g := g) rfl j x hj
      have hadd : (⟨g, 0, none⟩ : Addr).add j = ⟨g, 0 + j, none⟩ := by unfold Addr.add; split <;> simp_all
      rwa [hadd] at this
    exact ⟨g, a', c', rfl, e, hcell _ _ e0, by rw [Nat.add_assoc]; exact hcell _ _ e1, by rw [Nat.add_assoc, ← e]; exact hcell _ _ e2⟩
theorem Pks.of_row {w : World} {base : Nat} {v : Value} {vs : List Value} {ps : List Pk} (h : w.ownsRow base 25 3 v ps.length (pkC vs ps)) (hv : Vals w vs ps) : ∃ a c, v = .slice a ps.length c ∧ Pks w a ps.length c ps := by
  rcases h.2 with ⟨rfl, h0⟩ | ⟨g, cap, cur, rfl, hb, hg, hn, hc, hs, hx⟩
  · exact ⟨none, 0, by rw [h0], ⟨rfl, by omega, by decide, fun _ => rfl, .inl h0⟩⟩
  · refine ⟨some ⟨g, 0, none⟩, cap, rfl, Pks.of_cells hv (fun j x hj => ?_) hn (Nat.le_trans hc (by unfold maxLen; decide))⟩
    have := h.cells (g := g) rfl j x hj
    have hadd : (⟨g, 0, none⟩ : Addr).add j = ⟨g, 0 + j, none⟩ := by unfold Addr.add; split <;> simp_all
    rwa [hadd] at this
/-- What Pass hands back. -/
def PassP (ps : List Pk) (i : Int) (w : World) (e : Ending) (w' : World) : Prop :=
  ∃ x cx a c, e = .returned (.tuple #[.agg #[.int .i64 (outP ps i).fr, .int .i64 (outP ps i).to, .slice x (outP ps i).by_.length cx], .slice a (passP ps i).length c, .bool (hasP ps i)]) ∧
    Rd w' x (outP ps i).by_.length cx (outP ps i).by_ ∧ (x = none → cx = 0) ∧ Pks w' a (passP ps i).length c (passP ps i) ∧ Below w.heap.size w w'
/-- The cells of what has passed. -/
def outC (vs : List Value) (ps : List Pk) (i : Int) (k : Nat) : List Value := if 0 ≤ i ∧ i < (k : Int) then [.int .i64 (ps.getD i.toNat noPk).fr, .int .i64 (ps.getD i.toNat noPk).to, vs.getD i.toNat undef] else [.int .i64 0, .int .i64 0, .slice none 0 0]

set_option maxRecDepth 100000 in
set_option maxHeartbeats 4000000 in
theorem pass_any (a : Option Addr) (n c : Nat) (ps : List Pk) (i : Int) (w : World) (hr : Pks w a n c ps) (hn : n ≤ 500) (hL : ∀ i, i < n → (ps.getD i noPk).by_.length ≤ 100000) :
    Calls Try.prog 14 #[.slice a n c, .int .i64 i] w (PassP ps i w) := by
  have HR := Lib.hid hr
  have HL := Lib.hid hL
  clear hr hL
  go_enter Try.func14, Try.ntmps14
  go_upto_region 1 with fail
  obtain ⟨b4, hb4⟩ : ∃ b4, b4 = w.heap.size := ⟨_, rfl⟩
  have hC0 := Cel.new w 25 [.int .i64 0, .int .i64 0, .slice none 0 0]
  rw [← hb4] at hC0 ⊢
  generalize hw1 : w.alloc (.cells _ _) = w1
  have HC1 := Lib.hid (show Cel w1 b4 25 [.int .i64 0, .int .i64 0, .slice none 0 0] by rw [← hw1]; exact hC0)
  have HB1 := Lib.hid (show Below w.heap.size w w1 by rw [← hw1]; exact (Below.refl _ _).alloc (Nat.le_refl _) _)
  have HLO := Lib.hid (show w.heap.size ≤ b4 from Nat.le_of_eq hb4.symm)
  clear hC0 hw1 hb4
  refine wp_scope_straight ?_
  go_wp2_with fail
  refine (own_any a n c ps w1 (HR.out.below HB1.out) (by omega) HL.out).mono ?_
  rintro e w2 ⟨v, vs, rfl, ho, hb⟩
  obtain ⟨a2, c2, rfl, hk⟩ := ho.pks
  have hlen := HR.out.len
  rw [hlen] at ho hk ⊢
  have HO := Lib.hid ho
  have HC2 := Lib.hid (HC1.out.step hb)
  have HB2 := Lib.hid (HB1.out.step hb)
  have HLT := Lib.hid (show b4 < w1.heap.size from HC1.out.lt)
  have HNV := Lib.hid (show vs.length = n ∧ ps.length = n from ⟨by rw [ho.num, hlen], hlen⟩)
  clear ho hk hb hlen HC1 HB1
  go_wp2_with fail
  apply wp_label
  go_wp2_with fail
  go_loopw [5, 6, 7, 12] (fun v5 v6 v7 v12 wr => ∃ k : Nat, k ≤ n ∧ v6 = .bool (decide (0 ≤ i ∧ i < (k : Int))) ∧ v12 = .int .i64 (k : Int) ∧ Hid (wr.ownsRow w2.heap.size 25 3 v5 (eraK ps i k).length (pkC (eraK vs i k) (eraK ps i k))) ∧ Hid (Cel wr b4 25 (outC vs ps i k)) ∧ Hid (PastN w2 wr b4)) (fun _ _ _ v12 _ => n - (intOf v12).toNat)
  case atStart =>
    refine ⟨0, Nat.zero_le _, by rw [decide_eq_false (by omega)], rfl, Lib.hid ?_, Lib.hid ?_, Lib.hid (PastN.refl _ _)⟩
    · have e1 : eraK ps i 0 = [] := by unfold eraK; rw [if_neg (by omega)]; rfl
      have e2 : eraK vs i 0 = [] := by unfold eraK; rw [if_neg (by omega)]; rfl
      rw [e1, e2]
      exact World.ownsRow_nil _ _ _ _
    · unfold outC; rw [if_neg (by omega)]; exact HC2.out
  case round =>
    obtain ⟨k, hk, rfl, rfl, hRow, hC, hP⟩ := hrel
    by_cases hkn : k < n
    case neg =>
      obtain rfl : k = n := by omega
      obtain ⟨o, ho⟩ : ∃ o, o = outP ps i := ⟨_, rfl⟩
      obtain ⟨x, cx, hx1, hx2⟩ : ∃ x cx, outC vs ps i k = [.int .i64 o.fr, .int .i64 o.to, .slice x o.by_.length cx] ∧ ∀ w', OwnPk w' w1.heap.size (.slice a2 k c2) vs ps → Rd w' x o.by_.length cx o.by_ ∧ (x = none → cx = 0) := by
        by_cases h : 0 ≤ i ∧ i < (k : Int)
        · have e1 : o = ps.getD i.toNat noPk := by rw [ho]; unfold outP hasP; rw [HNV.out.2, if_pos (by simp [h.1, h.2])]
          obtain ⟨x, cx, ev, _⟩ := HO.out.vals.2 i.toNat (by rw [HNV.out.2]; omega)
          refine ⟨x, cx, by unfold outC; rw [if_pos h, ev, e1], fun w' hw => ?_⟩
          obtain ⟨x', cx', ev', hr, hx⟩ := hw.vals.2 i.toNat (by rw [HNV.out.2]; omega)
          rw [ev] at ev'
          injection ev' with q1 q2 q3
          subst q1 q3
          rw [e1]; exact ⟨hr, hx⟩
        · have e1 : o = noPk := by rw [ho]; unfold outP hasP; rw [HNV.out.2, if_neg (by simp only [Bool.and_eq_true, decide_eq_true_eq]; exact h)]
          exact ⟨none, 0, by unfold outC; rw [if_neg h, e1]; rfl, fun w' _ => by rw [e1]; exact ⟨Rd.zero _ _ _ (by decide), fun _ => rfl⟩⟩
      have hCx := hC.out
      rw [hx1] at hCx
      have p0 : wr.cell? ⟨b4, 0, none⟩ = some (.int .i64 o.fr) := hCx.at 0 _ rfl
      have p1 : wr.cell? ⟨b4, 1, none⟩ = some (.int .i64 o.to) := hCx.at 1 _ rfl
      have p2 : wr.cell? ⟨b4, 2, none⟩ = some (.slice x o.by_.length cx) := hCx.at 2 _ rfl
      have f0 : wr.frozen? ⟨b4, 0, none⟩ = false := hCx.free 0
      have f1 : wr.frozen? ⟨b4, 1, none⟩ = false := hCx.free 1
      have f2 : wr.frozen? ⟨b4, 2, none⟩ = false := hCx.free 2
      obtain ⟨L, hLL⟩ : ∃ L, L = o.by_.length := ⟨_, rfl⟩
      rw [← hLL] at p2 hCx
      have HX := Lib.hid (show o = outP ps i ∧ L = o.by_.length ∧ decide (0 ≤ i ∧ i < (k : Int)) = hasP ps i from ⟨ho, hLL, by unfold hasP; rw [HNV.out.2]; by_cases h : 0 ≤ i <;> by_cases h' : i < (k : Int) <;> simp [h, h']⟩)
      have HX2 := Lib.hid hx2
      have HCX := Lib.hid hCx
      obtain ⟨ib, hib⟩ : ∃ ib, ib = decide (0 ≤ i ∧ i < (k : Int)) := ⟨_, rfl⟩
      rw [← hib]
      have HIB := Lib.hid hib
      clear ho hx1 hx2 hLL hCx hib hC
      go_wp2_with fail
      generalize hwF : World.setCell (World.setCell (World.setCell wr _ _) _ _) _ _ = wF
      have hoF : Only wr wF b4 := by rw [← hwF]; exact ((only_set _ _ _ _).trans (only_set _ _ _ _)).trans (only_set _ _ _ _)
      have HCF := Lib.hid (show Cel wF b4 25 [.int .i64 o.fr, .int .i64 o.to, .slice x L cx] by rw [← hwF]; exact ((HCX.out.set 0 _).set 1 _).set 2 _)
      have hOF := HO.out.past (hP.out.only hoF) HLT.out
      have hrow : wF.ownsRow w2.heap.size 25 3 u5 (eraK ps i k).length (pkC (eraK vs i k) (eraK ps i k)) := ownsRow_low hRow.out fun m hm => hoF.block m (by
        have h1 := (hRow.out.lt m hm).1
        have h2 := HC2.out.lt
        omega)
      have hvv := hOF.vals.erase i
      rw [HNV.out.2] at hvv
      obtain ⟨a5, c5, rfl, hpk⟩ := Pks.of_row hrow hvv
      have hall : eraK ps i k = passP ps i := by rw [← eraK_all, HNV.out.2]
      rw [hall] at hpk ⊢
      have HE := Lib.hid (show PassP ps i w (.returned (.tuple #[.agg #[.int .i64 o.fr, .int .i64 o.to, .slice x L cx], .slice a5 (passP ps i).length c5, .bool ib])) wF from by
        obtain ⟨h1, h2⟩ := HX2.out wF hOF
        rw [HIB.out, HX.out.2.2, HX.out.2.1]
        rw [HX.out.1] at h1 ⊢
        exact ⟨x, cx, a5, c5, rfl, h1, h2, hpk, (hP.out.only hoF).below HB2.out HLO.out⟩)
      obtain ⟨ml, hml⟩ : ∃ ml, ml = (passP ps i).length := ⟨_, rfl⟩
      rw [← hml] at HE ⊢
      clear hwF hoF hOF hrow hvv hpk hall hml p0 p1 p2 f0 f1 f2
      refine bodyPost_ret (v := .tuple #[.agg #[.int .i64 o.fr, .int .i64 o.to, .slice x L cx], .slice a5 ml c5, .bool ib]) ?_ rfl HE.out
      have hl := run_loadVar_mid (P := Try.prog) wF b4 0 25 _ _ HCF.out.range Try.underlying25 rfl (by kernel_rfl)
      simp [results, Try.results14, asAddr, hl, Result.andThen]
    obtain ⟨g, x, cx, e1, ev, g0, g1, g2⟩ := (HO.out.past hP.out HLT.out).get k (by rw [HNV.out.2]; exact hkn)
    subst e1
    obtain ⟨p, hp⟩ : ∃ p, p = ps.getD k noPk := ⟨_, rfl⟩
    rw [← hp] at g0 g1 g2 ev
    obtain ⟨L, hLL⟩ : ∃ L, L = p.by_.length := ⟨_, rfl⟩
    rw [← hLL] at g2 ev
    have HPE := Lib.hid (And.intro hp ev)
    rw [Nat.zero_add] at g0 g1 g2
    clear hp hLL ev
    by_cases hki : (k : Int) = i
    · subst hki
      have hCx := hC.out
      unfold outC at hCx
      rw [if_neg (by omega)] at hCx
      have p0 : wr.cell? ⟨b4, 0, none⟩ = some (.int .i64 0) := hCx.at 0 _ rfl
      have p1 : wr.cell? ⟨b4, 1, none⟩ = some (.int .i64 0) := hCx.at 1 _ rfl
      have p2 : wr.cell? ⟨b4, 2, none⟩ = some (.slice none 0 0) := hCx.at 2 _ rfl
      have f0 : wr.frozen? ⟨b4, 0, none⟩ = false := hCx.free 0
      have f1 : wr.frozen? ⟨b4, 1, none⟩ = false := hCx.free 1
      have f2 : wr.frozen? ⟨b4, 2, none⟩ = false := hCx.free 2
      have HCX := Lib.hid hCx
      clear hCx hC
      go_wp2_with fail
      generalize hwF : World.setCell (World.setCell (World.setCell wr _ _) _ _) _ _ = wF
      have hoF : Only wr wF b4 := by rw [← hwF]; exact ((only_set _ _ _ _).trans (only_set _ _ _ _)).trans (only_set _ _ _ _)
      have HCF := Lib.hid (show Cel wF b4 25 [.int .i64 p.fr, .int .i64 p.to, .slice x L cx] by rw [← hwF]; exact ((HCX.out.set 0 _).set 1 _).set 2 _)
      refine ⟨⟨k + 1, by omega, by rw [decide_eq_true (by omega)], rfl, Lib.hid ?_, Lib.hid ?_, Lib.hid (hP.out.only hoF)⟩, ?_⟩
      · rw [eraK_at noPk (by rw [HNV.out.2]; exact hkn), eraK_at undef (by rw [HNV.out.1]; exact hkn)]
        exact ownsRow_low hRow.out fun m hm => hoF.block m (by
          have h1 := (hRow.out.lt m hm).1
          have h2 := HC2.out.lt
          omega)
      · unfold outC
        rw [if_pos (by omega), Int.toNat_natCast, ← HPE.out.1, HPE.out.2]
        exact HCF.out
      · simp [intOf]; omega
    · have hne : ((k : Int) != i) = true := by simpa using hki
      obtain ⟨v5, w5, hrun, hown, hg⟩ := app_pk hRow.out (.int .i64 p.fr) (.int .i64 p.to) (.slice x L cx) (by intro u hu; simp at hu; rcases hu with rfl | rfl | rfl <;> rfl) (by have := eraK_le ps i k; rw [HNV.out.2] at this; omega) hP.out.size
      have HRUN := Lib.hid hrun
      have hb34 : Below wr.heap.size wr (wr.alloc (.cells #[.int .i64 p.fr, .int .i64 p.to, .slice x L cx] 25)) := (Below.refl _ _).alloc (Nat.le_refl _) _
      have hlow : ∀ m, u5.ownBlock = some m → w2.heap.size ≤ m := fun m hm => (hRow.out.lt m hm).1
      have HP5 := Lib.hid (show PastN w2 w5 b4 from (hP.out.step hb34).grown hg hlow)
      have HC5 := Lib.hid (show Cel w5 b4 25 (outC vs ps i (k + 1)) by
        have e : outC vs ps i (k + 1) = outC vs ps i k := by
          unfold outC
          by_cases h : 0 ≤ i ∧ i < (k : Int)
          · rw [if_pos h, if_pos (by omega)]
          · rw [if_neg h, if_neg (by omega)]
        rw [e]
        have h1 := hC.out.step hb34
        obtain ⟨_, _, _, _, h5⟩ := hg
        exact (h5 b4 h1.lt (by
          intro e
          have := hlow b4 e.symm
          have h2 := HC2.out.lt
          omega)).trans h1)
      have HR5 := Lib.hid (show w5.ownsRow w2.heap.size 25 3 v5 (eraK ps i (k + 1)).length (pkC (eraK vs i (k + 1)) (eraK ps i (k + 1))) by
        rw [eraK_on noPk (by rw [HNV.out.2]; exact hkn) hki, eraK_on undef (by rw [HNV.out.1]; exact hkn) hki, ← HPE.out.1, HPE.out.2, pkC_snoc _ _ _ _ (eraK_length (by rw [HNV.out.1, HNV.out.2]) i k), List.length_append]
        exact hown)
      have HD := Lib.hid (show decide (0 ≤ i ∧ i < (k : Int)) = decide (0 ≤ i ∧ i < ((k + 1 : Nat) : Int)) from by
        rw [decide_eq_decide]; omega)
      obtain ⟨ib, hib⟩ : ∃ ib, ib = decide (0 ≤ i ∧ i < (k : Int)) := ⟨_, rfl⟩
      rw [← hib]
      have HIB := Lib.hid hib
      clear hib hrun hown hg hb34 hlow hki
      go_wp2_with (at_builtin; refine Lib.wpList_append_run _ rfl _ _ _ _ rfl _ _ rfl rfl _ _ HRUN.out ?_)
      refine ⟨⟨k + 1, by omega, by rw [HIB.out, HD.out], rfl, HR5, HC5, HP5⟩, ?_⟩
      simp [intOf]; omega
end Go.Proofs.Ytmeieokembjabaa
