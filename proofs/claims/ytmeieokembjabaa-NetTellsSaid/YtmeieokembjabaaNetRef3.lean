/- The walk of the reference's Spoil of the layer net. -/
import Derived.Test.YtmeieokembjabaaNetRef2
namespace Go.Proofs.Ytmeieokembjabaa
open Go.ChangeShapes Go.WideShapes Go.ChangeAt Go.RowKit
set_option linter.unusedVariables false

theorem run_app_nil {w : World} {a : Option Addr} {m c : Nat} {l : List UInt8} (hr : Rd w a m c l) (hac : a = none → c = 0) (hm : m ≤ 100000) :
    ∃ v' w', (Builtin.append_ #[23, 23] 23 #[.slice none 0 0, .slice a m c]).run Try.prog w = .ok v' w' ∧ w'.ownsRow w.heap.size 5 1 v' m (l.map B) ∧ Below w.heap.size w w' := by
  obtain ⟨i0, hi, hz0, hz1, hz2⟩ := info_parts info_u8
  obtain ⟨v', w', h1, h2, h3⟩ := run_app (P := Try.prog) (ty := 23) Try.underlying23 hi hz0 hz1 hz2 rfl (World.ownsRow_nil w w.heap.size 5 1) hr hac (by omega) (Nat.le_refl _)
  exact ⟨v', w', h1, by simpa using h2, (Below.refl _ w).grown h3 (Nat.le_refl _) (fun k hk => by cases hk)⟩

theorem pkC_put : ∀ (vs : List Value) (ps : List Pk) (j : Nat) (v : Value), vs.length = ps.length → pkC (vs.set j v) ps = (pkC vs ps).set (j * 3 + 2) v
  | [], [], _, _, _ => by simp [pkC]
  | [], _ :: _, _, _, h => by simp at h
  | _ :: _, [], _, _, h => by simp at h
  | x :: vs, p :: ps, 0, v, h => by simp [pkC]
  | x :: vs, p :: ps, j + 1, v, h => by
    have := pkC_put vs ps j v (by simpa using h)
    rw [show (j + 1) * 3 + 2 = j * 3 + 2 + 3 by omega]
    simp [pkC, this]
theorem Rd.onlyb {w w' : World} {b fo n c g : Nat} {l : List UInt8} (h : Rd w (some ⟨b, fo, none⟩) n c l) (ho : Only w w' g) (hne : b ≠ g) : Rd w' (some ⟨b, fo, none⟩) n c l := by
  refine ⟨h.len, h.le, h.cap, ?_⟩
  rcases h.cells with h0 | ⟨b', off', e, hlt, hc⟩
  · exact .inl h0
  · cases e
    refine .inr ⟨b, fo, rfl, by rw [ho.size]; exact hlt, fun i hi => ?_⟩
    have h2 := hc i hi
    unfold World.cell? at h2 ⊢
    rw [ho.block b hne]
    exact h2
/-- Packets in a row of their own, one of them with other bytes. -/
theorem spoil_done {w w3 : World} {g n c1 j gb L c2 q : Nat} {ps : List Pk} {p : Pk} {x : UInt8} {vs : List Value} (hl : ps.length = n) (hv : Vals w vs ps) (hrow : w3.ownsRow w.heap.size 25 3 (.slice (some ⟨g, 0, none⟩) n c1) ps.length (pkC vs ps))
    (hj : j < n) (hp : p = ps.getD j noPk) (hL : L = p.by_.length) (hr : Rd w3 (some ⟨gb, 0, none⟩) L c2 (p.by_.set q x)) (hgb : gb ≠ g) (hb : Below w.heap.size w w3) :
    Pks (w3.setCell ⟨g, j * 3 + 2, none⟩ (.slice (some ⟨gb, 0, none⟩) L c2)) (some ⟨g, 0, none⟩) n c1 (ps.set j ⟨p.fr, p.to, p.by_.set q x⟩) ∧ Below w.heap.size w (w3.setCell ⟨g, j * 3 + 2, none⟩ (.slice (some ⟨gb, 0, none⟩) L c2)) := by
  have hg := (hrow.lt g rfl).1
  obtain ⟨w4, hw4⟩ : ∃ w4, w4 = w3.setCell ⟨g, j * 3 + 2, none⟩ (.slice (some ⟨gb, 0, none⟩) L c2) := ⟨_, rfl⟩
  rw [← hw4]
  have ho : Only w3 w4 g := by rw [hw4]; exact only_set _ _ _ _
  have hb4 : Below w.heap.size w w4 := ho.below hb hg
  have hsl : (ps.set j ⟨p.fr, p.to, p.by_.set q x⟩).length = n := by rw [List.length_set]; exact hl
  refine ⟨?_, hb4⟩
  have hcap : n ≤ c1 ∧ c1 ≤ 9223372036854775807 := by
    rcases hrow.2 with ⟨h1, _⟩ | ⟨g', cap, cur, h1, _, _, h2, h3, _⟩
    · cases h1
    · injection h1 with _ _ h1
      subst h1
      rw [hl] at h2
      exact ⟨h2, Nat.le_trans h3 (by unfold maxLen; decide)⟩
  have hv4 : Vals w4 (vs.set j (.slice (some ⟨gb, 0, none⟩) L c2)) (ps.set j ⟨p.fr, p.to, p.by_.set q x⟩) := by
    refine ⟨by rw [List.length_set, List.length_set]; exact hv.1, fun t ht => ?_⟩
    rw [hsl] at ht
    by_cases e : t = j
    · subst e
      have e1 : (vs.set t (Value.slice (some ⟨gb, 0, none⟩) L c2)).getD t undef = .slice (some ⟨gb, 0, none⟩) L c2 := by rw [List.getD_eq_getElem?_getD, List.getElem?_set_self (by rw [hv.1, hl]; exact ht)]; rfl
      have e2 : (ps.set t ⟨p.fr, p.to, p.by_.set q x⟩).getD t noPk = ⟨p.fr, p.to, p.by_.set q x⟩ := by rw [List.getD_eq_getElem?_getD, List.getElem?_set_self (by rw [hl]; exact ht)]; rfl
      rw [e1, e2]
      have e3 : (p.by_.set q x).length = L := by rw [List.length_set, hL]
      refine ⟨some ⟨gb, 0, none⟩, c2, ?_, ?_, fun h => by cases h⟩
      · show _ = Value.slice _ (p.by_.set q x).length c2
        rw [e3]
      · show Rd w4 _ (p.by_.set q x).length c2 (p.by_.set q x)
        rw [e3]
        exact hr.onlyb ho hgb
    · have e1 : (vs.set j (Value.slice (some ⟨gb, 0, none⟩) L c2)).getD t undef = vs.getD t undef := by rw [List.getD_eq_getElem?_getD, List.getElem?_set_ne (fun h => e h.symm), ← List.getD_eq_getElem?_getD]
      have e2 : (ps.set j ⟨p.fr, p.to, p.by_.set q x⟩).getD t noPk = ps.getD t noPk := by rw [List.getD_eq_getElem?_getD, List.getElem?_set_ne (fun h => e h.symm), ← List.getD_eq_getElem?_getD]
      rw [e1, e2]
      exact (hv.below hb4).2 t (by rw [hl]; exact ht)
  have := Pks.of_cells (g := g) (off := 0) (cap := c1) hv4 (fun k v hk => by
    rw [pkC_set _ _ _ _ (by rw [← hp]) (by rw [← hp]), pkC_put _ _ _ _ hv.1] at hk
    have hadd : ∀ m, (⟨g, 0, none⟩ : Addr).add m = ⟨g, m, none⟩ := fun m => by unfold Addr.add; split <;> simp_all
    have hc3 : ∀ m u, (pkC vs ps)[m]? = some u → w3.cell? ⟨g, m, none⟩ = some u := fun m u hm => by
      have := hrow.cells (g := g) rfl m u hm
      rwa [hadd] at this
    rw [Nat.zero_add, hw4]
    by_cases e : k = j * 3 + 2
    · subst e
      have hlt : j * 3 + 2 < (pkC vs ps).length := by rw [pkC_length _ _ hv.1, hl]; omega
      rw [List.getElem?_set_self hlt] at hk
      rw [World.cell?_setCell_same' _ _ _ (by rw [hc3 _ _ (List.getElem?_eq_getElem hlt)]; rfl)]
      exact hk
    · rw [List.getElem?_set_ne (fun h => e h.symm)] at hk
      rw [World.cell?_setCell_other w3 _ _ _ (fun h => e (Eq.symm (by injection h)))]
      exact hc3 _ _ hk) (by rw [hsl]; exact hcap.1) hcap.2
  rwa [hsl] at this
theorem tmod256 (k : Int) : (k.tmod 256 < 0 → k % 256 = k.tmod 256 + 256) ∧ (¬ k.tmod 256 < 0 → k % 256 = k.tmod 256) := by
  by_cases h : 0 ≤ k
  · rw [Int.tmod_eq_emod_of_nonneg h]
    omega
  · obtain ⟨m, rfl⟩ : ∃ m, k = -m := ⟨-k, by omega⟩
    rw [Int.neg_tmod, Int.tmod_eq_emod_of_nonneg (by omega : 0 ≤ m)]
    omega

set_option maxRecDepth 100000 in
set_option maxHeartbeats 4000000 in
theorem spoil_ref (a : Option Addr) (n c : Nat) (ps : List Pk) (i m k : Int) (w : World) (hr : Pks w a n c ps) (hn : n ≤ 500) (hL : ∀ i, i < n → (ps.getD i noPk).by_.length ≤ 100000) (hkm : -9223372036854775808 ≤ k ∧ k ≤ 9223372036854775807) :
    Calls Try.prog 19 #[.slice a n c, .int .i64 i, .int .i64 m, .int .i64 k] w (PksT (spoilP ps i m k) (spoilIs ps i m) w) := by
  have HR := Lib.hid hr
  have HL := Lib.hid hL
  have HLN := Lib.hid hr.len
  have hn63 : n ≤ 9223372036854775807 := by omega
  have HFN := Lib.hid (show spoilIs ps i m = false → PksT (spoilP ps i m k) (spoilIs ps i m) w (.returned (.tuple #[.slice a n c, .bool false])) w from fun h => by
    unfold PksT spoilP
    rw [h, if_neg (by decide)]
    exact ⟨a, c, by rw [HLN.out], by rw [HLN.out]; exact HR.out, Below.refl _ _⟩)
  clear hr hL
  by_cases h0 : i < 0
  · have HF := Lib.hid (HFN.out (by unfold spoilIs hasP; rw [decide_eq_false (show ¬ 0 ≤ i by omega)]; rfl))
    go_enter Try.func19, Try.ntmps19
    go_wp2_with fail
    go_ret2
    exact HF.out
  by_cases h1 : i ≥ (n : Int)
  · have HF := Lib.hid (HFN.out (by unfold spoilIs hasP; rw [HLN.out, decide_eq_false (show ¬ i < (n : Int) by omega), Bool.and_false]; rfl))
    go_enter Try.func19, Try.ntmps19
    go_wp2_with fail
    go_ret2
    exact HF.out
  by_cases h2 : m < 0
  · have HF := Lib.hid (HFN.out (by unfold spoilIs; rw [decide_eq_false (show ¬ 0 ≤ m by omega)]; simp))
    go_enter Try.func19, Try.ntmps19
    go_wp2_with fail
    go_ret2
    exact HF.out
  obtain ⟨j, rfl⟩ : ∃ j : Nat, i = (j : Int) := ⟨i.toNat, by omega⟩
  have hj : j < n := by omega
  obtain ⟨b, fo, e1, f1⟩ := HR.out.cells.resolve_left (by omega)
  obtain ⟨x, cx, g0, g1, g2, g3, g4⟩ := f1 j hj
  obtain ⟨p, hp⟩ : ∃ p, p = ps.getD j noPk := ⟨_, rfl⟩
  rw [← hp] at g0 g1 g2 g3
  obtain ⟨L, hLL⟩ : ∃ L, L = p.by_.length := ⟨_, rfl⟩
  rw [← hLL] at g2 g3
  have hL6 : L ≤ 100000 := by have := HL.out j hj; rw [← hp] at this; omega
  have HIS := Lib.hid (show spoilIs ps (j : Int) m = decide (m < (L : Int)) by
    unfold spoilIs
    rw [(passP_at (ps := ps) (k := j) (by rw [HLN.out]; exact hj)).1, Int.toNat_natCast, ← hp, ← hLL, decide_eq_true (show 0 ≤ m by omega)]; rfl)
  have HPP := Lib.hid (show p = ps.getD j noPk ∧ L = p.by_.length from ⟨hp, hLL⟩)
  have H3 := Lib.hid (And.intro g3 g4)
  subst e1
  clear f1 g0 g1 g3 g4 hp hLL
  by_cases h3 : m ≥ (L : Int)
  · have HF := Lib.hid (HFN.out (HIS.out.trans (decide_eq_false (by omega))))
    go_enter Try.func19, Try.ntmps19
    go_wp2_with fail
    go_ret2
    exact HF.out
  have HS := Lib.hid (HIS.out.trans (decide_eq_true (by omega)))
  obtain ⟨q, rfl⟩ : ∃ q : Nat, m = (q : Int) := ⟨m.toNat, by omega⟩
  have hq : q < L := by omega
  have HKM := Lib.hid hkm
  clear HFN HIS hkm
  obtain ⟨mu, hmu⟩ : ∃ mu, mu = maskB k := ⟨_, rfl⟩
  have hme := mask_u8 k
  rw [← hmu] at hme
  have hm1 : 0 ≤ (mu.toNat : Int) := by omega
  have hm2 : (mu.toNat : Int) ≤ 255 := (u8_bd mu).2
  have HMU := Lib.hid hmu
  obtain ⟨us, hus, huc⟩ := HR.out.vals
  obtain ⟨v1, w1, hrun1, hk1, hg1⟩ := (Pko.nil w w.heap.size w).app (Nat.le_refl _) HR.out hus huc (by show 0 + n ≤ _; omega)
  rw [List.nil_append] at hk1
  have hb1 : Below w.heap.size w w1 := (Below.refl _ w).grown hg1 (Nat.le_refl _) (fun k hk => by cases hk)
  obtain ⟨v2, w2, hrun2, ho2, hb2⟩ := run_app_nil (H3.out.1.below hb1) H3.out.2 hL6
  have g21 := carry_cell g2 hb1
  have HRUN1 := Lib.hid hrun1
  have HRUN2 := Lib.hid hrun2
  have HK1 := Lib.hid hk1
  have HO2 := Lib.hid ho2
  have HB1 := Lib.hid hb1
  have HB2 := Lib.hid hb2
  clear hmu hus huc hrun1 hk1 hg1 hrun2 ho2 hb1 hb2
  have hi' : (j : Int) < (n : Int) := by omega
  have hj0 : 0 ≤ (j : Int) := by omega
  have hq0 : 0 ≤ (q : Int) := by omega
  have hqL : (q : Int) < (L : Int) := by omega
  obtain ⟨a2, c2, e2, hr2⟩ := Rd.of_own HO2.out
  have hac2 := own_none (e2 ▸ HO2.out)
  subst e2
  obtain ⟨gb, rfl⟩ : ∃ gb, a2 = some ⟨gb, 0, none⟩ := by
    rcases HO2.out.2 with ⟨h1, h0⟩ | ⟨gb, cap, cur, h1, _⟩
    · omega
    · injection h1 with h1; exact ⟨gb, h1⟩
  have hfree : w2.frozen? ⟨gb, q, none⟩ = false := by
    rcases HO2.out.2 with ⟨h1, h0⟩ | ⟨gb', cap, cur, h1, _, hg, _⟩
    · omega
    · injection h1 with h1
      injection h1 with h1
      injection h1 with h1 _ _
      subst h1
      unfold World.frozen?
      rw [hg]
      simp
  obtain ⟨bx, hbx⟩ : ∃ bx, bx = p.by_.getD q 0 := ⟨_, rfl⟩
  have hcell : w2.cell? ⟨gb, q, none⟩ = some (.int .u8 (bx.toNat : Int)) := by
    rw [hbx]
    rcases hr2.cells with h0 | ⟨b', off', e, _, hc⟩
    · omega
    · cases e
      have := hc q hq
      rwa [Nat.zero_add] at this
  have hgb : w1.heap.size ≤ gb := (HO2.out.lt gb rfl).1
  have HBX := Lib.hid hbx
  have HR2 := Lib.hid hr2
  clear hbx hr2 hac2
  have hkl := HK1.out.lo
  obtain ⟨a1, c1, rfl, hpk1⟩ := HK1.out.pks HB1.out
  rw [HLN.out] at hpk1 HK1 hkl HRUN1
  obtain ⟨g, rfl⟩ : ∃ g, a1 = some ⟨g, 0, none⟩ := by
    obtain ⟨vs, _, h2⟩ := HK1.out
    rcases h2.2 with ⟨h1, h0⟩ | ⟨g, cap, cur, h1, _⟩
    · have := HLN.out; omega
    · injection h1 with h1; exact ⟨g, h1⟩
  have HGL := Lib.hid (hkl g rfl)
  obtain ⟨w3, hw3⟩ : ∃ w3, w3 = w2.setCell ⟨gb, q, none⟩ (.int .u8 ((bx ^^^ mu).toNat : Int)) := ⟨_, rfl⟩
  have HW3 := Lib.hid (show (.int .u8 (bits .xor .u8 (bx.toNat : Int) (mu.toNat : Int))) = (.int .u8 ((bx ^^^ mu).toNat : Int) : Value) by rw [xor_u8])
  have ho3 : Only w2 w3 gb := by rw [hw3]; exact only_set _ _ _ _
  have hrow3 : ∃ vs, Vals w vs ps ∧ w3.ownsRow w.heap.size 25 3 (.slice (some ⟨g, 0, none⟩) n c1) ps.length (pkC vs ps) := by
    obtain ⟨vs, h1, h2⟩ := HK1.out
    refine ⟨vs, h1, ownsRow_low h2 fun k hk => ?_⟩
    have h4 := h2.lt k hk
    exact (ho3.block k (by omega)).trans (HB2.out.block k h4.2)
  have hcs : (∃ o, w3.cell? ⟨g, j * 3 + 2, none⟩ = some o) ∧ w3.frozen? ⟨g, j * 3 + 2, none⟩ = false := by
    obtain ⟨vs, h1, h2⟩ := hrow3
    constructor
    · obtain ⟨_, _, h3⟩ := pkC_at vs ps j h1.1 (by rw [HLN.out]; exact hj)
      have h5 := h2.cells (g := g) rfl _ _ h3
      have hadd : (⟨g, 0, none⟩ : Addr).add (j * 3 + 2) = ⟨g, j * 3 + 2, none⟩ := by unfold Addr.add; split <;> simp_all
      rw [hadd] at h5
      exact ⟨_, h5⟩
    · rcases h2.2 with ⟨h3, _⟩ | ⟨g', cap, cur, h3, _, h4, _⟩
      · cases h3
      · injection h3 with h3
        injection h3 with h3
        injection h3 with h3 _ _
        subst h3
        unfold World.frozen?
        rw [h4]
        simp
  obtain ⟨⟨o3, hc3⟩, hf3⟩ := hcs
  have HROW3 := Lib.hid hrow3
  have HO3 := Lib.hid ho3
  have HRD3 := Lib.hid (show Rd w3 (some ⟨gb, 0, none⟩) L c2 (p.by_.set q (bx ^^^ mu)) by
    rw [hw3]
    have := HR2.out.set q hq (bx ^^^ mu)
    rwa [Nat.zero_add] at this)
  have HWW := Lib.hid hw3
  have HEND := Lib.hid (show PksT (spoilP ps (j : Int) (q : Int) k) (spoilIs ps (j : Int) (q : Int)) w (.returned (.tuple #[.slice (some ⟨g, 0, none⟩) n c1, .bool true])) (w3.setCell ⟨g, j * 3 + 2, none⟩ (.slice (some ⟨gb, 0, none⟩) L c2)) by
    have hsp : spoilP ps (j : Int) (q : Int) k = ps.set j ⟨p.fr, p.to, p.by_.set q (bx ^^^ mu)⟩ := by
      unfold spoilP
      rw [HS.out, if_pos rfl, Int.toNat_natCast, Int.toNat_natCast, ← HPP.out.1]
      unfold spoilK
      rw [HBX.out, HMU.out]
    have hsl : (ps.set j ⟨p.fr, p.to, p.by_.set q (bx ^^^ mu)⟩).length = n := by rw [List.length_set]; exact HLN.out
    obtain ⟨vs, h1, h2⟩ := HROW3.out
    obtain ⟨h3, h4⟩ := spoil_done HLN.out h1 h2 hj HPP.out.1 HPP.out.2 HRD3.out (by have := HGL.out; omega) (HO3.out.below (HB1.out.step HB2.out) (Nat.le_trans HB1.out.size hgb))
    rw [hsp, HS.out]
    exact ⟨_, c1, by rw [hsl], by rw [hsl]; exact h3, h4⟩)
  clear hpk1 hkl ho3 hrow3 hw3 hgb
  go_enter Try.func19, Try.ntmps19
  go_upto_region 3 with fail
  by_cases hneg : k.tmod 256 < 0
  · have hwr : wrap64 (k.tmod 256 + 256) = (mu.toNat : Int) := by
      unfold wrap64
      have := (tmod256 k).1 hneg
      omega
    go_upto_region 6 with fail
    go_upto_region 7 with (at_builtin; refine Lib.wpList_append_run _ rfl _ _ _ _ rfl _ _ rfl rfl _ _ HRUN1.out ?_)
    go_upto_region 8 with (at_builtin; refine Lib.wpList_append_run _ rfl _ _ _ _ rfl _ _ rfl rfl _ _ HRUN2.out ?_)
    have g3 := hcell
    go_upto_region 9 with fail
    rw [HW3.out, ← HWW.out]
    go_upto_region 10 with fail
    go_wp2_with fail
    go_ret2
    exact HEND.out
  · have hwr : k.tmod 256 = (mu.toNat : Int) := by
      have := (tmod256 k).2 hneg
      omega
    clear hneg
    have hneg : ¬ (mu.toNat : Int) < 0 := by omega
    go_upto_region 6 with fail
    go_upto_region 7 with (at_builtin; refine Lib.wpList_append_run _ rfl _ _ _ _ rfl _ _ rfl rfl _ _ HRUN1.out ?_)
    go_upto_region 8 with (at_builtin; refine Lib.wpList_append_run _ rfl _ _ _ _ rfl _ _ rfl rfl _ _ HRUN2.out ?_)
    have g3 := hcell
    go_upto_region 9 with fail
    rw [HW3.out, ← HWW.out]
    go_upto_region 10 with fail
    go_wp2_with fail
    go_ret2
    exact HEND.out
end Go.Proofs.Ytmeieokembjabaa
