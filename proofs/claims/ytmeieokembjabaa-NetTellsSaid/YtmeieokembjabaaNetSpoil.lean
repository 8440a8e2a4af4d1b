/- The walk of Spoil, of the layer net. -/
import Derived.Test.YtmeieokembjabaaNetXor
namespace Go.Proofs.Ytmeieokembjabaa
open Go.ChangeShapes Go.WideShapes Go.ChangeAt Go.RowKit
set_option linter.unusedVariables false

def spoilIs (ps : List Pk) (i m : Int) : Bool := hasP ps i && (decide (0 ≤ m) && decide (m < ((ps.getD i.toNat noPk).by_.length : Int)))
def maskB (k : Int) : UInt8 := UInt8.ofNat (k % 256).toNat
def spoilK (p : Pk) (m : Nat) (b : UInt8) : Pk := ⟨p.fr, p.to, p.by_.set m (p.by_.getD m 0 ^^^ b)⟩
def spoilP (ps : List Pk) (i m k : Int) : List Pk := if spoilIs ps i m = true then ps.set i.toNat (spoilK (ps.getD i.toNat noPk) m.toNat (maskB k)) else ps
theorem spoilP_length (ps : List Pk) (i m k : Int) : (spoilP ps i m k).length = ps.length := by unfold spoilP; split <;> simp
theorem mask_u8 (k : Int) : k % 256 = ((maskB k).toNat : Int) := by
  unfold maskB
  rw [UInt8.toNat_ofNat']
  omega
theorem Rd.set {w : World} {b off n c : Nat} {l : List UInt8} (h : Rd w (some ⟨b, off, none⟩) n c l) (m : Nat) (hm : m < n) (v : UInt8) : Rd (w.setCell ⟨b, off + m, none⟩ (.int .u8 (v.toNat : Int))) (some ⟨b, off, none⟩) n c (l.set m v) := by
  refine ⟨by rw [List.length_set]; exact h.len, h.le, h.cap, ?_⟩
  rcases h.cells with h0 | ⟨b', off', e, hb, hc⟩
  · omega
  · cases e
    refine .inr ⟨b, off, rfl, by simpa using hb, fun i hi => ?_⟩
    by_cases him : i = m
    · subst him
      rw [World.cell?_setCell_same' _ _ _ (by rw [hc i hi]; rfl)]
      rw [List.getD_eq_getElem?_getD, List.getElem?_set_self (by rw [h.len]; exact hi)]
      rfl
    · rw [World.cell?_setCell_other w _ _ _ (fun e => him (by injection e with _ e _; omega)), hc i hi]
      rw [List.getD_eq_getElem?_getD, List.getD_eq_getElem?_getD, List.getElem?_set_ne (fun e => him e.symm)]

theorem pkC_set : ∀ (vs : List Value) (ps : List Pk) (j : Nat) (p : Pk), p.fr = (ps.getD j noPk).fr → p.to = (ps.getD j noPk).to → pkC vs (ps.set j p) = pkC vs ps
  | [], _, _, _, _, _ => by simp [pkC]
  | _ :: _, [], _, _, _, _ => by simp [pkC]
  | v :: vs, q :: ps, 0, p, h1, h2 => by
    have e1 : p.fr = q.fr := h1
    have e2 : p.to = q.to := h2
    simp [pkC, e1, e2]
  | v :: vs, q :: ps, j + 1, p, h1, h2 => by
    have := pkC_set vs ps j p h1 h2
    simp [pkC, this]

set_option maxRecDepth 100000 in
set_option maxHeartbeats 4000000 in
theorem spoil_any (a : Option Addr) (n c : Nat) (ps : List Pk) (i m k : Int) (w : World) (hr : Pks w a n c ps) (hn : n ≤ 500) (hL : ∀ i, i < n → (ps.getD i noPk).by_.length ≤ 100000) :
    Calls Try.prog 18 #[.slice a n c, .int .i64 i, .int .i64 m, .int .i64 k] w (PksT (spoilP ps i m k) (spoilIs ps i m) w) := by
  have HR := Lib.hid hr
  have HL := Lib.hid hL
  have hn63 : n ≤ 9223372036854775807 := by omega
  clear hr hL
  go_enter Try.func18, Try.ntmps18
  go_wp2_with fail
  refine (own_any a n c ps w HR.out (by omega) HL.out).mono ?_
  rintro e w2 ⟨v, vs, rfl, ho, hb⟩
  obtain ⟨a2, c2, rfl, hk⟩ := ho.pks
  have hlen := HR.out.len
  have HH := Lib.hid (fun w' => has_any a2 n c2 i ps w' hlen hn63)
  rw [hlen] at ho hk ⊢
  have HO := Lib.hid ho
  have HK := Lib.hid (show Pks w2 a2 n c2 ps ∧ Below w.heap.size w w2 ∧ ps.length = n from ⟨hk, hb, hlen⟩)
  clear ho hk hb hlen
  go_wp2_with fail
  refine (HH.out _).mono ?_
  rintro e w3 ⟨rfl, rfl⟩
  cases hh : hasP ps i with
  | false =>
    have HS := Lib.hid (show spoilIs ps i m = false by unfold spoilIs; rw [hh]; rfl)
    clear hh
    go_wp2_with fail
    go_ret2
    show PksT (spoilP ps i m k) (spoilIs ps i m) _ _ _
    unfold spoilP
    rw [HS.out, if_neg (by decide)]
    exact ⟨a2, c2, by rw [HK.out.2.2]; rfl, by rw [HK.out.2.2]; exact HK.out.1, HK.out.2.1⟩
  | true =>
    by_cases hm : m < 0
    · have HS := Lib.hid (show spoilIs ps i m = false by unfold spoilIs; rw [decide_eq_false (show ¬ 0 ≤ m by omega)]; simp)
      clear hh
      go_wp2_with fail
      go_ret2
      show PksT (spoilP ps i m k) (spoilIs ps i m) _ _ _
      unfold spoilP
      rw [HS.out, if_neg (by decide)]
      exact ⟨a2, c2, by rw [HK.out.2.2]; rfl, by rw [HK.out.2.2]; exact HK.out.1, HK.out.2.1⟩
    have hi : 0 ≤ i ∧ i < (n : Int) := by
      simp only [hasP, Bool.and_eq_true, decide_eq_true_eq] at hh
      have := HK.out.2.2
      omega
    obtain ⟨j, rfl⟩ : ∃ j : Nat, i = (j : Int) := ⟨i.toNat, by omega⟩
    have hj : j < n := by omega
    obtain ⟨g, x, cx, e1, ev, g0, g1, g2⟩ := HO.out.get j (by rw [HK.out.2.2]; exact hj)
    subst e1
    have hOw := HO.out.each j (by rw [HK.out.2.2]; exact hj)
    obtain ⟨p, hp⟩ : ∃ p, p = ps.getD j noPk := ⟨_, rfl⟩
    rw [← hp] at g2 ev hOw
    obtain ⟨L, hLL⟩ : ∃ L, L = p.by_.length := ⟨_, rfl⟩
    rw [← hLL] at g2 ev hOw
    rw [ev] at hOw
    rw [Nat.zero_add] at g2
    have hL63 : L ≤ 9223372036854775807 := by
      have := HL.out j hj
      rw [← hp, ← hLL] at this
      omega
    have HIS := Lib.hid (show spoilIs ps (j : Int) m = decide (m < (L : Int)) by unfold spoilIs; rw [hh, Int.toNat_natCast, ← hp, ← hLL, decide_eq_true (show 0 ≤ m by omega)]; rfl)
    have HPP := Lib.hid (show p = ps.getD j noPk ∧ L = p.by_.length ∧ vs.getD j undef = .slice x L cx from ⟨hp, hLL, ev⟩)
    have HOW := Lib.hid hOw
    clear hh g0 g1 hp hLL ev hOw
    by_cases hmL : (L : Int) ≤ m
    · have hmL' : decide ((L : Int) ≤ m) = true := decide_eq_true hmL
      have HS := Lib.hid (HIS.out.trans (decide_eq_false (by omega)))
      clear hmL
      go_wp2_with fail
      go_ret2
      show PksT (spoilP ps (j : Int) m k) (spoilIs ps (j : Int) m) _ _ _
      unfold spoilP
      rw [HS.out, if_neg (by decide)]
      exact ⟨some ⟨g, 0, none⟩, c2, by rw [HK.out.2.2]; rfl, by rw [HK.out.2.2]; exact HK.out.1, HK.out.2.1⟩
    have HS := Lib.hid (HIS.out.trans (decide_eq_true (by omega)))
    obtain ⟨q, rfl⟩ : ∃ q : Nat, m = (q : Int) := ⟨m.toNat, by omega⟩
    have hq : q < L := by omega
    obtain ⟨gb, hx, hhb, hgb⟩ : ∃ gb, x = some ⟨gb, 0, none⟩ ∧ (∃ cur, w3.heap[gb]? = some (.cells cur 5 (0, 0))) ∧ w.heap.size ≤ gb := by
      rcases HOW.out.2 with ⟨h1, h0⟩ | ⟨gb, cap, cur, h1, h2, h3, _⟩
      · omega
      · injection h1 with h1; exact ⟨gb, h1, ⟨cur, h3⟩, h2⟩
    subst hx
    obtain ⟨x', c', ex, hRd⟩ := Rd.of_own HOW.out
    injection ex with ex1 _ ex3
    subst ex1 ex3
    obtain ⟨bx, hbx⟩ : ∃ bx, bx = p.by_.getD q 0 := ⟨_, rfl⟩
    have HBX := Lib.hid hbx
    have hcell : w3.cell? ⟨gb, q, none⟩ = some (.int .u8 (bx.toNat : Int)) := by
      rw [hbx]
      rcases hRd.cells with h0 | ⟨b', off', e, _, hc⟩
      · omega
      · cases e
        have := hc q hq
        rwa [Nat.zero_add] at this
    have hfree : w3.frozen? ⟨gb, q, none⟩ = false := by
      obtain ⟨cur, h3⟩ := hhb
      unfold World.frozen?
      rw [h3]
      simp
    have hmL' : decide ((L : Int) ≤ (q : Int)) = false := decide_eq_false hmL
    have HRD := Lib.hid hRd
    have HBL := Lib.hid (show (∃ cur, w3.heap[gb]? = some (.cells cur 5 (0, 0))) ∧ w.heap.size ≤ gb from ⟨hhb, hgb⟩)
    clear hRd hhb hgb hmL hbx
    go_wp2_with fail
    generalize hw4 : w3.setCell _ _ = w4
    rw [mask_u8, xor_u8] at hw4
    have ho4 : Only w3 w4 gb := by rw [← hw4]; exact only_set _ _ _ _
    have hrd4 : Rd w4 (some ⟨gb, 0, none⟩) L cx (p.by_.set q (bx ^^^ maskB k)) := by
      rw [← hw4]
      have := HRD.out.set q hq (bx ^^^ maskB k)
      rwa [Nat.zero_add] at this
    have HE := Lib.hid (show ∃ a c, (.slice (some ⟨g, 0, none⟩) n c2 : Value) = .slice a (spoilP ps (j : Int) (q : Int) k).length c ∧ Pks w4 a (spoilP ps (j : Int) (q : Int) k).length c (spoilP ps (j : Int) (q : Int) k) ∧ Below w.heap.size w w4 from by
      have hsp : spoilP ps (j : Int) (q : Int) k = ps.set j (spoilK p q (maskB k)) := by unfold spoilP; rw [HS.out, if_pos rfl, Int.toNat_natCast, Int.toNat_natCast, ← HPP.out.1]
      have hlen : (ps.set j (spoilK p q (maskB k))).length = n := by rw [List.length_set]; exact HK.out.2.2
      have hap := apart_pk HOW.out HO.out.row
      have hgne : g ≠ gb := by
        rcases hap with h | h
        · cases h
        · intro e; apply h; rw [e]; rfl
      have hrow : w4.ownsRow w.heap.size 25 3 (.slice (some ⟨g, 0, none⟩) n c2) (ps.set j (spoilK p q (maskB k))).length (pkC vs (ps.set j (spoilK p q (maskB k)))) := by
        rw [pkC_set vs ps j _ (by rw [← HPP.out.1]; rfl) (by rw [← HPP.out.1]; rfl), List.length_set]
        exact ownsRow_low HO.out.row fun m hm => ho4.block m (by
          have : m = g := by injection hm with hm; exact hm.symm
          rw [this]; exact hgne)
      have hv : Vals w4 vs (ps.set j (spoilK p q (maskB k))) := by
        refine ⟨by rw [List.length_set]; exact HO.out.num, fun t ht => ?_⟩
        rw [hlen] at ht
        by_cases e : t = j
        · subst e
          have e2 : (ps.set t (spoilK p q (maskB k))).getD t noPk = spoilK p q (maskB k) := by rw [List.getD_eq_getElem?_getD, List.getElem?_set_self (by rw [HK.out.2.2]; exact ht)]; rfl
          rw [e2]
          have e3 : (spoilK p q (maskB k)).by_ = p.by_.set q (bx ^^^ maskB k) := by unfold spoilK; rw [HBX.out]
          rw [e3, List.length_set, ← HPP.out.2.1]
          exact ⟨_, _, HPP.out.2.2, hrd4, fun h => by cases h⟩
        · have e2 : (ps.set j (spoilK p q (maskB k))).getD t noPk = ps.getD t noPk := by rw [List.getD_eq_getElem?_getD, List.getElem?_set_ne (fun h => e h.symm), ← List.getD_eq_getElem?_getD]
          rw [e2]
          have h3 := HO.out.each t (by rw [HK.out.2.2]; exact ht)
          have hjb : (vs.getD j undef).ownBlock = some gb := by rw [HPP.out.2.2]; rfl
          have htb : (vs.getD t undef).ownBlock ≠ some gb := by
            by_cases hlt : t < j
            · exact HO.out.apart t j hlt (by rw [HK.out.2.2]; exact hj) gb hjb
            · intro h4
              exact HO.out.apart j t (by omega) (by rw [HK.out.2.2]; exact ht) gb h4 hjb
          have h4 : w4.ownsRow w.heap.size 5 1 (vs.getD t undef) _ _ := ownsRow_low h3 fun m hm => ho4.block m (by intro e; rw [e] at hm; exact htb hm)
          obtain ⟨a', c', ev, hr⟩ := Rd.of_own h4
          rw [ev] at h4
          exact ⟨a', c', ev, hr, own_none h4⟩
      obtain ⟨a', c', e, hpk⟩ := Pks.of_row hrow hv
      rw [hsp]
      exact ⟨a', c', e, hpk, ho4.below HK.out.2.1 HBL.out.2⟩)
    clear hw4 ho4 hrd4
    go_ret2
    show PksT (spoilP ps (j : Int) (q : Int) k) (spoilIs ps (j : Int) (q : Int)) _ _ _
    rw [HS.out]
    obtain ⟨a', c', e, h1, h2⟩ := HE.out
    refine ⟨a', c', ?_, h1, h2⟩
    rw [← e]
    rfl
end Go.Proofs.Ytmeieokembjabaa
