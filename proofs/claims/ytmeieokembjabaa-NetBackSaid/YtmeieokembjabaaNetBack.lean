/- The statement NetBack, walked out of the contracts of what it calls. -/
import Derived.Test.YtmeieokembjabaaNetSl
namespace Go.Proofs.Ytmeieokembjabaa
open Go.ChangeShapes Go.WideShapes Go.ChangeAt Go.RowKit
set_option linter.unusedVariables false

theorem spoilK_back (p : Pk) (m : Nat) (b : UInt8) (hm : m < p.by_.length) : spoilK (spoilK p m b) m b = p := by
  obtain ⟨f, t, l⟩ := p
  have hm' : m < l.length := hm
  simp only [spoilK]
  congr 1
  rw [List.set_set, List.getD_eq_getElem?_getD, List.getElem?_set_self hm', List.getD_eq_getElem?_getD, List.getElem?_eq_getElem hm']
  simp only [Option.getD_some]
  rw [UInt8.xor_assoc, UInt8.xor_self, UInt8.xor_zero, List.set_getElem_self]
theorem spoilIs_of {ps : List Pk} {i m : Int} (h : spoilIs ps i m = true) : ∃ k j : Nat, i = (k : Int) ∧ m = (j : Int) ∧ k < ps.length ∧ j < (ps.getD k noPk).by_.length := by
  unfold spoilIs at h
  simp only [Bool.and_eq_true, decide_eq_true_eq] at h
  obtain ⟨k, rfl, hk⟩ := hasP_nat h.1
  exact ⟨k, m.toNat, rfl, by omega, hk, by have := h.2; simp only [Int.toNat_natCast] at this; omega⟩
theorem spoilP_at {ps : List Pk} {k j : Nat} (q : Int) (hk : k < ps.length) (hj : j < (ps.getD k noPk).by_.length) : spoilIs ps (k : Int) (j : Int) = true ∧ spoilP ps (k : Int) (j : Int) q = ps.set k (spoilK (ps.getD k noPk) j (maskB q)) := by
  have h : spoilIs ps (k : Int) (j : Int) = true := by
    unfold spoilIs
    rw [(passP_at hk).1, Int.toNat_natCast, decide_eq_true (by omega), decide_eq_true (by omega)]
    rfl
  exact ⟨h, by unfold spoilP; rw [if_pos h]; rfl⟩
theorem spoil_back (ps : List Pk) (i m q : Int) : spoilIs (spoilP ps i m q) i m = spoilIs ps i m ∧ spoilP (spoilP ps i m q) i m q = ps := by
  cases h : spoilIs ps i m with
  | false =>
    have e : spoilP ps i m q = ps := by unfold spoilP; rw [h, if_neg (by decide)]
    rw [e]
    exact ⟨h, e⟩
  | true =>
    obtain ⟨k, j, rfl, rfl, hk, hj⟩ := spoilIs_of h
    rw [(spoilP_at q hk hj).2]
    have hg : (ps.set k (spoilK (ps.getD k noPk) j (maskB q))).getD k noPk = spoilK (ps.getD k noPk) j (maskB q) := by rw [List.getD_eq_getElem?_getD, List.getElem?_set_self hk]; rfl
    have hl : j < ((ps.set k (spoilK (ps.getD k noPk) j (maskB q))).getD k noPk).by_.length := by rw [hg]; simpa [spoilK] using hj
    obtain ⟨h1, h2⟩ := spoilP_at (ps := ps.set k (spoilK (ps.getD k noPk) j (maskB q))) q (by rw [List.length_set]; exact hk) hl
    refine ⟨h1, ?_⟩
    rw [h2, hg, spoilK_back _ _ _ hj, List.set_set, List.getD_eq_getElem?_getD, List.getElem?_eq_getElem hk]
    exact List.set_getElem_self hk
theorem xor_ne (x b : UInt8) (h : b ≠ 0) : x ^^^ b ≠ x := fun e => h (by
  have : x ^^^ (x ^^^ b) = x ^^^ x := by rw [e]
  rwa [← UInt8.xor_assoc, UInt8.xor_self, UInt8.zero_xor] at this)
theorem mask_ne (q : Int) (h : q.tmod 256 ≠ 0) : maskB q ≠ 0 := fun e => by
  have h1 := mask_u8 q
  rw [e] at h1
  have h2 : q % 256 = 0 := h1
  exact h (Int.tmod_eq_zero_of_dvd (Int.dvd_of_emod_eq_zero h2))
theorem spoil_ne {ps : List Pk} {i m q : Int} (h : spoilIs ps i m = true) (hq : q.tmod 256 ≠ 0) : spoilP ps i m q ≠ ps := by
  obtain ⟨k, j, rfl, rfl, hk, hj⟩ := spoilIs_of h
  rw [(spoilP_at q hk hj).2]
  intro e
  have e1 : (ps.set k (spoilK (ps.getD k noPk) j (maskB q))).getD k noPk = ps.getD k noPk := by rw [e]
  rw [List.getD_eq_getElem?_getD, List.getElem?_set_self hk] at e1
  have e2 : (spoilK (ps.getD k noPk) j (maskB q)).by_.getD j 0 = (ps.getD k noPk).by_.getD j 0 := congrArg (fun p : Pk => p.by_.getD j 0) e1
  unfold spoilK at e2
  rw [List.getD_eq_getElem?_getD, List.getElem?_set_self hj] at e2
  exact xor_ne _ _ (mask_ne q hq) e2
theorem twice_at {ps : List Pk} {k : Nat} (hk : k < ps.length) (hn : ps.length ≤ 60) : twiceP ps (k : Int) = if okP (ps.getD k noPk) = true then ps ++ [ps.getD k noPk] else ps := by
  unfold twiceP
  rw [if_pos (passP_at hk).1, Int.toNat_natCast]
  unfold sendP
  rw [show ps.length + 1 - 64 = 0 by omega, List.drop_zero]
theorem pass_last (ps : List Pk) (p : Pk) : hasP (ps ++ [p]) (ps.length : Int) = true ∧ passP (ps ++ [p]) (ps.length : Int) = ps ∧ outP (ps ++ [p]) (ps.length : Int) = p := by
  obtain ⟨h1, h2, h3⟩ := passP_at (ps := ps ++ [p]) (k := ps.length) (by rw [List.length_append]; exact Nat.lt_succ_self _)
  refine ⟨h1, ?_, ?_⟩
  · rw [h2, List.eraseIdx_append_of_length_le (Nat.le_refl _), Nat.sub_self]; simp
  · rw [h3, List.getD_eq_getElem?_getD, List.getElem?_append_right (Nat.le_refl _), Nat.sub_self]; rfl

set_option maxRecDepth 100000 in
set_option maxHeartbeats 8000000 in
theorem netBack_walk (a : Option Addr) (n c : Nat) (ps : List Pk) (i m q : Int) (w : World) (hr : Pks w a n c ps) :
    Calls Try.prog 4 #[.slice a n c, .int .i64 i, .int .i64 m, .int .i64 q] w fun e w' => e = .returned (.bool true) ∧ Below w.heap.size w w' := by
  have hn63 : n ≤ 9223372036854775807 := Nat.le_trans hr.le hr.cap
  have HF := Lib.hid (fun w' h => few_any a n c ps 60 w' h)
  have HR := Lib.hid hr
  clear hr
  obtain ⟨few, hfew⟩ : ∃ few, few = fewB ps 60 := ⟨_, rfl⟩
  rw [← hfew] at HF
  have HW0 := Lib.hid hfew
  clear hfew
  cases few with
  | false =>
    go_enter Try.func4, Try.ntmps4
    go_wp2_with fail
    refine (awake21 _).mono ?_
    rintro e w1 ⟨rfl, hb⟩
    have HB1 := Lib.hid hb
    clear hb
    go_wp2_with fail
    refine (HF.out _ (HR.out.below HB1.out)).mono ?_
    rintro e w' ⟨rfl, rfl⟩
    go_wp2_with fail
    go_ret
    exact ⟨rfl, HB1.out⟩
  | true =>
    have hn : n ≤ 60 := by have := (fewB_of HW0.out.symm).1; rw [HR.out.len] at this; omega
    have HLE := Lib.hid (fewB_of HW0.out.symm).2
    have hlen := HR.out.len
    obtain ⟨S, hS⟩ : ∃ S, S = spoilP ps i m q := ⟨_, rfl⟩
    obtain ⟨is, his⟩ : ∃ is, is = spoilIs ps i m := ⟨_, rfl⟩
    have HLS := Lib.hid (show ∀ j, j < n → (S.getD j noPk).by_.length ≤ 100000 from fun j hj => by
      rw [hS]
      unfold spoilP
      split
      · by_cases e : j = i.toNat
        · subst e
          rw [List.getD_eq_getElem?_getD, List.getElem?_set_self (by omega)]
          simp only [Option.getD_some, spoilK, List.length_set]
          exact Nat.le_trans (HLE.out _) (by decide)
        · rw [List.getD_eq_getElem?_getD, List.getElem?_set_ne (fun h => e h.symm), ← List.getD_eq_getElem?_getD]
          exact Nat.le_trans (HLE.out _) (by decide)
      · exact Nat.le_trans (HLE.out _) (by decide))
    have HSl := Lib.hid (show S.length = n by rw [hS, spoilP_length, hlen])
    have HSP := Lib.hid (fun w' a c (h : Pks w' a n c ps) => show Calls Try.prog 18 #[.slice a n c, .int .i64 i, .int .i64 m, .int .i64 q] w' (fun e w'' => ∃ a c, e = .returned (.tuple #[.slice a n c, .bool is]) ∧ Pks w'' a n c S ∧ Below w'.heap.size w' w'') by
      have := spoil_any a n c ps i m q w' h (by omega) (fun j _ => Nat.le_trans (HLE.out j) (by decide))
      unfold PksT at this
      rwa [← hS, ← his, HSl.out] at this)
    have HSQ := Lib.hid (fun w' a c (h : Pks w' a n c S) => show Calls Try.prog 18 #[.slice a n c, .int .i64 i, .int .i64 m, .int .i64 q] w' (fun e w'' => ∃ a c, e = .returned (.tuple #[.slice a n c, .bool is]) ∧ Pks w'' a n c ps ∧ Below w'.heap.size w' w'') by
      have := spoil_any a n c S i m q w' h (by omega) HLS.out
      unfold PksT at this
      have e := spoil_back ps i m q
      rw [← hS, ← his] at e
      rwa [e.1, e.2, hlen] at this)
    have HS1 := Lib.hid (fun w' a c a' c' (h : Pks w' a n c ps) (h' : Pks w' a' n c' ps) => show Calls Try.prog 21 #[.slice a n c, .slice a' n c'] w' (fun e w'' => e = .returned (.bool true) ∧ Below w'.heap.size w' w'') by
      have := same_any a a' n n c c' _ _ w' h h'
      rwa [decide_eq_true rfl] at this)
    have HS2 := Lib.hid (fun hi (hq : q.tmod 256 ≠ 0) w' a c a' c' (h : Pks w' a n c S) (h' : Pks w' a' n c' ps) => show Calls Try.prog 21 #[.slice a n c, .slice a' n c'] w' (fun e w'' => e = .returned (.bool false) ∧ Below w'.heap.size w' w'') by
      have := same_any a a' n n c c' _ _ w' h h'
      rwa [decide_eq_false (by rw [hS]; exact spoil_ne hi hq)] at this)
    have HIS := Lib.hid his
    clear hS his
    cases hh : hasP ps i with
    | false =>
      have hi2 : is = false := by rw [HIS.out]; unfold spoilIs; rw [hh]; rfl
      subst hi2
      have HT := Lib.hid (fun w' a c (h : Pks w' a n c ps) => show Calls Try.prog 16 #[.slice a n c, .int .i64 i] w' (fun e w'' => ∃ a c, e = .returned (.tuple #[.slice a n c, .bool false]) ∧ Pks w'' a n c ps ∧ Below w'.heap.size w' w'') by
        have := twice_any a n c ps i w' h (by omega) (fun j _ => Nat.le_trans (HLE.out j) (by decide))
        unfold PksT at this
        rwa [show twiceP ps i = ps by unfold twiceP; rw [hh, if_neg (by decide)], hh, hlen] at this)
      have hout : i < 0 ∨ (n : Int) ≤ i := by
        have h := hh
        unfold hasP at h
        rw [hlen, Bool.and_eq_false_iff, decide_eq_false_iff_not, decide_eq_false_iff_not] at h
        omega
      clear hh hlen HLE HLS HSl HS2
      go_enter Try.func4, Try.ntmps4
      go_wp2_with fail
      refine (awake21 _).mono ?_
      rintro e w1 ⟨rfl, hb⟩
      have HB1 := Lib.hid hb
      clear hb
      go_wp2_with fail
      refine (HF.out _ (HR.out.below HB1.out)).mono ?_
      rintro e w' ⟨rfl, rfl⟩
      go_upto_region 6 with fail
      by_cases hi0 : i < 0
      · have hi1 : ¬ i ≥ 0 := by omega
        clear hout
        go_wp2_with fail
        refine (HSP.out _ _ _ (HR.out.below HB1.out)).mono ?_
        rintro e w2 ⟨a2, c2, rfl, hk, hb⟩
        have HB2 := Lib.hid (HB1.out.step hb)
        have HK2 := Lib.hid hk
        clear hb hk HB1
        go_wp2_with fail
        refine (HSQ.out _ _ _ HK2.out).mono ?_
        rintro e w3 ⟨a3, c3, rfl, hk, hb⟩
        have HB3 := Lib.hid (HB2.out.step hb)
        have HK23 := Lib.hid (HK2.out.below hb)
        have HK3 := Lib.hid hk
        clear hb hk HB2 HK2
        go_wp2_with fail
        refine (HS1.out _ _ _ _ _ HK3.out (HR.out.below HB3.out)).mono ?_
        rintro e w4 ⟨rfl, hb⟩
        have HB4 := Lib.hid (HB3.out.step hb)
        have HK24 := Lib.hid (HK23.out.below hb)
        clear hb HB3 HK3 HK23
        go_wp2_with fail
        refine (HT.out _ _ _ (HR.out.below HB4.out)).mono ?_
        rintro e w5 ⟨a5, c5, rfl, hk, hb⟩
        have HB5 := Lib.hid (HB4.out.step hb)
        have HK5 := Lib.hid hk
        clear hb hk HB4
        go_wp2_with fail
        refine (HS1.out _ _ _ _ _ HK5.out (HR.out.below HB5.out)).mono ?_
        rintro e w6 ⟨rfl, hb⟩
        have HB6 := Lib.hid (HB5.out.step hb)
        clear hb HB5 HK5
        go_wp2_with fail
        go_ret
        exact ⟨rfl, HB6.out⟩
      · have hi1 : i ≥ 0 := by omega
        have hi2 : ¬ i < (n : Int) := by omega
        clear hout
        go_wp2_with fail
        refine (HSP.out _ _ _ (HR.out.below HB1.out)).mono ?_
        rintro e w2 ⟨a2, c2, rfl, hk, hb⟩
        have HB2 := Lib.hid (HB1.out.step hb)
        have HK2 := Lib.hid hk
        clear hb hk HB1
        go_wp2_with fail
        refine (HSQ.out _ _ _ HK2.out).mono ?_
        rintro e w3 ⟨a3, c3, rfl, hk, hb⟩
        have HB3 := Lib.hid (HB2.out.step hb)
        have HK23 := Lib.hid (HK2.out.below hb)
        have HK3 := Lib.hid hk
        clear hb hk HB2 HK2
        go_wp2_with fail
        refine (HS1.out _ _ _ _ _ HK3.out (HR.out.below HB3.out)).mono ?_
        rintro e w4 ⟨rfl, hb⟩
        have HB4 := Lib.hid (HB3.out.step hb)
        have HK24 := Lib.hid (HK23.out.below hb)
        clear hb HB3 HK3 HK23
        go_wp2_with fail
        refine (HT.out _ _ _ (HR.out.below HB4.out)).mono ?_
        rintro e w5 ⟨a5, c5, rfl, hk, hb⟩
        have HB5 := Lib.hid (HB4.out.step hb)
        have HK5 := Lib.hid hk
        clear hb hk HB4
        go_wp2_with fail
        refine (HS1.out _ _ _ _ _ HK5.out (HR.out.below HB5.out)).mono ?_
        rintro e w6 ⟨rfl, hb⟩
        have HB6 := Lib.hid (HB5.out.step hb)
        clear hb HB5 HK5
        go_wp2_with fail
        go_ret
        exact ⟨rfl, HB6.out⟩
    | true =>
      obtain ⟨k, rfl, hk⟩ := hasP_nat hh
      rw [hlen] at hk
      obtain ⟨b, off, e1, f1⟩ := HR.out.cells.resolve_left (by omega)
      subst e1
      obtain ⟨x, cx, g0, g1, g2, g3, g4⟩ := f1 k hk
      obtain ⟨p, hp⟩ : ∃ p, p = ps.getD k noPk := ⟨_, rfl⟩
      rw [← hp] at g0 g1 g2 g3
      have HOK := Lib.hid (fun w' => netmay_any p x cx w' (Nat.le_trans g3.le g3.cap))
      obtain ⟨ok, hok⟩ : ∃ ok, ok = okP p := ⟨_, rfl⟩
      rw [← hok] at HOK
      obtain ⟨L, hLL⟩ : ∃ L, L = p.by_.length := ⟨_, rfl⟩
      rw [← hLL] at HOK g2 g3
      obtain ⟨T, hT⟩ : ∃ T, T = twiceP ps (k : Int) := ⟨_, rfl⟩
      obtain ⟨nt, hnt⟩ : ∃ nt, nt = T.length := ⟨_, rfl⟩
      have HTE := Lib.hid (show T = if ok = true then ps ++ [p] else ps by rw [hT, twice_at (by omega) (by omega), ← hp, hok])
      have HT := Lib.hid (fun w' a c (h : Pks w' a n c ps) => show Calls Try.prog 16 #[.slice a n c, .int .i64 (k : Int)] w' (fun e w'' => ∃ a c, e = .returned (.tuple #[.slice a nt c, .bool true]) ∧ Pks w'' a nt c T ∧ Below w'.heap.size w' w'') by
        have := twice_any a n c ps (k : Int) w' h (by omega) (fun j _ => Nat.le_trans (HLE.out j) (by decide))
        unfold PksT at this
        rwa [← hT, hh, ← hnt] at this)
      have HNT := Lib.hid (show nt = if ok = true then n + 1 else n by
        rw [hnt, HTE.out]
        cases ok with
        | false => exact hlen
        | true => simp [hlen])
      have HPS := Lib.hid (fun (hk1 : ok = true) w' a c (h : Pks w' a nt c T) => show Calls Try.prog 14 #[.slice a nt c, .int .i64 (n : Int)] w' (fun e w'' => ∃ x cx a c, e = .returned (.tuple #[.agg #[.int .i64 p.fr, .int .i64 p.to, .slice x L cx], .slice a n c, .bool true]) ∧ Pks w'' a n c ps ∧ Below w'.heap.size w' w'') by
        have hTT : T = ps ++ [p] := by rw [HTE.out, if_pos hk1]
        have h0 := HNT.out
        rw [if_pos hk1] at h0
        have := pass_any a nt c T (n : Int) w' h (by omega) (fun j hj => by
          rw [hTT]
          by_cases e : j < ps.length
          · rw [List.getD_eq_getElem?_getD, List.getElem?_append_left e, ← List.getD_eq_getElem?_getD]
            exact Nat.le_trans (HLE.out j) (by decide)
          · have e2 : j = ps.length := by omega
            subst e2
            rw [List.getD_eq_getElem?_getD, List.getElem?_append_right (Nat.le_refl _), Nat.sub_self]
            show p.by_.length ≤ 100000
            rw [hp]
            exact Nat.le_trans (HLE.out _) (by decide))
        unfold PassP at this
        have e := pass_last ps p
        rw [hlen] at e
        rw [hTT, e.1, e.2.1, e.2.2, ← hLL, hlen] at this
        refine this.mono ?_
        rintro e w'' ⟨x, cx, a, c, rfl, _, _, hk, hb⟩
        exact ⟨x, cx, a, c, rfl, hk, hb⟩)
      have G := Lib.hid (And.intro g0 (And.intro g1 (And.intro g2 g3)))
      obtain ⟨B, hB⟩ : ∃ B, B = p.by_.toArray := ⟨_, rfl⟩
      have HCV := Lib.hid (fun w' (h : Rd w' x L cx p.by_) => show (convert 23 9 (.slice x L cx)).run Try.prog w' = .ok (.string ⟨B⟩) w' by rw [hB]; exact str_drew h 0)
      have hnt0 : 0 < nt := by have := HNT.out; split at this <;> omega
      clear hh hlen HLE HLS HSl f1 hp hok hLL hT hnt hB g0 g1 g2 g3 g4 hn63
      go_enter Try.func4, Try.ntmps4
      go_wp2_with fail
      refine (awake21 _).mono ?_
      rintro e w1 ⟨rfl, hb⟩
      have HB1 := Lib.hid hb
      clear hb
      go_wp2_with fail
      refine (HF.out _ (HR.out.below HB1.out)).mono ?_
      rintro e w' ⟨rfl, rfl⟩
      go_upto_region 6 with fail
      have hi1 : (k : Int) ≥ 0 := by omega
      have hi2 : (k : Int) < (n : Int) := by omega
      have q2 : w'.cell? ⟨b, off + k * 3 + 2, none⟩ = some (.slice x L cx) := carry_cell G.out.2.2.1 HB1.out
      have t1 := HCV.out w' (G.out.2.2.2.below HB1.out)
      go_wp2_with fail
      refine (HSP.out _ _ _ (HR.out.below HB1.out)).mono ?_
      rintro e w2 ⟨a2, c2, rfl, hk, hb⟩
      have HB2 := Lib.hid (HB1.out.step hb)
      have HK2 := Lib.hid hk
      clear hb hk HB1 q2 t1
      go_wp2_with fail
      refine (HSQ.out _ _ _ HK2.out).mono ?_
      rintro e w3 ⟨a3, c3, rfl, hk, hb⟩
      have HB3 := Lib.hid (HB2.out.step hb)
      have HK23 := Lib.hid (HK2.out.below hb)
      have HK3 := Lib.hid hk
      clear hb hk HB2 HK2
      go_wp2_with fail
      refine (HS1.out _ _ _ _ _ HK3.out (HR.out.below HB3.out)).mono ?_
      rintro e w4 ⟨rfl, hb⟩
      have HB4 := Lib.hid (HB3.out.step hb)
      have HK24 := Lib.hid (HK23.out.below hb)
      clear hb HB3 HK3 HK23
      cases is with
      | false =>
        have HB5 := HB4
        clear HB4
        go_wp2_with fail
        refine (HT.out _ _ _ (HR.out.below HB5.out)).mono ?_
        rintro e w6 ⟨a6, c6, rfl, hk6, hb⟩
        have HB6 := Lib.hid (HB5.out.step hb)
        have HK6 := Lib.hid hk6
        clear hb hk6 HB5
        have q0 : w6.cell? ⟨b, off + k * 3, none⟩ = some (.int .i64 p.fr) := carry_cell G.out.1 HB6.out
        have q1 : w6.cell? ⟨b, off + k * 3 + 1, none⟩ = some (.int .i64 p.to) := carry_cell G.out.2.1 HB6.out
        have q2 : w6.cell? ⟨b, off + k * 3 + 2, none⟩ = some (.slice x L cx) := carry_cell G.out.2.2.1 HB6.out
        go_wp2_with fail
        refine (HOK.out _).mono ?_
        rintro e w7 ⟨rfl, hb⟩
        have HB7 := Lib.hid (HB6.out.step hb)
        have HK7 := Lib.hid (HK6.out.below hb)
        clear hb HB6 HK6 q0 q1 q2
        cases ok with
        | false =>
          have e0 : nt = n := by have := HNT.out; rwa [if_neg (by decide)] at this
          have e1 : T = ps := by have := HTE.out; rwa [if_neg (by decide)] at this
          subst e0
          subst e1
          go_wp2_with fail
          refine (HS1.out _ _ _ _ _ HK7.out (HR.out.below HB7.out)).mono ?_
          rintro e w8 ⟨rfl, hb⟩
          have HB8 := Lib.hid (HB7.out.step hb)
          clear hb HB7 HK7
          go_wp2_with fail
          go_ret
          exact ⟨rfl, HB8.out⟩
        | true =>
          have e0 : nt = n + 1 := by have := HNT.out; rwa [if_pos rfl] at this
          have e1 : (nt : Int) - 1 = (n : Int) := by omega
          have e2 : (nt : Int) ≤ 61 := by omega
          clear e0
          go_wp2_with fail
          refine (HPS.out trivial _ _ _ HK7.out).mono ?_
          rintro e w8 ⟨x8, cx8, a8, c8, rfl, hk8, hb⟩
          have HB8 := Lib.hid (HB7.out.step hb)
          have HK8 := Lib.hid hk8
          clear hb hk8 HB7 HK7
          go_upto_region 18 with fail
          generalize hw9 : w8.alloc (.cells _ _) = w9
          have hb89 : Below w8.heap.size w8 w9 := by rw [← hw9]; exact (Below.refl _ _).alloc (Nat.le_refl _) _
          have HB9 := Lib.hid (HB8.out.step hb89)
          have HK9 := Lib.hid (HK8.out.below hb89)
          clear hw9 hb89 HB8 HK8
          go_wp2_with fail
          refine (HS1.out _ _ _ _ _ HK9.out (HR.out.below HB9.out)).mono ?_
          rintro e w10 ⟨rfl, hb⟩
          have HB10 := Lib.hid (HB9.out.step hb)
          clear hb HB9 HK9
          go_wp2_with fail
          go_ret
          exact ⟨rfl, HB10.out⟩
      | true =>
        have q2 : w4.cell? ⟨b, off + k * 3 + 2, none⟩ = some (.slice x L cx) := carry_cell G.out.2.2.1 HB4.out
        have t1 := HCV.out w4 (G.out.2.2.2.below HB4.out)
        by_cases hq : q.tmod 256 = 0
        · have HB5 := HB4
          go_wp2_with fail
          refine (HT.out _ _ _ (HR.out.below HB5.out)).mono ?_
          rintro e w6 ⟨a6, c6, rfl, hk6, hb⟩
          have HB6 := Lib.hid (HB5.out.step hb)
          have HK6 := Lib.hid hk6
          clear hb hk6 HB5
          have q0 : w6.cell? ⟨b, off + k * 3, none⟩ = some (.int .i64 p.fr) := carry_cell G.out.1 HB6.out
          have q1 : w6.cell? ⟨b, off + k * 3 + 1, none⟩ = some (.int .i64 p.to) := carry_cell G.out.2.1 HB6.out
          have q2 : w6.cell? ⟨b, off + k * 3 + 2, none⟩ = some (.slice x L cx) := carry_cell G.out.2.2.1 HB6.out
          go_wp2_with fail
          refine (HOK.out _).mono ?_
          rintro e w7 ⟨rfl, hb⟩
          have HB7 := Lib.hid (HB6.out.step hb)
          have HK7 := Lib.hid (HK6.out.below hb)
          clear hb HB6 HK6 q0 q1 q2
          cases ok with
          | false =>
            have e0 : nt = n := by have := HNT.out; rwa [if_neg (by decide)] at this
            have e1 : T = ps := by have := HTE.out; rwa [if_neg (by decide)] at this
            subst e0
            subst e1
            go_wp2_with fail
            refine (HS1.out _ _ _ _ _ HK7.out (HR.out.below HB7.out)).mono ?_
            rintro e w8 ⟨rfl, hb⟩
            have HB8 := Lib.hid (HB7.out.step hb)
            clear hb HB7 HK7
            go_wp2_with fail
            go_ret
            exact ⟨rfl, HB8.out⟩
          | true =>
            have e0 : nt = n + 1 := by have := HNT.out; rwa [if_pos rfl] at this
            have e1 : (nt : Int) - 1 = (n : Int) := by omega
            have e2 : (nt : Int) ≤ 61 := by omega
            clear e0
            go_wp2_with fail
            refine (HPS.out trivial _ _ _ HK7.out).mono ?_
            rintro e w8 ⟨x8, cx8, a8, c8, rfl, hk8, hb⟩
            have HB8 := Lib.hid (HB7.out.step hb)
            have HK8 := Lib.hid hk8
            clear hb hk8 HB7 HK7
            go_upto_region 18 with fail
            generalize hw9 : w8.alloc (.cells _ _) = w9
            have hb89 : Below w8.heap.size w8 w9 := by rw [← hw9]; exact (Below.refl _ _).alloc (Nat.le_refl _) _
            have HB9 := Lib.hid (HB8.out.step hb89)
            have HK9 := Lib.hid (HK8.out.below hb89)
            clear hw9 hb89 HB8 HK8
            go_wp2_with fail
            refine (HS1.out _ _ _ _ _ HK9.out (HR.out.below HB9.out)).mono ?_
            rintro e w10 ⟨rfl, hb⟩
            have HB10 := Lib.hid (HB9.out.step hb)
            clear hb HB9 HK9
            go_wp2_with fail
            go_ret
            exact ⟨rfl, HB10.out⟩
        · go_wp2_with fail
          refine (HS2.out HIS.out.symm hq _ _ _ _ _ HK24.out (HR.out.below HB4.out)).mono ?_
          rintro e w5 ⟨rfl, hb⟩
          have HB5 := Lib.hid (HB4.out.step hb)
          clear hb HB4 HK24
          go_wp2_with fail
          refine (HT.out _ _ _ (HR.out.below HB5.out)).mono ?_
          rintro e w6 ⟨a6, c6, rfl, hk6, hb⟩
          have HB6 := Lib.hid (HB5.out.step hb)
          have HK6 := Lib.hid hk6
          clear hb hk6 HB5
          have q0 : w6.cell? ⟨b, off + k * 3, none⟩ = some (.int .i64 p.fr) := carry_cell G.out.1 HB6.out
          have q1 : w6.cell? ⟨b, off + k * 3 + 1, none⟩ = some (.int .i64 p.to) := carry_cell G.out.2.1 HB6.out
          have q2 : w6.cell? ⟨b, off + k * 3 + 2, none⟩ = some (.slice x L cx) := carry_cell G.out.2.2.1 HB6.out
          go_wp2_with fail
          refine (HOK.out _).mono ?_
          rintro e w7 ⟨rfl, hb⟩
          have HB7 := Lib.hid (HB6.out.step hb)
          have HK7 := Lib.hid (HK6.out.below hb)
          clear hb HB6 HK6 q0 q1 q2
          cases ok with
          | false =>
            have e0 : nt = n := by have := HNT.out; rwa [if_neg (by decide)] at this
            have e1 : T = ps := by have := HTE.out; rwa [if_neg (by decide)] at this
            subst e0
            subst e1
            go_wp2_with fail
            refine (HS1.out _ _ _ _ _ HK7.out (HR.out.below HB7.out)).mono ?_
            rintro e w8 ⟨rfl, hb⟩
            have HB8 := Lib.hid (HB7.out.step hb)
            clear hb HB7 HK7
            go_wp2_with fail
            go_ret
            exact ⟨rfl, HB8.out⟩
          | true =>
            have e0 : nt = n + 1 := by have := HNT.out; rwa [if_pos rfl] at this
            have e1 : (nt : Int) - 1 = (n : Int) := by omega
            have e2 : (nt : Int) ≤ 61 := by omega
            clear e0
            go_wp2_with fail
            refine (HPS.out trivial _ _ _ HK7.out).mono ?_
            rintro e w8 ⟨x8, cx8, a8, c8, rfl, hk8, hb⟩
            have HB8 := Lib.hid (HB7.out.step hb)
            have HK8 := Lib.hid hk8
            clear hb hk8 HB7 HK7
            go_upto_region 18 with fail
            generalize hw9 : w8.alloc (.cells _ _) = w9
            have hb89 : Below w8.heap.size w8 w9 := by rw [← hw9]; exact (Below.refl _ _).alloc (Nat.le_refl _) _
            have HB9 := Lib.hid (HB8.out.step hb89)
            have HK9 := Lib.hid (HK8.out.below hb89)
            clear hw9 hb89 HB8 HK8
            go_wp2_with fail
            refine (HS1.out _ _ _ _ _ HK9.out (HR.out.below HB9.out)).mono ?_
            rintro e w10 ⟨rfl, hb⟩
            have HB10 := Lib.hid (HB9.out.step hb)
            clear hb HB9 HK9
            go_wp2_with fail
            go_ret
            exact ⟨rfl, HB10.out⟩
end Go.Proofs.Ytmeieokembjabaa
