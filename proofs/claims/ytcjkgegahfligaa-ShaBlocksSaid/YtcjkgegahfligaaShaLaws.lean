/- The statements ShaPads and ShaShort, walked out of the contracts of what they call. -/
import Derived.Test.YtcjkgegahfligaaShaAwake
namespace Go.Proofs.Ytcjkgegahfligaa
open Go.ChangeShapes Go.WideShapes Go.ChangeAt Go.RowKit
set_option linter.unusedVariables false

/-- 'string(b)', however many orders were drawn. -/
theorem str_drew {w : World} {a : Option Addr} {n c : Nat} {l : List UInt8} (h : Rd w a n c l) (k : Nat) : (convert 24 9 (.slice a n c)).run Try.prog (w.drewN k) = .ok (.string ⟨l.toArray⟩) (w.drewN k) :=
  (h.below (below_drewN (Below.refl _ _) k)).str (P := Try.prog) 24 5 9 Try.underlying24 Try.underlying5 Try.underlying9
theorem padL_left (l : List UInt8) (i : Nat) (h : i < l.length) : (padL l).getD i 0 = l.getD i 0 := by
  unfold padL
  rw [List.append_assoc, List.append_assoc, List.getD_eq_getElem?_getD, List.getElem?_append_left h, ← List.getD_eq_getElem?_getD]
theorem padL_take (l : List UInt8) : (padL l).take l.length = l := by
  unfold padL
  rw [List.append_assoc, List.append_assoc, List.take_left]
theorem padL_mark (l : List UInt8) : (padL l).getD l.length 0 = 128 := by
  unfold padL
  rw [List.append_assoc, List.append_assoc, List.getD_eq_getElem?_getD, List.getElem?_append_right (Nat.le_refl _), Nat.sub_self]; rfl
theorem padL_zero (l : List UInt8) (hl : l.length ≤ 300) (i : Nat) (h1 : l.length < i) (h2 : i + 2 < (padL l).length) : (padL l).getD i 0 = 0 := by
  rw [padL_length] at h2
  unfold padL
  rw [List.append_assoc, List.append_assoc, List.getD_eq_getElem?_getD, List.getElem?_append_right (by omega), List.getElem?_append_right (by simp; omega)]
  by_cases h : i - l.length - 1 < padN l.length
  · rw [List.getElem?_append_left (by simpa using h)]
    simp only [List.length_cons, List.length_nil, Nat.zero_add]
    rw [List.getElem?_replicate, if_pos h]; rfl
  · rw [List.getElem?_append_right (by simpa using Nat.le_of_not_lt h)]
    simp only [List.length_cons, List.length_nil, Nat.zero_add, List.length_replicate]
    obtain ⟨k, hk⟩ : ∃ k, k = i - l.length - 1 - padN l.length := ⟨_, rfl⟩
    rw [← hk]
    have hk6 : k < 6 := by omega
    have d1 : 8 * l.length / 72057594037927936 = 0 := by omega
    have d2 : 8 * l.length / 281474976710656 = 0 := by omega
    have d3 : 8 * l.length / 1099511627776 = 0 := by omega
    have d4 : 8 * l.length / 4294967296 = 0 := by omega
    have d5 : 8 * l.length / 16777216 = 0 := by omega
    have d6 : 8 * l.length / 65536 = 0 := by omega
    unfold longL
    rw [d1, d2, d3, d4, d5, d6]
    rcases (show k = 0 ∨ k = 1 ∨ k = 2 ∨ k = 3 ∨ k = 4 ∨ k = 5 by omega) with rfl | rfl | rfl | rfl | rfl | rfl <;> rfl
theorem padL_tail (l : List UInt8) (k : Nat) (hk : k < 8) : (padL l).getD (l.length + 1 + padN l.length + k) 0 = (longL (8 * l.length)).getD k 0 := by
  unfold padL
  rw [List.getD_eq_getElem?_getD, List.getElem?_append_right (by simp; omega), ← List.getD_eq_getElem?_getD]
  congr 1
  simp; omega
theorem padL_bits (l : List UInt8) (hl : l.length ≤ 300) (m : Nat) (hm : (padL l).length = m) : 256 * ((padL l).getD (m - 2) 0).toNat + ((padL l).getD (m - 1) 0).toNat = 8 * l.length := by
  rw [padL_length] at hm
  rw [show m - 2 = l.length + 1 + padN l.length + 6 by omega, show m - 1 = l.length + 1 + padN l.length + 7 by omega, padL_tail l 6 (by decide), padL_tail l 7 (by decide)]
  show 256 * (UInt8.ofNat (8 * l.length / 256)).toNat + (UInt8.ofNat (8 * l.length)).toNat = 8 * l.length
  simp only [UInt8.toNat_ofNat']
  omega
theorem padL_inj (a b : List UInt8) (ha : a.length ≤ 300) (hb : b.length ≤ 300) (h : padL a = padL b) : a = b := by
  have e1 := padL_bits a ha _ rfl
  have e2 := padL_bits b hb _ rfl
  rw [h] at e1
  have hl : a.length = b.length := by omega
  rw [← padL_take a, h, hl, padL_take b]
theorem padL_div (n : Nat) : (n + 9 + padN n : Int) = ((n : Int) + 9 + 63) / 64 * 64 := by unfold padN; omega

set_option maxRecDepth 100000 in
set_option maxHeartbeats 2000000 in
theorem shaShort_walk (a : Option Addr) (n c : Nat) (l : List UInt8) (w : World) (hr : Rd w a n c l) :
    Calls Try.prog 7 #[.slice a n c] w fun e w' => e = .returned (.bool true) ∧ Below w.heap.size w w' := by
  by_cases hl : n ≤ 300
  · have hlen := hr.len
    have hl2 : ¬ 300 < (n : Int) := by omega
    go_enter Try.func7, Try.ntmps7
    go_wp2_with fail
    refine (awake_any _).mono ?_
    rintro e v1 ⟨rfl, hb1⟩
    have hr1 := hr.below hb1
    go_wp2_with fail
    refine (pad_any a n c l _ hr1 (by omega)).mono ?_
    rintro e v2 ⟨u2, rfl, hown2, hb2⟩
    obtain ⟨a2, c2, rfl, hr2⟩ := Rd.of_own hown2
    have HR := Lib.hid hr2
    have HB := Lib.hid (Below.step hb1 hb2)
    obtain ⟨m, hm⟩ : ∃ m, m = (padL l).length := ⟨_, rfl⟩
    rw [← hm] at hr2 ⊢
    have hm1 : (m : Int) = ((n : Int) + 9 + 63) / 64 * 64 := by rw [hm, padL_length, hlen]; have := padL_div n; push_cast; omega
    have hm2 : m = n + 9 + padN n := by rw [hm, padL_length, hlen]
    have hm600 : m ≤ 400 := by unfold padN at hm2; omega
    have HM := Lib.hid hm
    have HM2 := Lib.hid hm2
    have hm9 : n + 9 ≤ m := by omega
    clear hm hm2 hb1 hb2 hown2 hr1 hr
    rcases hr2.cells with h0 | ⟨b2, o2, rfl, hlt2, hc2⟩
    · omega
    have HC := Lib.hid hc2
    clear hc2 hr2
    go_wp2_with fail
    go_loopw [5] (fun iv wr => ∃ i : Nat, n + 1 ≤ i ∧ i + 2 ≤ m ∧ iv = .int .i64 (i : Int) ∧ wr = v2) (fun iv _ => 1000 - (intOf iv).toNat)
    case atStart => exact ⟨n + 1, by omega, by omega, by go_num, rfl⟩
    case round =>
      obtain ⟨i, hi1, hi2, rfl, rfl⟩ := hrel
      by_cases hlt : i + 2 < m
      · have hz := padL_zero l (by omega) i (by omega) (by rw [← HM.out]; exact hlt)
        have hci := HC.out i (by omega)
        rw [hz] at hci
        have hci' : wr.cell? ⟨b2, o2 + i, none⟩ = some (.int .u8 0) := hci
        have hlt' : (i : Int) < (m : Int) - 2 := by omega
        have him : (i : Int) < (m : Int) := by omega
        have hi0 : (0 : Int) ≤ (i : Int) := by omega
        clear hci hz
        go_wp2_with fail
        go_roundw
        case rel => exact ⟨i + 1, by omega, by omega, by go_num, trivial⟩
        case measure => simp [intOf]; omega
      · have hlt' : ¬ (i : Int) < (m : Int) - 2 := by omega
        go_wp2_with fail
        go_ret
        exact ⟨rfl, HB.out⟩
  · have hl2 : 300 < (n : Int) := by omega
    have hl3 : n ≤ 9223372036854775807 := Nat.le_trans hr.le hr.cap
    clear hr
    go_enter Try.func7, Try.ntmps7
    go_wp2_with fail
    refine (awake_any _).mono ?_
    rintro e v1 ⟨rfl, hb1⟩
    go_wp2_with fail
    go_ret
    exact ⟨rfl, hb1⟩

set_option maxRecDepth 100000 in
set_option maxHeartbeats 4000000 in
theorem shaPads_walk (a : Option Addr) (n c : Nat) (l : List UInt8) (a' : Option Addr) (n' c' : Nat) (l' : List UInt8) (w : World) (hr : Rd w a n c l) (hr' : Rd w a' n' c' l') :
    Calls Try.prog 4 #[.slice a n c, .slice a' n' c'] w fun e w' => e = .returned (.bool true) ∧ Below w.heap.size w w' := by
  have hlen := hr.len
  have hlen' := hr'.len
  by_cases hl : n ≤ 300
  · by_cases hl' : n' ≤ 300
    · have hl2 : ¬ 300 < (n : Int) := by omega
      have hl2' : ¬ 300 < (n' : Int) := by omega
      go_enter Try.func4, Try.ntmps4
      go_wp2_with fail
      refine (awake_any _).mono ?_
      rintro e v1 ⟨rfl, hb1⟩
      go_wp2_with fail
      refine (pad_any a n c l _ (hr.below hb1) (by omega)).mono ?_
      rintro e v2 ⟨u2, rfl, hown2, hb2⟩
      have hb12 := Below.step hb1 hb2
      go_wp2_with fail
      refine (pad_any a' n' c' l' _ (hr'.below hb12) (by omega)).mono ?_
      rintro e v3 ⟨u3, rfl, hown3, hb3⟩
      obtain ⟨a3, c3, rfl, hr3⟩ := Rd.of_own hown3
      obtain ⟨a2, c2, rfl, hr2⟩ := Rd.of_own (ownsRow_below hown2 hb3)
      have HB := Lib.hid (Below.step hb12 hb3)
      have hra := hr.below HB.out
      have hrb := hr'.below HB.out
      obtain ⟨m, hm⟩ : ∃ m, m = (padL l).length := ⟨_, rfl⟩
      obtain ⟨m', hm'⟩ : ∃ m, m = (padL l').length := ⟨_, rfl⟩
      rw [← hm] at hr2 ⊢
      rw [← hm'] at hr3 ⊢
      have hm2 : m = n + 9 + padN n := by rw [hm, padL_length, hlen]
      have hmod : (m : Int) % 64 = 0 := by have := padL_mod l; rw [← hm] at this; omega
      have hp64 : padN n < 64 := by unfold padN; omega
      have hg1 : ((m : Int).tmod 64 != 0) = false := by rw [Int.tmod_eq_emod_of_nonneg (by omega), hmod]; rfl
      have hw9 : IntKind.i64.wrap ((n : Int) + 9) = (n : Int) + 9 := IntWalk.i64_in _ ⟨by omega, by omega⟩
      have hw72 : IntKind.i64.wrap ((n : Int) + 72) = (n : Int) + 72 := IntWalk.i64_in _ ⟨by omega, by omega⟩
      have hg2 : decide ((m : Int) < (n : Int) + 9) = false := by simp; omega
      have hg3 : decide ((n : Int) + 72 < (m : Int)) = false := by simp; omega
      have hge : ¬ (m : Int) < (n : Int) + 9 := by omega
      have hle : ¬ (n : Int) + 72 < (m : Int) := by omega
      have hm9 : (n : Int) ≤ (m : Int) := by omega
      have hm9' : (n : Int) < (m : Int) := by omega
      rcases hr2.cells with h0 | ⟨b2, o2, rfl, hlt2, hc2⟩
      · omega
      have hcm : (m : Int) ≤ (c2 : Int) := by have := hr2.le; omega
      have hcn : (n : Int) ≤ (c2 : Int) := by omega
      have hfr := hr2.front n (by omega)
      rw [← hlen, padL_take l, hlen] at hfr
      have hs1 := fun k => str_drew hfr k
      have hs2 := fun k => str_drew hra k
      have hmark := hc2 n (by omega)
      rw [show (padL l).getD n 0 = 128 by rw [← hlen]; exact padL_mark l] at hmark
      have hmark' : v3.cell? ⟨b2, o2 + n, none⟩ = some (.int .u8 128) := hmark
      have H2 := Lib.hid hr2
      have H3 := Lib.hid hr3
      have HA := Lib.hid hra
      have HBB := Lib.hid hrb
      have HM := Lib.hid hm
      have HM' := Lib.hid hm'
      have HM2 := Lib.hid hm2
      have HC2 := Lib.hid hc2
      clear hr2 hr3 hra hrb hm hm' hm2 hc2 hb1 hb2 hb3 hb12 hown2 hown3 hmark hfr hr hr'
      go_wp2_with fail
      go_quiet (fail)
      go_wp2_with fail
      obtain ⟨vq, hvq⟩ : ∃ vq, vq = v3.drewN nq := ⟨_, rfl⟩
      rw [← hvq]
      obtain ⟨k2, hk2⟩ : ∃ k2, k2 = m - 2 := ⟨_, rfl⟩
      obtain ⟨k1, hk1⟩ : ∃ k1, k1 = m - 1 := ⟨_, rfl⟩
      have ck2 := HC2.out k2 (by omega)
      have ck1 := HC2.out k1 (by omega)
      have hbits := padL_bits l (by omega) m HM.out.symm
      rw [← hk2, ← hk1, hlen] at hbits
      obtain ⟨x2, hx2⟩ : ∃ x : Int, x = ((padL l).getD k2 0).toNat := ⟨_, rfl⟩
      obtain ⟨x1, hx1⟩ : ∃ x : Int, x = ((padL l).getD k1 0).toNat := ⟨_, rfl⟩
      have b2' := u8_bd ((padL l).getD k2 0)
      have b1' := u8_bd ((padL l).getD k1 0)
      have hbits' : 256 * x2 + x1 = 8 * (n : Int) := by rw [hx2, hx1]; omega
      rw [← hx2] at ck2 b2'
      rw [← hx1] at ck1 b1'
      replace ck2 : vq.cell? ⟨b2, o2 + k2, none⟩ = some (.int .u8 x2) := by rw [hvq]; exact ck2
      replace ck1 : vq.cell? ⟨b2, o2 + k1, none⟩ = some (.int .u8 x1) := by rw [hvq]; exact ck1
      have q2 : IntKind.i64.wrap ((m : Int) - 2) = (k2 : Int) := by rw [IntWalk.i64_in _ ⟨by omega, by omega⟩]; omega
      have q1 : IntKind.i64.wrap ((m : Int) - 1) = (k1 : Int) := by rw [IntWalk.i64_in _ ⟨by omega, by omega⟩]; omega
      obtain ⟨y, hy⟩ : ∃ y, y = 256 * x2 := ⟨_, rfl⟩
      obtain ⟨z, hz⟩ : ∃ z, z = 8 * (n : Int) := ⟨_, rfl⟩
      have e70 : IntKind.i64.wrap (256 * x2) = y := by rw [IntWalk.i64_in _ ⟨by omega, by omega⟩]; omega
      have e77 : IntKind.i64.wrap (y + x1) = z := by rw [IntWalk.i64_in _ ⟨by omega, by omega⟩]; omega
      have e80 : IntKind.i64.wrap (8 * (n : Int)) = z := by rw [IntWalk.i64_in _ ⟨by omega, by omega⟩]; omega
      have lk2 : (k2 : Int) < (m : Int) := by omega
      have lk1 : (k1 : Int) < (m : Int) := by omega
      have zk2 : (0 : Int) ≤ (k2 : Int) := by omega
      have zk1 : (0 : Int) ≤ (k1 : Int) := by omega
      obtain ⟨P, hP⟩ : ∃ P, P = padL l := ⟨_, rfl⟩
      obtain ⟨P', hP'⟩ : ∃ P, P = padL l' := ⟨_, rfl⟩
      have r2 := H2.out.below (below_drewN (Below.refl _ v3) nq)
      have r3 := H3.out.below (below_drewN (Below.refl _ v3) nq)
      rw [← hvq, ← hP] at r2
      rw [← hvq, ← hP'] at r3
      have ra := HA.out.below (below_drewN (Below.refl _ v3) nq)
      have rb := HBB.out.below (below_drewN (Below.refl _ v3) nq)
      rw [← hvq] at ra rb
      have t2 := fun k => str_drew r2 k
      have t3 := fun k => str_drew r3 k
      have ta := fun k => str_drew ra k
      have tb := fun k => str_drew rb k
      have HE := Lib.hid (show P = P' ↔ l = l' from ⟨fun h => padL_inj l l' (by omega) (by omega) (by rw [← hP, ← hP', h]), fun h => by rw [hP, hP', h]⟩)
      have HBQ : Hid (Below w.heap.size w vq) := Lib.hid (by rw [hvq]; exact below_drewN HB.out nq)
      clear hbits hbits' hx2 hx1 hy hz hk2 hk1 hP hP' r2 r3 ra rb hvq hs1 hs2 hmark' hmod hg1 hg2 hg3 hw9 hw72
      go_quiet (fail)
      go_wp2_with fail
      go_ret
      refine ⟨retb ?_, below_drewN HBQ.out _⟩
      have he := HE.out
      by_cases h : l = l'
      · rw [he.2 h, h]; simp
      · have hp : ¬ P = P' := fun e => h (he.1 e)
        rw [beq_eq_false_iff_ne.2 hp, beq_eq_false_iff_ne.2 h]; rfl
    · have hl2 : ¬ 300 < (n : Int) := by omega
      have hl2' : 300 < (n' : Int) := by omega
      have hl3 : n' ≤ 9223372036854775807 := Nat.le_trans hr'.le hr'.cap
      clear hr hr'
      go_enter Try.func4, Try.ntmps4
      go_wp2_with fail
      refine (awake_any _).mono ?_
      rintro e v1 ⟨rfl, hb1⟩
      go_wp2_with fail
      go_ret
      exact ⟨rfl, hb1⟩
  · have hl2 : 300 < (n : Int) := by omega
    have hl3 : n ≤ 9223372036854775807 := Nat.le_trans hr.le hr.cap
    clear hr hr'
    go_enter Try.func4, Try.ntmps4
    go_wp2_with fail
    refine (awake_any _).mono ?_
    rintro e v1 ⟨rfl, hb1⟩
    go_wp2_with fail
    go_ret
    exact ⟨rfl, hb1⟩
end Go.Proofs.Ytcjkgegahfligaa
