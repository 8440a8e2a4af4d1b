/- The statement NetPass, walked out of the contracts of what it calls. -/
import Derived.Test.YtmeieokembjabaaNetSl
namespace Go.Proofs.Ytmeieokembjabaa
open Go.ChangeShapes Go.WideShapes Go.ChangeAt Go.RowKit
set_option linter.unusedVariables false

set_option maxRecDepth 100000 in
set_option maxHeartbeats 8000000 in
theorem netPass_walk (a : Option Addr) (n c : Nat) (ps : List Pk) (i : Int) (w : World) (hr : Pks w a n c ps) :
    Calls Try.prog 6 #[.slice a n c, .int .i64 i] w fun e w' => e = .returned (.bool true) ∧ Below w.heap.size w w' := by
  have hn63 : n ≤ 9223372036854775807 := Nat.le_trans hr.le hr.cap
  have HF := Lib.hid (fun w' h => few_any a n c ps 64 w' h)
  have HR := Lib.hid hr
  clear hr
  obtain ⟨few, hfew⟩ : ∃ few, few = fewB ps 64 := ⟨_, rfl⟩
  rw [← hfew] at HF
  have HW0 := Lib.hid hfew
  clear hfew
  go_enter Try.func6, Try.ntmps6
  go_wp2_with fail
  refine (awake21 _).mono ?_
  rintro e w1 ⟨rfl, hb⟩
  have HB1 := Lib.hid hb
  clear hb
  go_wp2_with fail
  refine (HF.out _ (HR.out.below HB1.out)).mono ?_
  rintro e w' ⟨rfl, rfl⟩
  cases few with
  | false =>
    go_wp2_with fail
    go_ret
    exact ⟨rfl, HB1.out⟩
  | true =>
    have hn : n ≤ 64 := by have := (fewB_of HW0.out.symm).1; rw [HR.out.len] at this; omega
    have HP := Lib.hid (fun w' h => pass_any a n c ps i w' h (by omega) (fun j _ => Nat.le_trans ((fewB_of HW0.out.symm).2 j) (by decide)))
    unfold PassP at HP
    obtain ⟨pr, hpr⟩ : ∃ pr, pr = outP ps i := ⟨_, rfl⟩
    obtain ⟨qs, hqs⟩ : ∃ qs, qs = passP ps i := ⟨_, rfl⟩
    obtain ⟨is, his⟩ : ∃ is, is = hasP ps i := ⟨_, rfl⟩
    rw [← hpr, ← hqs, ← his] at HP
    obtain ⟨L, hL⟩ : ∃ L, L = pr.by_.length := ⟨_, rfl⟩
    obtain ⟨m, hm⟩ : ∃ m, m = qs.length := ⟨_, rfl⟩
    have HPR := Lib.hid hpr
    have HQS := Lib.hid hqs
    have HIS := Lib.hid his
    have HL := Lib.hid hL
    have HM := Lib.hid hm
    rw [← hL, ← hm] at HP
    clear hpr hqs his hL hm HF
    go_wp2_with fail
    refine (HP.out _ (HR.out.below HB1.out)).mono ?_
    rintro e w2 ⟨x, cx, a2, c2, rfl, hx1, hx2, hk2, hb⟩
    have HB2 := Lib.hid (HB1.out.step hb)
    have HX2 := Lib.hid (And.intro hx1 hx2)
    have HK2 := Lib.hid hk2
    clear hb hx1 hx2 hk2 HB1 HP
    go_upto_region 6 with fail
    generalize hw3 : w2.alloc (.cells _ _) = w3
    obtain ⟨b3, hb3⟩ : ∃ b3, b3 = w2.heap.size := ⟨_, rfl⟩
    have hb23 : Below w2.heap.size w2 w3 := by rw [← hw3]; exact (Below.refl _ _).alloc (Nat.le_refl _) _
    have HC3 := Lib.hid (show Cel w3 b3 25 [.int .i64 pr.fr, .int .i64 pr.to, .slice x L cx] by rw [← hw3, hb3]; exact Cel.new w2 _ _)
    have HB3 := Lib.hid (HB2.out.step hb23)
    have HK3 := Lib.hid (HK2.out.below hb23)
    have HX3 := Lib.hid (And.intro (HX2.out.1.below hb23) HX2.out.2)
    rw [← hb3]
    clear hw3 hb3 hb23 HK2 HX2 HB2
    cases is with
    | false =>
      have HE := Lib.hid (show qs = ps ∧ m = n ∧ L = 0 by
        have h := HIS.out.symm
        have h1 : qs = ps := by rw [HQS.out]; unfold passP; rw [h, if_neg (by decide)]
        refine ⟨h1, by rw [HM.out, h1, HR.out.len], ?_⟩
        rw [HL.out, HPR.out]; unfold outP; rw [h, if_neg (by decide)]; rfl)
      have HS := Lib.hid (fun w' h h' => show Calls Try.prog 21 #[.slice a2 m c2, .slice a n c] w' (fun e w'' => e = .returned (.bool true) ∧ Below w'.heap.size w' w'') by
        have := same_any a2 a m n c2 c qs ps w' h h'
        rw [decide_eq_true HE.out.1] at this
        exact this)
      have hout : i < 0 ∨ (n : Int) ≤ i := by
        have h := HIS.out.symm
        unfold hasP at h
        rw [HR.out.len, Bool.and_eq_false_iff, decide_eq_false_iff_not, decide_eq_false_iff_not] at h
        omega
      by_cases hi0 : i < 0
      · clear hout
        go_wp2_with fail
        refine (HS.out _ HK3.out (HR.out.below HB3.out)).mono ?_
        rintro e w4 ⟨rfl, hb⟩
        have HB4 := Lib.hid (HB3.out.step hb)
        have p2 : w4.cell? ⟨b3, 2, none⟩ = some (.slice x 0 cx) := by rw [← HE.out.2.2]; exact (HC3.out.step hb).at 2 _ rfl
        clear hb
        go_wp2_with fail
        go_ret
        exact ⟨rfl, HB4.out⟩
      · have hi1 : i ≥ (n : Int) := by omega
        clear hout
        go_wp2_with fail
        refine (HS.out _ HK3.out (HR.out.below HB3.out)).mono ?_
        rintro e w4 ⟨rfl, hb⟩
        have HB4 := Lib.hid (HB3.out.step hb)
        have p2 : w4.cell? ⟨b3, 2, none⟩ = some (.slice x 0 cx) := by rw [← HE.out.2.2]; exact (HC3.out.step hb).at 2 _ rfl
        clear hb
        go_wp2_with fail
        go_ret
        exact ⟨rfl, HB4.out⟩
    | true =>
      obtain ⟨k, hik, hkn⟩ := hasP_nat HIS.out.symm
      rw [HR.out.len] at hkn
      obtain ⟨r, hrn⟩ : ∃ r, k + 1 + r = n := ⟨n - (k + 1), by omega⟩
      have hlen := HR.out.len
      have HE := Lib.hid (show qs = ps.eraseIdx k ∧ pr = ps.getD k noPk ∧ m + 1 = n by
        have h := passP_at (ps := ps) (k := k) (by omega)
        have h1 : qs = ps.eraseIdx k := by rw [HQS.out, hik]; exact h.2.1
        refine ⟨h1, by rw [HPR.out, hik]; exact h.2.2, ?_⟩
        rw [HM.out, h1, List.length_eraseIdx, if_pos (by omega), hlen]; omega)
      have hmn := HE.out.2.2
      obtain ⟨k1, hk1⟩ : ∃ k1, k1 = k + 1 := ⟨_, rfl⟩
      obtain ⟨y1, hy1, hy1', hY1⟩ := HR.out.lh k k1 1 (by omega) (by omega)
      obtain ⟨y2, hy2, hy2', hY2⟩ := HR.out.h k (by omega)
      obtain ⟨y3, hy3, hy3', hY3⟩ := HR.out.l k1 r (by omega)
      obtain ⟨y4, hy4, hy4', hY4⟩ := HK3.out.h k (by omega)
      obtain ⟨y5, hy5, hy5', hY5⟩ := HK3.out.l k r (by omega)
      have HS1 := Lib.hid (fun w' b h (h' : Pks w' b 1 1 [pr]) => show Calls Try.prog 21 #[.slice y1 1 (c - k), .slice b 1 1] w' (fun e w'' => e = .returned (.bool true) ∧ Below w'.heap.size w' w'') by
        have := same_any y1 b 1 1 (c - k) 1 _ [pr] w' (hY1 w' h) h'
        rw [decide_eq_true (by rw [hk1, take_one ps k (by omega), HE.out.2.1])] at this
        exact this)
      have HS2 := Lib.hid (fun w' h h' => show Calls Try.prog 21 #[.slice y2 k c, .slice y4 k c2] w' (fun e w'' => e = .returned (.bool true) ∧ Below w'.heap.size w' w'') by
        have := same_any y2 y4 k k c c2 _ _ w' (hY2 w' h) (hY4 w' h')
        rw [decide_eq_true (by rw [HE.out.1, take_erase ps k (by omega)])] at this
        exact this)
      have HS3 := Lib.hid (fun w' h h' => show Calls Try.prog 21 #[.slice y3 r (c - k1), .slice y5 r (c2 - k)] w' (fun e w'' => e = .returned (.bool true) ∧ Below w'.heap.size w' w'') by
        have := same_any y3 y5 r r (c - k1) (c2 - k) _ _ w' (hY3 w' h) (hY5 w' h')
        rw [decide_eq_true (by rw [HE.out.1, hk1, drop_erase ps k (by omega)])] at this
        exact this)
      have hw1 : IntKind.i64.wrap ((k : Int) + 1) = (k1 : Int) := by rw [IntWalk.i64_in _ ⟨by omega, by omega⟩]; omega
      have hi0 : ¬ (k : Int) < 0 := by omega
      have hi1 : ¬ (k : Int) ≥ (n : Int) := by omega
      have hmw : (n : Int) - 1 = (m : Int) := by omega
      subst hik
      clear hY1 hY2 hY3 hY4 hY5 hlen hk1 hrn hmn hn63
      go_upto_region 10 with fail
      have hD : ∀ j, j < 28 → ∀ n, n < 28 → j ≠ n → dkN [64, 65, 66, 67, 68, 69, 70, 71, 72, 73, 74, 75, 76, 77, 78, 79, 80, 81, 82, 83, 84, 85, 86, 87, 88, 89, 90, 4] j ≠ dkN [64, 65, 66, 67, 68, 69, 70, 71, 72, 73, 74, 75, 76, 77, 78, 79, 80, 81, 82, 83, 84, 85, 86, 87, 88, 89, 90, 4] n := by decide +kernel
      refine region_fun (by kernel_rfl) (by kernel_rfl) (fun gv => #[.slice a n c, .int .i64 (k : Int), undef, undef, gv 4, .bool true, .bool true, .pointer (some ⟨b3, 0, none⟩), .slice a2 m c2, .bool true, gv 10, gv 11, gv 12, gv 13, gv 14, gv 15, gv 16, gv 17, gv 18, gv 19, gv 20, gv 21, gv 22, gv 23, gv 24, gv 25, gv 26, gv 27, gv 28, gv 29, gv 30, gv 31, gv 32, gv 33, gv 34, gv 35, gv 36, gv 37, gv 38, gv 39, gv 40, gv 41, gv 42, gv 43, gv 44, gv 45, gv 46, gv 47, gv 48, gv 49, gv 50, gv 51, gv 52, gv 53, gv 54, gv 55, gv 56, gv 57, gv 58, gv 59, gv 60, gv 61, gv 62, gv 63, gv 64, gv 65, gv 66, gv 67, gv 68, gv 69, gv 70, gv 71, gv 72, gv 73, gv 74, gv 75, gv 76, gv 77, gv 78, gv 79, gv 80, gv 81, gv 82, gv 83, gv 84, gv 85, gv 86, gv 87, gv 88, gv 89, gv 90]) rfl (fun f gv wx => Below w.heap.size w wx ∧ (∀ j, j < 28 → (fun j => Nat.beq j 6) j = false → On f j → gv (dkN [64, 65, 66, 67, 68, 69, 70, 71, 72, 73, 74, 75, 76, 77, 78, 79, 80, 81, 82, 83, 84, 85, 86, 87, 88, 89, 90, 4] j) = vkN [.slice a n c, .int .i64 (k : Int), .int .i64 (k : Int), .int .i64 (k1 : Int), .slice y1 1 (c - k), .agg #[.int .i64 pr.fr, .int .i64 pr.to, .slice x L cx], undef, .bool true, .bool true, .slice a n c, .int .i64 (k : Int), .slice y2 k (c), .slice a2 m c2, .int .i64 (k : Int), .slice y4 k (c2), .bool true, .bool true, .bool true, .slice a n c, .int .i64 (k : Int), .int .i64 (k1 : Int), .slice y3 r (c - k1), .slice a2 m c2, .int .i64 (k : Int), .slice y5 r (c2 - k), .bool true, .bool true, .bool true] j) ∧ ((On f 6 → ∃ b, gv 70 = .slice (some ⟨b, 0, none⟩) 1 1 ∧ Cel wx b 25 [.int .i64 pr.fr, .int .i64 pr.to, .slice x L cx])) ∧ (Below w3.heap.size w3 wx)) ?_ ?_ ?_
      · have hoff : ∀ j, ¬ On (Array.replicate 28 false) j := by
          intro j hj; simp only [On, Array.getD_eq_getD_getElem?, Array.getElem?_replicate] at hj; split at hj <;> simp at hj
        exact ⟨HB3.out.drew, fun j _ _ x => absurd x (hoff _), fun x => absurd x (hoff _), (Below.refl _ _).drew⟩
      · rintro i' o' f gv wm hio hs' hn he ⟨hBx, P, Q6, hBx2⟩ KK hKK
        have hi' : i' < 28 := (Array.getElem?_eq_some_iff.1 hio).1
        replace hs' : f.size = 28 := hs'
        match i', hi' with
        | 0, _ =>
          cases hio
          have off : ¬ On f 0 := on_off (by omega) hn
          have HQ := Lib.hid (And.intro P (And.intro Q6 hBx2))
          clear P Q6 hBx2
          go_simp
          obtain ⟨P, Q6, hBx2⟩ := HQ.out
          have bk : ∀ j, j ≠ 0 → On (f.setIfInBounds 0 true) j → On f j := fun j hj x => on_back (by omega) x hj
          have fw : ∀ j, On f j → On (f.setIfInBounds 0 true) j := fun j x => (on_put (by omega)).2 (.inr x)
          have fn : On (f.setIfInBounds 0 true) 0 := (on_put (by omega)).2 (.inl rfl)
          exact hKK (upd gv 64 (.slice a n c)) _ (by exact ⟨hBx, vals_step (n := 0) (v := .slice a n c) hD (by decide) (by omega) P (fun _ => rfl), fun x => Q6 (bk 6 (by decide) x), hBx2⟩)
        | 1, _ =>
          cases hio
          have off : ¬ On f 1 := on_off (by omega) hn
          have HQ := Lib.hid (And.intro P (And.intro Q6 hBx2))
          clear P Q6 hBx2
          go_simp
          obtain ⟨P, Q6, hBx2⟩ := HQ.out
          have bk : ∀ j, j ≠ 1 → On (f.setIfInBounds 1 true) j → On f j := fun j hj x => on_back (by omega) x hj
          have fw : ∀ j, On f j → On (f.setIfInBounds 1 true) j := fun j x => (on_put (by omega)).2 (.inr x)
          have fn : On (f.setIfInBounds 1 true) 1 := (on_put (by omega)).2 (.inl rfl)
          exact hKK (upd gv 65 (.int .i64 (k : Int))) _ (by exact ⟨hBx, vals_step (n := 1) (v := .int .i64 (k : Int)) hD (by decide) (by omega) P (fun _ => rfl), fun x => Q6 (bk 6 (by decide) x), hBx2⟩)
        | 2, _ =>
          cases hio
          have off : ¬ On f 2 := on_off (by omega) hn
          have HQ := Lib.hid (And.intro P (And.intro Q6 hBx2))
          clear P Q6 hBx2
          go_simp
          obtain ⟨P, Q6, hBx2⟩ := HQ.out
          have bk : ∀ j, j ≠ 2 → On (f.setIfInBounds 2 true) j → On f j := fun j hj x => on_back (by omega) x hj
          have fw : ∀ j, On f j → On (f.setIfInBounds 2 true) j := fun j x => (on_put (by omega)).2 (.inr x)
          have fn : On (f.setIfInBounds 2 true) 2 := (on_put (by omega)).2 (.inl rfl)
          exact hKK (upd gv 66 (.int .i64 (k : Int))) _ (by exact ⟨hBx, vals_step (n := 2) (v := .int .i64 (k : Int)) hD (by decide) (by omega) P (fun _ => rfl), fun x => Q6 (bk 6 (by decide) x), hBx2⟩)
        | 3, _ =>
          cases hio
          have off : ¬ On f 3 := on_off (by omega) hn
          have h2 : On f 2 := he ⟨2, .data⟩ (by simp) rfl
          have e2 : gv 66 = .int .i64 (k : Int) := P 2 (by decide) rfl h2
          rw [e2]
          have HQ := Lib.hid (And.intro P (And.intro Q6 hBx2))
          clear P Q6 hBx2
          go_simp
          obtain ⟨P, Q6, hBx2⟩ := HQ.out
          have bk : ∀ j, j ≠ 3 → On (f.setIfInBounds 3 true) j → On f j := fun j hj x => on_back (by omega) x hj
          have fw : ∀ j, On f j → On (f.setIfInBounds 3 true) j := fun j x => (on_put (by omega)).2 (.inr x)
          have fn : On (f.setIfInBounds 3 true) 3 := (on_put (by omega)).2 (.inl rfl)
          exact hKK (upd (upd gv 66 (.int .i64 (k : Int))) 67 (.int .i64 (k1 : Int))) _ (by rw [upd_same e2]; exact ⟨hBx, vals_step (n := 3) (v := .int .i64 (k1 : Int)) hD (by decide) (by omega) P (fun _ => rfl), fun x => Q6 (bk 6 (by decide) x), hBx2⟩)
        | 4, _ =>
          cases hio
          have off : ¬ On f 4 := on_off (by omega) hn
          have h0 : On f 0 := he ⟨0, .data⟩ (by simp) rfl
          have e0 : gv 64 = .slice a n c := P 0 (by decide) rfl h0
          have h1 : On f 1 := he ⟨1, .data⟩ (by simp) rfl
          have e1 : gv 65 = .int .i64 (k : Int) := P 1 (by decide) rfl h1
          have h3 : On f 3 := he ⟨3, .data⟩ (by simp) rfl
          have e3 : gv 67 = .int .i64 (k1 : Int) := P 3 (by decide) rfl h3
          rw [e0, e1, e3]
          have HQ := Lib.hid (And.intro P (And.intro Q6 hBx2))
          clear P Q6 hBx2
          go_simp
          obtain ⟨P, Q6, hBx2⟩ := HQ.out
          have bk : ∀ j, j ≠ 4 → On (f.setIfInBounds 4 true) j → On f j := fun j hj x => on_back (by omega) x hj
          have fw : ∀ j, On f j → On (f.setIfInBounds 4 true) j := fun j x => (on_put (by omega)).2 (.inr x)
          have fn : On (f.setIfInBounds 4 true) 4 := (on_put (by omega)).2 (.inl rfl)
          exact hKK (upd (upd (upd (upd gv 64 (.slice a n c)) 65 (.int .i64 (k : Int))) 67 (.int .i64 (k1 : Int))) 68 (.slice y1 1 (c - k))) _ (by rw [upd_same e0]; rw [upd_same e1]; rw [upd_same e3]; exact ⟨hBx, vals_step (n := 4) (v := .slice y1 1 (c - k)) hD (by decide) (by omega) P (fun _ => rfl), fun x => Q6 (bk 6 (by decide) x), hBx2⟩)
        | 5, _ =>
          cases hio
          have off : ¬ On f 5 := on_off (by omega) hn
          have d0 : wm.cell? ⟨b3, 0, none⟩ = some (.int .i64 pr.fr) := (HC3.out.step hBx2).at 0 _ rfl
          have d1 : wm.cell? ⟨b3, 1, none⟩ = some (.int .i64 pr.to) := (HC3.out.step hBx2).at 1 _ rfl
          have d2 : wm.cell? ⟨b3, 2, none⟩ = some (.slice x L cx) := (HC3.out.step hBx2).at 2 _ rfl
          have HQ := Lib.hid (And.intro P (And.intro Q6 hBx2))
          clear P Q6 hBx2
          go_simp
          obtain ⟨P, Q6, hBx2⟩ := HQ.out
          have bk : ∀ j, j ≠ 5 → On (f.setIfInBounds 5 true) j → On f j := fun j hj x => on_back (by omega) x hj
          have fw : ∀ j, On f j → On (f.setIfInBounds 5 true) j := fun j x => (on_put (by omega)).2 (.inr x)
          have fn : On (f.setIfInBounds 5 true) 5 := (on_put (by omega)).2 (.inl rfl)
          exact hKK (upd gv 69 (.agg #[.int .i64 pr.fr, .int .i64 pr.to, .slice x L cx])) _ (by exact ⟨hBx, vals_step (n := 5) (v := .agg #[.int .i64 pr.fr, .int .i64 pr.to, .slice x L cx]) hD (by decide) (by omega) P (fun _ => rfl), fun x => Q6 (bk 6 (by decide) x), hBx2⟩)
        | 6, _ =>
          cases hio
          have off : ¬ On f 6 := on_off (by omega) hn
          have h5 : On f 5 := he ⟨5, .data⟩ (by simp) rfl
          have e5 : gv 69 = .agg #[.int .i64 pr.fr, .int .i64 pr.to, .slice x L cx] := P 5 (by decide) rfl h5
          rw [e5]
          have HQ := Lib.hid (And.intro P (And.intro Q6 hBx2))
          clear P Q6 hBx2
          go_simp
          obtain ⟨b, hbb⟩ : ∃ b, b = wm.heap.size := ⟨_, rfl⟩
          obtain ⟨w6, hw6⟩ : ∃ w6, w6 = wm.alloc (.cells ([.int .i64 pr.fr, .int .i64 pr.to, .slice x L cx] : List Value).toArray 25) := ⟨_, rfl⟩
          have hb : Below wm.heap.size wm w6 := by rw [hw6]; exact (Below.refl _ _).alloc (Nat.le_refl _) _
          have hcb : Cel w6 b 25 [.int .i64 pr.fr, .int .i64 pr.to, .slice x L cx] := by rw [hw6, hbb]; exact Cel.new wm _ _
          show KK ⟨#[_, _, _, _, _, _, _, _, _, _, _, _, _, _, _, _, _, _, _, _, _, _, _, _, _, _, _, _, _, _, _, _, _, _, _, _, _, _, _, _, _, _, _, _, _, _, _, _, _, _, _, _, _, _, _, _, _, _, _, _, _, _, _, _, _, _, _, _, _, _, .slice (some ⟨wm.heap.size, 0, none⟩) 1 1, _, _, _, _, _, _, _, _, _, _, _, _, _, _, _, _, _, _, _, _], []⟩ (wm.alloc (.cells ([.int .i64 pr.fr, .int .i64 pr.to, .slice x L cx] : List Value).toArray 25))
          rw [← hbb, ← hw6]
          obtain ⟨P, Q6, hBx2⟩ := HQ.out
          have bk : ∀ j, j ≠ 6 → On (f.setIfInBounds 6 true) j → On f j := fun j hj x => on_back (by omega) x hj
          have fw : ∀ j, On f j → On (f.setIfInBounds 6 true) j := fun j x => (on_put (by omega)).2 (.inr x)
          have fn : On (f.setIfInBounds 6 true) 6 := (on_put (by omega)).2 (.inl rfl)
          exact hKK (upd (upd gv 69 (.agg #[.int .i64 pr.fr, .int .i64 pr.to, .slice x L cx])) 70 (.slice (some ⟨b, 0, none⟩) 1 1)) _ (by rw [upd_same e5]; exact ⟨hBx.step hb, vals_step (n := 6) (v := .slice (some ⟨b, 0, none⟩) 1 1) hD (by decide) (by omega) P (fun h => nomatch (show true = false from h)), fun _ => ⟨b, rfl, hcb⟩, hBx2.step hb⟩)
        | 7, _ =>
          cases hio
          have off : ¬ On f 7 := on_off (by omega) hn
          have h4 : On f 4 := he ⟨4, .data⟩ (by simp) rfl
          have e4 : gv 68 = .slice y1 1 (c - k) := P 4 (by decide) rfl h4
          have h6 : On f 6 := he ⟨6, .data⟩ (by simp) rfl
          obtain ⟨b, e6, hcb⟩ := Q6 h6
          have HA := Lib.hid (And.intro ((HR.out.below HB3.out).below hBx2) (Pks.one (p := pr) (by rw [← HL.out]; exact hcb) (by rw [← HL.out]; exact HX3.out.1.below hBx2) HX3.out.2))
          rw [e4, e6]
          have HQ := Lib.hid (And.intro P (And.intro Q6 hBx2))
          clear P Q6 hBx2
          go_simp
          refine (HS1.out _ _ HA.out.1 HA.out.2).mono ?_
          rintro e w6 ⟨rfl, hb⟩
          obtain ⟨P, Q6, hBx2⟩ := HQ.out
          have bk : ∀ j, j ≠ 7 → On (f.setIfInBounds 7 true) j → On f j := fun j hj x => on_back (by omega) x hj
          have fw : ∀ j, On f j → On (f.setIfInBounds 7 true) j := fun j x => (on_put (by omega)).2 (.inr x)
          have fn : On (f.setIfInBounds 7 true) 7 := (on_put (by omega)).2 (.inl rfl)
          exact hKK (upd (upd (upd gv 68 (.slice y1 1 (c - k))) 70 (.slice (some ⟨b, 0, none⟩) 1 1)) 71 (.bool true)) _ (by rw [upd_same e4]; rw [upd_same e6]; exact ⟨hBx.step hb, vals_step (n := 7) (v := .bool true) hD (by decide) (by omega) P (fun _ => rfl), fun x => by obtain ⟨b, e9, hcb⟩ := Q6 (bk 6 (by decide) x); exact ⟨_, e9, hcb.step hb⟩, hBx2.step hb⟩)
        | 8, _ =>
          cases hio
          have off : ¬ On f 8 := on_off (by omega) hn
          have h7 : On f 7 := he ⟨7, .data⟩ (by simp) rfl
          have e7 : gv 71 = .bool true := P 7 (by decide) rfl h7
          rw [e7]
          have HQ := Lib.hid (And.intro P (And.intro Q6 hBx2))
          clear P Q6 hBx2
          go_simp
          obtain ⟨P, Q6, hBx2⟩ := HQ.out
          have bk : ∀ j, j ≠ 8 → On (f.setIfInBounds 8 true) j → On f j := fun j hj x => on_back (by omega) x hj
          have fw : ∀ j, On f j → On (f.setIfInBounds 8 true) j := fun j x => (on_put (by omega)).2 (.inr x)
          have fn : On (f.setIfInBounds 8 true) 8 := (on_put (by omega)).2 (.inl rfl)
          exact hKK (upd (upd gv 71 (.bool true)) 72 (.bool true)) _ (by rw [upd_same e7]; exact ⟨hBx, vals_step (n := 8) (v := .bool true) hD (by decide) (by omega) P (fun _ => rfl), fun x => Q6 (bk 6 (by decide) x), hBx2⟩)
        | 9, _ =>
          cases hio
          have off : ¬ On f 9 := on_off (by omega) hn
          have h8 : On f 8 := he ⟨8, .guard⟩ (by simp) rfl
          have e8 : gv 72 = .bool true := P 8 (by decide) rfl h8
          rw [e8]
          rw [if_pos (by rfl)]
          have HQ := Lib.hid (And.intro P (And.intro Q6 hBx2))
          clear P Q6 hBx2
          go_simp
          obtain ⟨P, Q6, hBx2⟩ := HQ.out
          have bk : ∀ j, j ≠ 9 → On (f.setIfInBounds 9 true) j → On f j := fun j hj x => on_back (by omega) x hj
          have fw : ∀ j, On f j → On (f.setIfInBounds 9 true) j := fun j x => (on_put (by omega)).2 (.inr x)
          have fn : On (f.setIfInBounds 9 true) 9 := (on_put (by omega)).2 (.inl rfl)
          exact hKK (upd (upd gv 72 (.bool true)) 73 (.slice a n c)) _ (by rw [upd_same e8]; exact ⟨hBx, vals_step (n := 9) (v := .slice a n c) hD (by decide) (by omega) P (fun _ => rfl), fun x => Q6 (bk 6 (by decide) x), hBx2⟩)
        | 10, _ =>
          cases hio
          have off : ¬ On f 10 := on_off (by omega) hn
          have h8 : On f 8 := he ⟨8, .guard⟩ (by simp) rfl
          have e8 : gv 72 = .bool true := P 8 (by decide) rfl h8
          rw [e8]
          rw [if_pos (by rfl)]
          have HQ := Lib.hid (And.intro P (And.intro Q6 hBx2))
          clear P Q6 hBx2
          go_simp
          obtain ⟨P, Q6, hBx2⟩ := HQ.out
          have bk : ∀ j, j ≠ 10 → On (f.setIfInBounds 10 true) j → On f j := fun j hj x => on_back (by omega) x hj
          have fw : ∀ j, On f j → On (f.setIfInBounds 10 true) j := fun j x => (on_put (by omega)).2 (.inr x)
          have fn : On (f.setIfInBounds 10 true) 10 := (on_put (by omega)).2 (.inl rfl)
          exact hKK (upd (upd gv 72 (.bool true)) 74 (.int .i64 (k : Int))) _ (by rw [upd_same e8]; exact ⟨hBx, vals_step (n := 10) (v := .int .i64 (k : Int)) hD (by decide) (by omega) P (fun _ => rfl), fun x => Q6 (bk 6 (by decide) x), hBx2⟩)
        | 11, _ =>
          cases hio
          have off : ¬ On f 11 := on_off (by omega) hn
          have h8 : On f 8 := he ⟨8, .guard⟩ (by simp) rfl
          have e8 : gv 72 = .bool true := P 8 (by decide) rfl h8
          have h9 : On f 9 := he ⟨9, .data⟩ (by simp) rfl
          have e9 : gv 73 = .slice a n c := P 9 (by decide) rfl h9
          have h10 : On f 10 := he ⟨10, .data⟩ (by simp) rfl
          have e10 : gv 74 = .int .i64 (k : Int) := P 10 (by decide) rfl h10
          rw [e8, e9, e10]
          rw [if_pos (by rfl)]
          have HQ := Lib.hid (And.intro P (And.intro Q6 hBx2))
          clear P Q6 hBx2
          go_simp
          obtain ⟨P, Q6, hBx2⟩ := HQ.out
          have bk : ∀ j, j ≠ 11 → On (f.setIfInBounds 11 true) j → On f j := fun j hj x => on_back (by omega) x hj
          have fw : ∀ j, On f j → On (f.setIfInBounds 11 true) j := fun j x => (on_put (by omega)).2 (.inr x)
          have fn : On (f.setIfInBounds 11 true) 11 := (on_put (by omega)).2 (.inl rfl)
          exact hKK (upd (upd (upd (upd gv 72 (.bool true)) 73 (.slice a n c)) 74 (.int .i64 (k : Int))) 75 (.slice y2 k (c))) _ (by rw [upd_same e8]; rw [upd_same e9]; rw [upd_same e10]; exact ⟨hBx, vals_step (n := 11) (v := .slice y2 k (c)) hD (by decide) (by omega) P (fun _ => rfl), fun x => Q6 (bk 6 (by decide) x), hBx2⟩)
        | 12, _ =>
          cases hio
          have off : ¬ On f 12 := on_off (by omega) hn
          have h8 : On f 8 := he ⟨8, .guard⟩ (by simp) rfl
          have e8 : gv 72 = .bool true := P 8 (by decide) rfl h8
          rw [e8]
          rw [if_pos (by rfl)]
          have HQ := Lib.hid (And.intro P (And.intro Q6 hBx2))
          clear P Q6 hBx2
          go_simp
          obtain ⟨P, Q6, hBx2⟩ := HQ.out
          have bk : ∀ j, j ≠ 12 → On (f.setIfInBounds 12 true) j → On f j := fun j hj x => on_back (by omega) x hj
          have fw : ∀ j, On f j → On (f.setIfInBounds 12 true) j := fun j x => (on_put (by omega)).2 (.inr x)
          have fn : On (f.setIfInBounds 12 true) 12 := (on_put (by omega)).2 (.inl rfl)
          exact hKK (upd (upd gv 72 (.bool true)) 76 (.slice a2 m c2)) _ (by rw [upd_same e8]; exact ⟨hBx, vals_step (n := 12) (v := .slice a2 m c2) hD (by decide) (by omega) P (fun _ => rfl), fun x => Q6 (bk 6 (by decide) x), hBx2⟩)
        | 13, _ =>
          cases hio
          have off : ¬ On f 13 := on_off (by omega) hn
          have h8 : On f 8 := he ⟨8, .guard⟩ (by simp) rfl
          have e8 : gv 72 = .bool true := P 8 (by decide) rfl h8
          rw [e8]
          rw [if_pos (by rfl)]
          have HQ := Lib.hid (And.intro P (And.intro Q6 hBx2))
          clear P Q6 hBx2
          go_simp
          obtain ⟨P, Q6, hBx2⟩ := HQ.out
          have bk : ∀ j, j ≠ 13 → On (f.setIfInBounds 13 true) j → On f j := fun j hj x => on_back (by omega) x hj
          have fw : ∀ j, On f j → On (f.setIfInBounds 13 true) j := fun j x => (on_put (by omega)).2 (.inr x)
          have fn : On (f.setIfInBounds 13 true) 13 := (on_put (by omega)).2 (.inl rfl)
          exact hKK (upd (upd gv 72 (.bool true)) 77 (.int .i64 (k : Int))) _ (by rw [upd_same e8]; exact ⟨hBx, vals_step (n := 13) (v := .int .i64 (k : Int)) hD (by decide) (by omega) P (fun _ => rfl), fun x => Q6 (bk 6 (by decide) x), hBx2⟩)
        | 14, _ =>
          cases hio
          have off : ¬ On f 14 := on_off (by omega) hn
          have h8 : On f 8 := he ⟨8, .guard⟩ (by simp) rfl
          have e8 : gv 72 = .bool true := P 8 (by decide) rfl h8
          have h12 : On f 12 := he ⟨12, .data⟩ (by simp) rfl
          have e12 : gv 76 = .slice a2 m c2 := P 12 (by decide) rfl h12
          have h13 : On f 13 := he ⟨13, .data⟩ (by simp) rfl
          have e13 : gv 77 = .int .i64 (k : Int) := P 13 (by decide) rfl h13
          rw [e8, e12, e13]
          rw [if_pos (by rfl)]
          have HQ := Lib.hid (And.intro P (And.intro Q6 hBx2))
          clear P Q6 hBx2
          go_simp
          obtain ⟨P, Q6, hBx2⟩ := HQ.out
          have bk : ∀ j, j ≠ 14 → On (f.setIfInBounds 14 true) j → On f j := fun j hj x => on_back (by omega) x hj
          have fw : ∀ j, On f j → On (f.setIfInBounds 14 true) j := fun j x => (on_put (by omega)).2 (.inr x)
          have fn : On (f.setIfInBounds 14 true) 14 := (on_put (by omega)).2 (.inl rfl)
          exact hKK (upd (upd (upd (upd gv 72 (.bool true)) 76 (.slice a2 m c2)) 77 (.int .i64 (k : Int))) 78 (.slice y4 k (c2))) _ (by rw [upd_same e8]; rw [upd_same e12]; rw [upd_same e13]; exact ⟨hBx, vals_step (n := 14) (v := .slice y4 k (c2)) hD (by decide) (by omega) P (fun _ => rfl), fun x => Q6 (bk 6 (by decide) x), hBx2⟩)
        | 15, _ =>
          cases hio
          have off : ¬ On f 15 := on_off (by omega) hn
          have h8 : On f 8 := he ⟨8, .guard⟩ (by simp) rfl
          have e8 : gv 72 = .bool true := P 8 (by decide) rfl h8
          have h11 : On f 11 := he ⟨11, .data⟩ (by simp) rfl
          have e11 : gv 75 = .slice y2 k (c) := P 11 (by decide) rfl h11
          have h14 : On f 14 := he ⟨14, .data⟩ (by simp) rfl
          have e14 : gv 78 = .slice y4 k (c2) := P 14 (by decide) rfl h14
          have HA := Lib.hid (And.intro ((HR.out.below HB3.out).below hBx2) (HK3.out.below hBx2))
          rw [e8, e11, e14]
          rw [if_pos (by rfl)]
          have HQ := Lib.hid (And.intro P (And.intro Q6 hBx2))
          clear P Q6 hBx2
          go_simp
          refine (HS2.out _ HA.out.1 HA.out.2).mono ?_
          rintro e w6 ⟨rfl, hb⟩
          obtain ⟨P, Q6, hBx2⟩ := HQ.out
          have bk : ∀ j, j ≠ 15 → On (f.setIfInBounds 15 true) j → On f j := fun j hj x => on_back (by omega) x hj
          have fw : ∀ j, On f j → On (f.setIfInBounds 15 true) j := fun j x => (on_put (by omega)).2 (.inr x)
          have fn : On (f.setIfInBounds 15 true) 15 := (on_put (by omega)).2 (.inl rfl)
          exact hKK (upd (upd (upd (upd gv 72 (.bool true)) 75 (.slice y2 k (c))) 78 (.slice y4 k (c2))) 79 (.bool true)) _ (by rw [upd_same e8]; rw [upd_same e11]; rw [upd_same e14]; exact ⟨hBx.step hb, vals_step (n := 15) (v := .bool true) hD (by decide) (by omega) P (fun _ => rfl), fun x => by obtain ⟨b, e9, hcb⟩ := Q6 (bk 6 (by decide) x); exact ⟨_, e9, hcb.step hb⟩, hBx2.step hb⟩)
        | 16, _ =>
          cases hio
          have off : ¬ On f 16 := on_off (by omega) hn
          have h8 : On f 8 := he ⟨8, .data⟩ (by simp) rfl
          have e8 : gv 72 = .bool true := P 8 (by decide) rfl h8
          have h15 : On f 15 := he ⟨15, .data⟩ (by simp) rfl
          have e15 : gv 79 = .bool true := P 15 (by decide) rfl h15
          rw [e8, e15]
          have HQ := Lib.hid (And.intro P (And.intro Q6 hBx2))
          clear P Q6 hBx2
          go_simp
          obtain ⟨P, Q6, hBx2⟩ := HQ.out
          have bk : ∀ j, j ≠ 16 → On (f.setIfInBounds 16 true) j → On f j := fun j hj x => on_back (by omega) x hj
          have fw : ∀ j, On f j → On (f.setIfInBounds 16 true) j := fun j x => (on_put (by omega)).2 (.inr x)
          have fn : On (f.setIfInBounds 16 true) 16 := (on_put (by omega)).2 (.inl rfl)
          exact hKK (upd (upd (upd gv 72 (.bool true)) 79 (.bool true)) 80 (.bool true)) _ (by rw [upd_same e8]; rw [upd_same e15]; exact ⟨hBx, vals_step (n := 16) (v := .bool true) hD (by decide) (by omega) P (fun _ => rfl), fun x => Q6 (bk 6 (by decide) x), hBx2⟩)
        | 17, _ =>
          cases hio
          have off : ¬ On f 17 := on_off (by omega) hn
          have h16 : On f 16 := he ⟨16, .data⟩ (by simp) rfl
          have e16 : gv 80 = .bool true := P 16 (by decide) rfl h16
          rw [e16]
          have HQ := Lib.hid (And.intro P (And.intro Q6 hBx2))
          clear P Q6 hBx2
          go_simp
          obtain ⟨P, Q6, hBx2⟩ := HQ.out
          have bk : ∀ j, j ≠ 17 → On (f.setIfInBounds 17 true) j → On f j := fun j hj x => on_back (by omega) x hj
          have fw : ∀ j, On f j → On (f.setIfInBounds 17 true) j := fun j x => (on_put (by omega)).2 (.inr x)
          have fn : On (f.setIfInBounds 17 true) 17 := (on_put (by omega)).2 (.inl rfl)
          exact hKK (upd (upd gv 80 (.bool true)) 81 (.bool true)) _ (by rw [upd_same e16]; exact ⟨hBx, vals_step (n := 17) (v := .bool true) hD (by decide) (by omega) P (fun _ => rfl), fun x => Q6 (bk 6 (by decide) x), hBx2⟩)
        | 18, _ =>
          cases hio
          have off : ¬ On f 18 := on_off (by omega) hn
          have h17 : On f 17 := he ⟨17, .guard⟩ (by simp) rfl
          have e17 : gv 81 = .bool true := P 17 (by decide) rfl h17
          rw [e17]
          rw [if_pos (by rfl)]
          have HQ := Lib.hid (And.intro P (And.intro Q6 hBx2))
          clear P Q6 hBx2
          go_simp
          obtain ⟨P, Q6, hBx2⟩ := HQ.out
          have bk : ∀ j, j ≠ 18 → On (f.setIfInBounds 18 true) j → On f j := fun j hj x => on_back (by omega) x hj
          have fw : ∀ j, On f j → On (f.setIfInBounds 18 true) j := fun j x => (on_put (by omega)).2 (.inr x)
          have fn : On (f.setIfInBounds 18 true) 18 := (on_put (by omega)).2 (.inl rfl)
          exact hKK (upd (upd gv 81 (.bool true)) 82 (.slice a n c)) _ (by rw [upd_same e17]; exact ⟨hBx, vals_step (n := 18) (v := .slice a n c) hD (by decide) (by omega) P (fun _ => rfl), fun x => Q6 (bk 6 (by decide) x), hBx2⟩)
        | 19, _ =>
          cases hio
          have off : ¬ On f 19 := on_off (by omega) hn
          have h17 : On f 17 := he ⟨17, .guard⟩ (by simp) rfl
          have e17 : gv 81 = .bool true := P 17 (by decide) rfl h17
          rw [e17]
          rw [if_pos (by rfl)]
          have HQ := Lib.hid (And.intro P (And.intro Q6 hBx2))
          clear P Q6 hBx2
          go_simp
          obtain ⟨P, Q6, hBx2⟩ := HQ.out
          have bk : ∀ j, j ≠ 19 → On (f.setIfInBounds 19 true) j → On f j := fun j hj x => on_back (by omega) x hj
          have fw : ∀ j, On f j → On (f.setIfInBounds 19 true) j := fun j x => (on_put (by omega)).2 (.inr x)
          have fn : On (f.setIfInBounds 19 true) 19 := (on_put (by omega)).2 (.inl rfl)
          exact hKK (upd (upd gv 81 (.bool true)) 83 (.int .i64 (k : Int))) _ (by rw [upd_same e17]; exact ⟨hBx, vals_step (n := 19) (v := .int .i64 (k : Int)) hD (by decide) (by omega) P (fun _ => rfl), fun x => Q6 (bk 6 (by decide) x), hBx2⟩)
        | 20, _ =>
          cases hio
          have off : ¬ On f 20 := on_off (by omega) hn
          have h17 : On f 17 := he ⟨17, .guard⟩ (by simp) rfl
          have e17 : gv 81 = .bool true := P 17 (by decide) rfl h17
          have h19 : On f 19 := he ⟨19, .data⟩ (by simp) rfl
          have e19 : gv 83 = .int .i64 (k : Int) := P 19 (by decide) rfl h19
          rw [e17, e19]
          rw [if_pos (by rfl)]
          have HQ := Lib.hid (And.intro P (And.intro Q6 hBx2))
          clear P Q6 hBx2
          go_simp
          obtain ⟨P, Q6, hBx2⟩ := HQ.out
          have bk : ∀ j, j ≠ 20 → On (f.setIfInBounds 20 true) j → On f j := fun j hj x => on_back (by omega) x hj
          have fw : ∀ j, On f j → On (f.setIfInBounds 20 true) j := fun j x => (on_put (by omega)).2 (.inr x)
          have fn : On (f.setIfInBounds 20 true) 20 := (on_put (by omega)).2 (.inl rfl)
          exact hKK (upd (upd (upd gv 81 (.bool true)) 83 (.int .i64 (k : Int))) 84 (.int .i64 (k1 : Int))) _ (by rw [upd_same e17]; rw [upd_same e19]; exact ⟨hBx, vals_step (n := 20) (v := .int .i64 (k1 : Int)) hD (by decide) (by omega) P (fun _ => rfl), fun x => Q6 (bk 6 (by decide) x), hBx2⟩)
        | 21, _ =>
          cases hio
          have off : ¬ On f 21 := on_off (by omega) hn
          have h17 : On f 17 := he ⟨17, .guard⟩ (by simp) rfl
          have e17 : gv 81 = .bool true := P 17 (by decide) rfl h17
          have h18 : On f 18 := he ⟨18, .data⟩ (by simp) rfl
          have e18 : gv 82 = .slice a n c := P 18 (by decide) rfl h18
          have h20 : On f 20 := he ⟨20, .data⟩ (by simp) rfl
          have e20 : gv 84 = .int .i64 (k1 : Int) := P 20 (by decide) rfl h20
          rw [e17, e18, e20]
          rw [if_pos (by rfl)]
          have HQ := Lib.hid (And.intro P (And.intro Q6 hBx2))
          clear P Q6 hBx2
          go_simp
          obtain ⟨P, Q6, hBx2⟩ := HQ.out
          have bk : ∀ j, j ≠ 21 → On (f.setIfInBounds 21 true) j → On f j := fun j hj x => on_back (by omega) x hj
          have fw : ∀ j, On f j → On (f.setIfInBounds 21 true) j := fun j x => (on_put (by omega)).2 (.inr x)
          have fn : On (f.setIfInBounds 21 true) 21 := (on_put (by omega)).2 (.inl rfl)
          exact hKK (upd (upd (upd (upd gv 81 (.bool true)) 82 (.slice a n c)) 84 (.int .i64 (k1 : Int))) 85 (.slice y3 r (c - k1))) _ (by rw [upd_same e17]; rw [upd_same e18]; rw [upd_same e20]; exact ⟨hBx, vals_step (n := 21) (v := .slice y3 r (c - k1)) hD (by decide) (by omega) P (fun _ => rfl), fun x => Q6 (bk 6 (by decide) x), hBx2⟩)
        | 22, _ =>
          cases hio
          have off : ¬ On f 22 := on_off (by omega) hn
          have h17 : On f 17 := he ⟨17, .guard⟩ (by simp) rfl
          have e17 : gv 81 = .bool true := P 17 (by decide) rfl h17
          rw [e17]
          rw [if_pos (by rfl)]
          have HQ := Lib.hid (And.intro P (And.intro Q6 hBx2))
          clear P Q6 hBx2
          go_simp
          obtain ⟨P, Q6, hBx2⟩ := HQ.out
          have bk : ∀ j, j ≠ 22 → On (f.setIfInBounds 22 true) j → On f j := fun j hj x => on_back (by omega) x hj
          have fw : ∀ j, On f j → On (f.setIfInBounds 22 true) j := fun j x => (on_put (by omega)).2 (.inr x)
          have fn : On (f.setIfInBounds 22 true) 22 := (on_put (by omega)).2 (.inl rfl)
          exact hKK (upd (upd gv 81 (.bool true)) 86 (.slice a2 m c2)) _ (by rw [upd_same e17]; exact ⟨hBx, vals_step (n := 22) (v := .slice a2 m c2) hD (by decide) (by omega) P (fun _ => rfl), fun x => Q6 (bk 6 (by decide) x), hBx2⟩)
        | 23, _ =>
          cases hio
          have off : ¬ On f 23 := on_off (by omega) hn
          have h17 : On f 17 := he ⟨17, .guard⟩ (by simp) rfl
          have e17 : gv 81 = .bool true := P 17 (by decide) rfl h17
          rw [e17]
          rw [if_pos (by rfl)]
          have HQ := Lib.hid (And.intro P (And.intro Q6 hBx2))
          clear P Q6 hBx2
          go_simp
          obtain ⟨P, Q6, hBx2⟩ := HQ.out
          have bk : ∀ j, j ≠ 23 → On (f.setIfInBounds 23 true) j → On f j := fun j hj x => on_back (by omega) x hj
          have fw : ∀ j, On f j → On (f.setIfInBounds 23 true) j := fun j x => (on_put (by omega)).2 (.inr x)
          have fn : On (f.setIfInBounds 23 true) 23 := (on_put (by omega)).2 (.inl rfl)
          exact hKK (upd (upd gv 81 (.bool true)) 87 (.int .i64 (k : Int))) _ (by rw [upd_same e17]; exact ⟨hBx, vals_step (n := 23) (v := .int .i64 (k : Int)) hD (by decide) (by omega) P (fun _ => rfl), fun x => Q6 (bk 6 (by decide) x), hBx2⟩)
        | 24, _ =>
          cases hio
          have off : ¬ On f 24 := on_off (by omega) hn
          have h17 : On f 17 := he ⟨17, .guard⟩ (by simp) rfl
          have e17 : gv 81 = .bool true := P 17 (by decide) rfl h17
          have h22 : On f 22 := he ⟨22, .data⟩ (by simp) rfl
          have e22 : gv 86 = .slice a2 m c2 := P 22 (by decide) rfl h22
          have h23 : On f 23 := he ⟨23, .data⟩ (by simp) rfl
          have e23 : gv 87 = .int .i64 (k : Int) := P 23 (by decide) rfl h23
          rw [e17, e22, e23]
          rw [if_pos (by rfl)]
          have HQ := Lib.hid (And.intro P (And.intro Q6 hBx2))
          clear P Q6 hBx2
          go_simp
          obtain ⟨P, Q6, hBx2⟩ := HQ.out
          have bk : ∀ j, j ≠ 24 → On (f.setIfInBounds 24 true) j → On f j := fun j hj x => on_back (by omega) x hj
          have fw : ∀ j, On f j → On (f.setIfInBounds 24 true) j := fun j x => (on_put (by omega)).2 (.inr x)
          have fn : On (f.setIfInBounds 24 true) 24 := (on_put (by omega)).2 (.inl rfl)
          exact hKK (upd (upd (upd (upd gv 81 (.bool true)) 86 (.slice a2 m c2)) 87 (.int .i64 (k : Int))) 88 (.slice y5 r (c2 - k))) _ (by rw [upd_same e17]; rw [upd_same e22]; rw [upd_same e23]; exact ⟨hBx, vals_step (n := 24) (v := .slice y5 r (c2 - k)) hD (by decide) (by omega) P (fun _ => rfl), fun x => Q6 (bk 6 (by decide) x), hBx2⟩)
        | 25, _ =>
          cases hio
          have off : ¬ On f 25 := on_off (by omega) hn
          have h17 : On f 17 := he ⟨17, .guard⟩ (by simp) rfl
          have e17 : gv 81 = .bool true := P 17 (by decide) rfl h17
          have h21 : On f 21 := he ⟨21, .data⟩ (by simp) rfl
          have e21 : gv 85 = .slice y3 r (c - k1) := P 21 (by decide) rfl h21
          have h24 : On f 24 := he ⟨24, .data⟩ (by simp) rfl
          have e24 : gv 88 = .slice y5 r (c2 - k) := P 24 (by decide) rfl h24
          have HA := Lib.hid (And.intro ((HR.out.below HB3.out).below hBx2) (HK3.out.below hBx2))
          rw [e17, e21, e24]
          rw [if_pos (by rfl)]
          have HQ := Lib.hid (And.intro P (And.intro Q6 hBx2))
          clear P Q6 hBx2
          go_simp
          refine (HS3.out _ HA.out.1 HA.out.2).mono ?_
          rintro e w6 ⟨rfl, hb⟩
          obtain ⟨P, Q6, hBx2⟩ := HQ.out
          have bk : ∀ j, j ≠ 25 → On (f.setIfInBounds 25 true) j → On f j := fun j hj x => on_back (by omega) x hj
          have fw : ∀ j, On f j → On (f.setIfInBounds 25 true) j := fun j x => (on_put (by omega)).2 (.inr x)
          have fn : On (f.setIfInBounds 25 true) 25 := (on_put (by omega)).2 (.inl rfl)
          exact hKK (upd (upd (upd (upd gv 81 (.bool true)) 85 (.slice y3 r (c - k1))) 88 (.slice y5 r (c2 - k))) 89 (.bool true)) _ (by rw [upd_same e17]; rw [upd_same e21]; rw [upd_same e24]; exact ⟨hBx.step hb, vals_step (n := 25) (v := .bool true) hD (by decide) (by omega) P (fun _ => rfl), fun x => by obtain ⟨b, e9, hcb⟩ := Q6 (bk 6 (by decide) x); exact ⟨_, e9, hcb.step hb⟩, hBx2.step hb⟩)
        | 26, _ =>
          cases hio
          have off : ¬ On f 26 := on_off (by omega) hn
          have h17 : On f 17 := he ⟨17, .data⟩ (by simp) rfl
          have e17 : gv 81 = .bool true := P 17 (by decide) rfl h17
          have h25 : On f 25 := he ⟨25, .data⟩ (by simp) rfl
          have e25 : gv 89 = .bool true := P 25 (by decide) rfl h25
          rw [e17, e25]
          have HQ := Lib.hid (And.intro P (And.intro Q6 hBx2))
          clear P Q6 hBx2
          go_simp
          obtain ⟨P, Q6, hBx2⟩ := HQ.out
          have bk : ∀ j, j ≠ 26 → On (f.setIfInBounds 26 true) j → On f j := fun j hj x => on_back (by omega) x hj
          have fw : ∀ j, On f j → On (f.setIfInBounds 26 true) j := fun j x => (on_put (by omega)).2 (.inr x)
          have fn : On (f.setIfInBounds 26 true) 26 := (on_put (by omega)).2 (.inl rfl)
          exact hKK (upd (upd (upd gv 81 (.bool true)) 89 (.bool true)) 90 (.bool true)) _ (by rw [upd_same e17]; rw [upd_same e25]; exact ⟨hBx, vals_step (n := 26) (v := .bool true) hD (by decide) (by omega) P (fun _ => rfl), fun x => Q6 (bk 6 (by decide) x), hBx2⟩)
        | 27, _ =>
          cases hio
          have off : ¬ On f 27 := on_off (by omega) hn
          have h26 : On f 26 := he ⟨26, .data⟩ (by simp) rfl
          have e26 : gv 90 = .bool true := P 26 (by decide) rfl h26
          rw [e26]
          have HQ := Lib.hid (And.intro P (And.intro Q6 hBx2))
          clear P Q6 hBx2
          go_simp
          obtain ⟨P, Q6, hBx2⟩ := HQ.out
          have bk : ∀ j, j ≠ 27 → On (f.setIfInBounds 27 true) j → On f j := fun j hj x => on_back (by omega) x hj
          have fw : ∀ j, On f j → On (f.setIfInBounds 27 true) j := fun j x => (on_put (by omega)).2 (.inr x)
          have fn : On (f.setIfInBounds 27 true) 27 := (on_put (by omega)).2 (.inl rfl)
          exact hKK (upd (upd gv 90 (.bool true)) 4 (.bool true)) _ (by rw [upd_same e26]; exact ⟨hBx, vals_step (n := 27) (v := .bool true) hD (by decide) (by omega) P (fun _ => rfl), fun x => Q6 (bk 6 (by decide) x), hBx2⟩)
      · rintro f gv w5 hall hs' ⟨hBx, P, Q6, hBx2⟩
        replace hs' : f.size = 28 := hs'
        have on : ∀ j, j < 28 → On f j := fun j hj => on_all hall hs' j hj
        have e6 : gv 4 = .bool true := P 27 (by decide) rfl (on 27 (by decide))
        have BX := Lib.hid hBx
        clear P Q6 hBx hBx2 hall hs' on hD
        rw [e6]
        go_wp2_with fail
        go_ret
        exact ⟨rfl, BX.out⟩
end Go.Proofs.Ytmeieokembjabaa
