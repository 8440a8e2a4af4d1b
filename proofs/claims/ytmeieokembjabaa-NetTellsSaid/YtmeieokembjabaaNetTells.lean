/- The statement NetTells, walked out of the contracts of what it calls. -/
import Derived.Test.YtmeieokembjabaaNetRef3
namespace Go.Proofs.Ytmeieokembjabaa
open Go.ChangeShapes Go.WideShapes Go.ChangeAt Go.RowKit
set_option linter.unusedVariables false

set_option maxRecDepth 100000 in
set_option maxHeartbeats 20000000 in
theorem netTells_walk (a : Option Addr) (n c : Nat) (ps : List Pk) (p : Pk) (x : Option Addr) (cx : Nat) (i j k : Int) (w : World) (hr : Pks w a n c ps) (hp : Rd w x p.by_.length cx p.by_) (hx : x = none → cx = 0) (hkm : -9223372036854775808 ≤ k ∧ k ≤ 9223372036854775807) :
    Calls Try.prog 3 #[.slice a n c, .agg #[.int .i64 p.fr, .int .i64 p.to, .slice x p.by_.length cx], .int .i64 i, .int .i64 j, .int .i64 k] w fun e w' => e = .returned (.bool true) ∧ Below w.heap.size w w' := by
  have hn63 : n ≤ 9223372036854775807 := Nat.le_trans hr.le hr.cap
  have HKM := Lib.hid hkm
  have HF := Lib.hid (fun w' h => few_any a n c ps 70 w' h)
  have HMAY := Lib.hid (fun w' => netmay_any p x cx w' (Nat.le_trans hp.le hp.cap))
  have HMAR := Lib.hid (fun w' => may_ref p x cx w' (Nat.le_trans hp.le hp.cap))
  have HR := Lib.hid hr
  obtain ⟨few, hfew⟩ : ∃ few, few = fewB ps 70 := ⟨_, rfl⟩
  rw [← hfew] at HF
  have HW0 := Lib.hid hfew
  obtain ⟨ok, hok⟩ : ∃ ok, ok = okP p := ⟨_, rfl⟩
  rw [← hok] at HMAY HMAR
  have HSE := Lib.hid (fun (hn : n ≤ 70) (hL : ∀ i, i < n → (ps.getD i noPk).by_.length ≤ 100000) w' (h : Pks w' a n c ps) (h' : Rd w' x p.by_.length cx p.by_) => send_any a n c ps p x cx w' h (by omega) hL h' hx)
  have HSR := Lib.hid (fun (hn : n ≤ 70) w' (h : Pks w' a n c ps) (h' : Rd w' x p.by_.length cx p.by_) => send_ref a n c ps p x cx w' h (by omega) h' hx)
  unfold PksR at HSE HSR
  obtain ⟨L, hLL⟩ : ∃ L, L = p.by_.length := ⟨_, rfl⟩
  have HX := Lib.hid (show Rd w x L cx p.by_ ∧ (x = none → cx = 0) ∧ L = p.by_.length from ⟨by rw [hLL]; exact hp, hx, hLL⟩)
  have hL63 : L ≤ 9223372036854775807 := by rw [hLL]; exact Nat.le_trans hp.le hp.cap
  rw [← hLL] at HMAY HMAR HSE HSR ⊢
  clear hr hp hx hLL hfew hok hkm
  go_enter Try.func3, Try.ntmps3
  go_upto_region 1 with fail
  obtain ⟨b0, hb0⟩ : ∃ b0, b0 = w.heap.size := ⟨_, rfl⟩
  have hC0 := Cel.new w 25 [.int .i64 p.fr, .int .i64 p.to, .slice x L cx]
  rw [← hb0] at hC0 ⊢
  generalize hw1 : w.alloc (.cells _ _) = w1
  have HC1 := Lib.hid (show Cel w1 b0 25 [.int .i64 p.fr, .int .i64 p.to, .slice x L cx] by rw [← hw1]; exact hC0)
  have HB1 := Lib.hid (show Below w.heap.size w w1 by rw [← hw1]; exact (Below.refl _ _).alloc (Nat.le_refl _) _)
  clear hC0 hw1 hb0
  go_wp2_with fail
  refine (awake21 _).mono ?_
  rintro e w2 ⟨rfl, hb⟩
  have HB2 := Lib.hid (HB1.out.step hb)
  have HC2 := Lib.hid (HC1.out.step hb)
  clear hb HB1 HC1
  go_wp2_with fail
  refine (HF.out _ (HR.out.below HB2.out)).mono ?_
  rintro e w' ⟨rfl, rfl⟩
  cases few with
  | false =>
    go_wp2_with fail
    go_ret
    exact ⟨rfl, HB2.out⟩
  | true =>
    have hn7 : n ≤ 70 := by have := (fewB_of HW0.out.symm).1; rw [HR.out.len] at this; omega
    have HLE := Lib.hid (fewB_of HW0.out.symm).2
    have HLB := Lib.hid (show ∀ i, i < n → (ps.getD i noPk).by_.length ≤ 100000 from fun i _ => Nat.le_trans (HLE.out i) (by decide))
    have p0 : w'.cell? ⟨b0, 0, none⟩ = some (.int .i64 p.fr) := HC2.out.at 0 _ rfl
    have p1 : w'.cell? ⟨b0, 1, none⟩ = some (.int .i64 p.to) := HC2.out.at 1 _ rfl
    have p2 : w'.cell? ⟨b0, 2, none⟩ = some (.slice x L cx) := HC2.out.at 2 _ rfl
    by_cases hbig : (L : Int) > 5000
    · go_wp2_with fail
      go_ret
      exact ⟨rfl, HB2.out⟩
    go_wp2_with fail
    refine (HMAR.out _).mono ?_
    rintro e w3 ⟨rfl, hb⟩
    have HB3 := Lib.hid (HB2.out.step hb)
    have HC3 := Lib.hid (HC2.out.step hb)
    clear hb p0 p1 p2 HB2 HC2
    obtain ⟨S, hS⟩ : ∃ S, S = sendP ps p := ⟨_, rfl⟩
    rw [← hS] at HSE HSR
    obtain ⟨M, hM⟩ : ∃ M, M = S.length := ⟨_, rfl⟩
    rw [← hM] at HSE HSR
    clear hS
    have HM := Lib.hid hM
    clear hM
    have HSM := Lib.hid (fun w' a1 a2 c1 c2 (h : Pks w' a1 M c1 S) (h' : Pks w' a2 M c2 S) => show Calls Try.prog 11 #[.slice a1 M c1, .slice a2 M c2] w' (fun e w'' => e = .returned (.bool true) ∧ Below w'.heap.size w' w'') by
      have := same_ref a1 a2 M M c1 c2 S S w' h h'
      rw [decide_eq_true rfl] at this
      exact this)
    go_upto_region 6 with fail
    have hD : ∀ j, j < 8 → ∀ n, n < 8 → j ≠ n → dkN [51, 52, 53, 54, 55, 56, 57, 14] j ≠ dkN [51, 52, 53, 54, 55, 56, 57, 14] n := by decide +kernel
    refine region_fun (by kernel_rfl) (by kernel_rfl) (fun gv => #[.slice a n c, .agg #[.int .i64 p.fr, .int .i64 p.to, .slice x L cx], .int .i64 i, .int .i64 j, .int .i64 k, undef, .pointer (some ⟨b0, 0, none⟩), undef, undef, undef, .bool false, .bool true, .bool true, .bool ok, gv 14, undef, undef, undef, undef, undef, undef, undef, undef, undef, undef, undef, undef, undef, undef, undef, undef, undef, undef, gv 33, gv 34, gv 35, gv 36, gv 37, gv 38, gv 39, gv 40, gv 41, gv 42, gv 43, gv 44, gv 45, gv 46, gv 47, gv 48, gv 49, gv 50, gv 51, gv 52, gv 53, gv 54, gv 55, gv 56, gv 57, gv 58, gv 59, gv 60, gv 61, gv 62, gv 63, gv 64, gv 65, gv 66, gv 67, gv 68, gv 69, gv 70, gv 71, gv 72, gv 73, gv 74, gv 75, gv 76, gv 77, gv 78, gv 79, gv 80, gv 81, gv 82, gv 83, gv 84, gv 85, gv 86, gv 87, gv 88, gv 89, gv 90, gv 91, gv 92, gv 93, gv 94, gv 95, gv 96, gv 97, gv 98, gv 99, gv 100, gv 101, gv 102, gv 103, gv 104, gv 105, gv 106, gv 107, gv 108, gv 109, gv 110, gv 111, gv 112, gv 113, gv 114, gv 115, gv 116, gv 117, gv 118, gv 119, gv 120, gv 121, gv 122, gv 123, gv 124, gv 125, gv 126, gv 127, gv 128, gv 129, gv 130, gv 131, gv 132, gv 133, gv 134, gv 135, gv 136, gv 137, gv 138, gv 139, gv 140, gv 141, gv 142, gv 143, gv 144, gv 145, gv 146, gv 147]) rfl (fun f gv wx => Below w3.heap.size w3 wx ∧ (∀ j, j < 8 → (fun j => Nat.beq j 2 || Nat.beq j 5) j = false → On f j → gv (dkN [51, 52, 53, 54, 55, 56, 57, 14] j) = vkN [.slice a n c, .agg #[.int .i64 p.fr, .int .i64 p.to, .slice x L cx], undef, .slice a n c, .agg #[.int .i64 p.fr, .int .i64 p.to, .slice x L cx], undef, .bool true, .bool true] j) ∧ ((On f 2 → ∃ a c, gv 53 = .slice a M c ∧ Pks wx a M c S)) ∧ ((On f 5 → ∃ a c, gv 56 = .slice a M c ∧ Pks wx a M c S))) ?_ ?_ ?_
    · have hoff : ∀ j, ¬ On (Array.replicate 8 false) j := by
        intro j hj; simp only [On, Array.getD_eq_getD_getElem?, Array.getElem?_replicate] at hj; split at hj <;> simp at hj
      exact ⟨(Below.refl _ _).drew, fun j _ _ x => absurd x (hoff _), fun x => absurd x (hoff _), fun x => absurd x (hoff _)⟩
    · rintro i' o' f gv wm hio hs' hn he ⟨hBx, P, Q2, Q5⟩ KK hKK
      have hi' : i' < 8 := (Array.getElem?_eq_some_iff.1 hio).1
      replace hs' : f.size = 8 := hs'
      match i', hi' with
      | 0, _ =>
        cases hio
        have off : ¬ On f 0 := on_off (by omega) hn
        have HQ := Lib.hid (And.intro P (And.intro Q2 Q5))
        clear P Q2 Q5
        go_simp
        obtain ⟨P, Q2, Q5⟩ := HQ.out
        have bk : ∀ j, j ≠ 0 → On (f.setIfInBounds 0 true) j → On f j := fun j hj x => on_back (by omega) x hj
        have fw : ∀ j, On f j → On (f.setIfInBounds 0 true) j := fun j x => (on_put (by omega)).2 (.inr x)
        have fn : On (f.setIfInBounds 0 true) 0 := (on_put (by omega)).2 (.inl rfl)
        exact hKK (upd gv 51 (.slice a n c)) _ (by exact ⟨hBx, vals_step (n := 0) (v := .slice a n c) hD (by decide) (by omega) P (fun _ => rfl), fun x => Q2 (bk 2 (by decide) x), fun x => Q5 (bk 5 (by decide) x)⟩)
      | 1, _ =>
        cases hio
        have off : ¬ On f 1 := on_off (by omega) hn
        have d0 : wm.cell? ⟨b0, 0, none⟩ = some (.int .i64 p.fr) := (HC3.out.step hBx).at 0 _ rfl
        have d1 : wm.cell? ⟨b0, 1, none⟩ = some (.int .i64 p.to) := (HC3.out.step hBx).at 1 _ rfl
        have d2 : wm.cell? ⟨b0, 2, none⟩ = some (.slice x L cx) := (HC3.out.step hBx).at 2 _ rfl
        have HQ := Lib.hid (And.intro P (And.intro Q2 Q5))
        clear P Q2 Q5
        go_simp
        obtain ⟨P, Q2, Q5⟩ := HQ.out
        have bk : ∀ j, j ≠ 1 → On (f.setIfInBounds 1 true) j → On f j := fun j hj x => on_back (by omega) x hj
        have fw : ∀ j, On f j → On (f.setIfInBounds 1 true) j := fun j x => (on_put (by omega)).2 (.inr x)
        have fn : On (f.setIfInBounds 1 true) 1 := (on_put (by omega)).2 (.inl rfl)
        exact hKK (upd gv 52 (.agg #[.int .i64 p.fr, .int .i64 p.to, .slice x L cx])) _ (by exact ⟨hBx, vals_step (n := 1) (v := .agg #[.int .i64 p.fr, .int .i64 p.to, .slice x L cx]) hD (by decide) (by omega) P (fun _ => rfl), fun x => Q2 (bk 2 (by decide) x), fun x => Q5 (bk 5 (by decide) x)⟩)
      | 2, _ =>
        cases hio
        have off : ¬ On f 2 := on_off (by omega) hn
        have h0 : On f 0 := he ⟨0, .data⟩ (by simp) rfl
        have e0 : gv 51 = .slice a n c := P 0 (by decide) rfl h0
        have h1 : On f 1 := he ⟨1, .data⟩ (by simp) rfl
        have e1 : gv 52 = .agg #[.int .i64 p.fr, .int .i64 p.to, .slice x L cx] := P 1 (by decide) rfl h1
        have HA := Lib.hid (And.intro ((HR.out.below HB3.out).below hBx) ((HX.out.1.below HB3.out).below hBx))
        rw [e0, e1]
        have HQ := Lib.hid (And.intro P (And.intro Q2 Q5))
        clear P Q2 Q5
        go_simp
        refine (HSE.out hn7 HLB.out _ HA.out.1 HA.out.2).mono ?_
        rintro e w6 ⟨a2, c2, rfl, hk2, hb⟩
        obtain ⟨P, Q2, Q5⟩ := HQ.out
        have bk : ∀ j, j ≠ 2 → On (f.setIfInBounds 2 true) j → On f j := fun j hj x => on_back (by omega) x hj
        have fw : ∀ j, On f j → On (f.setIfInBounds 2 true) j := fun j x => (on_put (by omega)).2 (.inr x)
        have fn : On (f.setIfInBounds 2 true) 2 := (on_put (by omega)).2 (.inl rfl)
        exact hKK (upd (upd (upd gv 51 (.slice a n c)) 52 (.agg #[.int .i64 p.fr, .int .i64 p.to, .slice x L cx])) 53 (.slice a2 M c2)) _ (by rw [upd_same e0]; rw [upd_same e1]; exact ⟨hBx.step hb, vals_step (n := 2) (v := .slice a2 M c2) hD (by decide) (by omega) P (fun h => nomatch (show true = false from h)), fun _ => ⟨a2, c2, rfl, hk2⟩, fun x => by obtain ⟨a5, c5, e9, hk5⟩ := Q5 (bk 5 (by decide) x); exact ⟨_, _, e9, hk5.below hb⟩⟩)
      | 3, _ =>
        cases hio
        have off : ¬ On f 3 := on_off (by omega) hn
        have HQ := Lib.hid (And.intro P (And.intro Q2 Q5))
        clear P Q2 Q5
        go_simp
        obtain ⟨P, Q2, Q5⟩ := HQ.out
        have bk : ∀ j, j ≠ 3 → On (f.setIfInBounds 3 true) j → On f j := fun j hj x => on_back (by omega) x hj
        have fw : ∀ j, On f j → On (f.setIfInBounds 3 true) j := fun j x => (on_put (by omega)).2 (.inr x)
        have fn : On (f.setIfInBounds 3 true) 3 := (on_put (by omega)).2 (.inl rfl)
        exact hKK (upd gv 54 (.slice a n c)) _ (by exact ⟨hBx, vals_step (n := 3) (v := .slice a n c) hD (by decide) (by omega) P (fun _ => rfl), fun x => Q2 (bk 2 (by decide) x), fun x => Q5 (bk 5 (by decide) x)⟩)
      | 4, _ =>
        cases hio
        have off : ¬ On f 4 := on_off (by omega) hn
        have d0 : wm.cell? ⟨b0, 0, none⟩ = some (.int .i64 p.fr) := (HC3.out.step hBx).at 0 _ rfl
        have d1 : wm.cell? ⟨b0, 1, none⟩ = some (.int .i64 p.to) := (HC3.out.step hBx).at 1 _ rfl
        have d2 : wm.cell? ⟨b0, 2, none⟩ = some (.slice x L cx) := (HC3.out.step hBx).at 2 _ rfl
        have HQ := Lib.hid (And.intro P (And.intro Q2 Q5))
        clear P Q2 Q5
        go_simp
        obtain ⟨P, Q2, Q5⟩ := HQ.out
        have bk : ∀ j, j ≠ 4 → On (f.setIfInBounds 4 true) j → On f j := fun j hj x => on_back (by omega) x hj
        have fw : ∀ j, On f j → On (f.setIfInBounds 4 true) j := fun j x => (on_put (by omega)).2 (.inr x)
        have fn : On (f.setIfInBounds 4 true) 4 := (on_put (by omega)).2 (.inl rfl)
        exact hKK (upd gv 55 (.agg #[.int .i64 p.fr, .int .i64 p.to, .slice x L cx])) _ (by exact ⟨hBx, vals_step (n := 4) (v := .agg #[.int .i64 p.fr, .int .i64 p.to, .slice x L cx]) hD (by decide) (by omega) P (fun _ => rfl), fun x => Q2 (bk 2 (by decide) x), fun x => Q5 (bk 5 (by decide) x)⟩)
      | 5, _ =>
        cases hio
        have off : ¬ On f 5 := on_off (by omega) hn
        have h3 : On f 3 := he ⟨3, .data⟩ (by simp) rfl
        have e3 : gv 54 = .slice a n c := P 3 (by decide) rfl h3
        have h4 : On f 4 := he ⟨4, .data⟩ (by simp) rfl
        have e4 : gv 55 = .agg #[.int .i64 p.fr, .int .i64 p.to, .slice x L cx] := P 4 (by decide) rfl h4
        have HA := Lib.hid (And.intro ((HR.out.below HB3.out).below hBx) ((HX.out.1.below HB3.out).below hBx))
        rw [e3, e4]
        have HQ := Lib.hid (And.intro P (And.intro Q2 Q5))
        clear P Q2 Q5
        go_simp
        refine (HSR.out hn7 _ HA.out.1 HA.out.2).mono ?_
        rintro e w6 ⟨a5, c5, rfl, hk5, hb⟩
        obtain ⟨P, Q2, Q5⟩ := HQ.out
        have bk : ∀ j, j ≠ 5 → On (f.setIfInBounds 5 true) j → On f j := fun j hj x => on_back (by omega) x hj
        have fw : ∀ j, On f j → On (f.setIfInBounds 5 true) j := fun j x => (on_put (by omega)).2 (.inr x)
        have fn : On (f.setIfInBounds 5 true) 5 := (on_put (by omega)).2 (.inl rfl)
        exact hKK (upd (upd (upd gv 54 (.slice a n c)) 55 (.agg #[.int .i64 p.fr, .int .i64 p.to, .slice x L cx])) 56 (.slice a5 M c5)) _ (by rw [upd_same e3]; rw [upd_same e4]; exact ⟨hBx.step hb, vals_step (n := 5) (v := .slice a5 M c5) hD (by decide) (by omega) P (fun h => nomatch (show true = false from h)), fun x => by obtain ⟨a2, c2, e9, hk2⟩ := Q2 (bk 2 (by decide) x); exact ⟨_, _, e9, hk2.below hb⟩, fun _ => ⟨a5, c5, rfl, hk5⟩⟩)
      | 6, _ =>
        cases hio
        have off : ¬ On f 6 := on_off (by omega) hn
        have h2 : On f 2 := he ⟨2, .data⟩ (by simp) rfl
        obtain ⟨a2, c2, e2, hk2⟩ := Q2 h2
        have h5 : On f 5 := he ⟨5, .data⟩ (by simp) rfl
        obtain ⟨a5, c5, e5, hk5⟩ := Q5 h5
        rw [e2, e5]
        have HQ := Lib.hid (And.intro P (And.intro Q2 Q5))
        clear P Q2 Q5
        go_simp
        refine (HSM.out _ _ _ _ _ hk2 hk5).mono ?_
        rintro e w6 ⟨rfl, hb⟩
        obtain ⟨P, Q2, Q5⟩ := HQ.out
        have bk : ∀ j, j ≠ 6 → On (f.setIfInBounds 6 true) j → On f j := fun j hj x => on_back (by omega) x hj
        have fw : ∀ j, On f j → On (f.setIfInBounds 6 true) j := fun j x => (on_put (by omega)).2 (.inr x)
        have fn : On (f.setIfInBounds 6 true) 6 := (on_put (by omega)).2 (.inl rfl)
        exact hKK (upd (upd (upd gv 53 (.slice a2 M c2)) 56 (.slice a5 M c5)) 57 (.bool true)) _ (by rw [upd_same e2]; rw [upd_same e5]; exact ⟨hBx.step hb, vals_step (n := 6) (v := .bool true) hD (by decide) (by omega) P (fun _ => rfl), fun x => by obtain ⟨a2, c2, e9, hk2⟩ := Q2 (bk 2 (by decide) x); exact ⟨_, _, e9, hk2.below hb⟩, fun x => by obtain ⟨a5, c5, e9, hk5⟩ := Q5 (bk 5 (by decide) x); exact ⟨_, _, e9, hk5.below hb⟩⟩)
      | 7, _ =>
        cases hio
        have off : ¬ On f 7 := on_off (by omega) hn
        have h6 : On f 6 := he ⟨6, .data⟩ (by simp) rfl
        have e6 : gv 57 = .bool true := P 6 (by decide) rfl h6
        rw [e6]
        have HQ := Lib.hid (And.intro P (And.intro Q2 Q5))
        clear P Q2 Q5
        go_simp
        obtain ⟨P, Q2, Q5⟩ := HQ.out
        have bk : ∀ j, j ≠ 7 → On (f.setIfInBounds 7 true) j → On f j := fun j hj x => on_back (by omega) x hj
        have fw : ∀ j, On f j → On (f.setIfInBounds 7 true) j := fun j x => (on_put (by omega)).2 (.inr x)
        have fn : On (f.setIfInBounds 7 true) 7 := (on_put (by omega)).2 (.inl rfl)
        exact hKK (upd (upd gv 57 (.bool true)) 14 (.bool true)) _ (by rw [upd_same e6]; exact ⟨hBx, vals_step (n := 7) (v := .bool true) hD (by decide) (by omega) P (fun _ => rfl), fun x => Q2 (bk 2 (by decide) x), fun x => Q5 (bk 5 (by decide) x)⟩)
    · rintro f gv w5 hall hs' ⟨hBx, P, Q2, Q5⟩
      replace hs' : f.size = 8 := hs'
      have on : ∀ j, j < 8 → On f j := fun j hj => on_all hall hs' j hj
      have e6 : gv 14 = .bool true := P 7 (by decide) rfl (on 7 (by decide))
      have HB4 := Lib.hid (HB3.out.step hBx)
      have HC4 := Lib.hid (HC3.out.step hBx)
      clear P Q2 Q5 hBx hall hs' on hD HB3 HC3 HSE HSR HSM HMAR
      rw [e6]
      clear e6
      obtain ⟨o, ho⟩ : ∃ o, o = outP ps i := ⟨_, rfl⟩
      obtain ⟨R, hR⟩ : ∃ R, R = passP ps i := ⟨_, rfl⟩
      obtain ⟨is, his⟩ : ∃ is, is = hasP ps i := ⟨_, rfl⟩
      obtain ⟨l, hl⟩ : ∃ l, l = o.by_.length := ⟨_, rfl⟩
      obtain ⟨m, hm⟩ : ∃ m, m = R.length := ⟨_, rfl⟩
      have HPA := Lib.hid (fun w' h => pass_any a n c ps i w' h (by omega) HLB.out)
      have HPR := Lib.hid (fun w' h => pass_ref a n c ps i w' h (by omega))
      unfold PassP at HPA HPR
      rw [← ho, ← hR, ← his, ← hl, ← hm] at HPA HPR
      have Hl := Lib.hid hl
      clear ho hR his hl hm
      go_wp2_with fail
      refine (HPA.out _ (HR.out.below HB4.out)).mono ?_
      rintro e w5 ⟨x5, cx5, a5, c5, rfl, hx1, hx2, hk5, hb⟩
      have HB5 := Lib.hid (HB4.out.step hb)
      have HC5 := Lib.hid (HC4.out.step hb)
      have HX5 := Lib.hid (And.intro hx1 hx2)
      have HK5 := Lib.hid hk5
      clear hb hx1 hx2 hk5 HB4 HC4 HPA
      go_upto_region 8 with fail
      generalize hw6 : w5.alloc (.cells _ _) = w6
      obtain ⟨b6, hb6⟩ : ∃ b6, b6 = w5.heap.size := ⟨_, rfl⟩
      have hb56 : Below w5.heap.size w5 w6 := by rw [← hw6]; exact (Below.refl _ _).alloc (Nat.le_refl _) _
      have HD6 := Lib.hid (show Cel w6 b6 25 [.int .i64 o.fr, .int .i64 o.to, .slice x5 l cx5] by rw [← hw6, hb6]; exact Cel.new w5 _ _)
      have HB6 := Lib.hid (HB5.out.step hb56)
      have HC6 := Lib.hid (HC5.out.step hb56)
      have HK6 := Lib.hid (HK5.out.below hb56)
      have HX6 := Lib.hid (And.intro (HX5.out.1.below hb56) HX5.out.2)
      rw [← hb6]
      clear hw6 hb6 hb56 HK5 HX5 HB5 HC5
      go_wp2_with fail
      refine (HPR.out _ (HR.out.below HB6.out)).mono ?_
      rintro e w7 ⟨x7, cx7, a7, c7, rfl, hx1, hx2, hk7, hb⟩
      have HB7 := Lib.hid (HB6.out.step hb)
      have HC7 := Lib.hid (HC6.out.step hb)
      have HD7 := Lib.hid (HD6.out.step hb)
      have HX7 := Lib.hid (And.intro hx1 hx2)
      have HK7 := Lib.hid hk7
      have HX67 := Lib.hid (And.intro (HX6.out.1.below hb) HX6.out.2)
      have HK67 := Lib.hid (HK6.out.below hb)
      clear hb hx1 hx2 hk7 HB6 HC6 HD6 HX6 HK6 HPR
      go_upto_region 9 with fail
      generalize hw8 : w7.alloc (.cells _ _) = w8
      obtain ⟨b8, hb8⟩ : ∃ b8, b8 = w7.heap.size := ⟨_, rfl⟩
      have hb78 : Below w7.heap.size w7 w8 := by rw [← hw8]; exact (Below.refl _ _).alloc (Nat.le_refl _) _
      have HE8 := Lib.hid (show Cel w8 b8 25 [.int .i64 o.fr, .int .i64 o.to, .slice x7 l cx7] by rw [← hw8, hb8]; exact Cel.new w7 _ _)
      have HB8 := Lib.hid (HB7.out.step hb78)
      have HC8 := Lib.hid (HC7.out.step hb78)
      have HD8 := Lib.hid (HD7.out.step hb78)
      have HK8 := Lib.hid (HK7.out.below hb78)
      have HK68 := Lib.hid (HK67.out.below hb78)
      have HX8 := Lib.hid (And.intro (HX7.out.1.below hb78) HX7.out.2)
      have HX68 := Lib.hid (And.intro (HX67.out.1.below hb78) HX67.out.2)
      rw [← hb8]
      clear hw8 hb8 hb78 HK7 HX7 HB7 HC7 HD7 HK67 HX67
      have HS9 := Lib.hid (show Calls Try.prog 11 #[.slice a5 m c5, .slice a7 m c7] w8 (fun e w'' => e = .returned (.bool true) ∧ Below w8.heap.size w8 w'') by
        have := same_ref a5 a7 m m c5 c7 R R w8 HK68.out HK8.out
        rw [decide_eq_true rfl] at this
        exact this)
      go_wp2_with fail
      refine HS9.out.mono ?_
      rintro e w9 ⟨rfl, hb⟩
      have HB9 := Lib.hid (HB8.out.step hb)
      have HC9 := Lib.hid (HC8.out.step hb)
      have HX9 := Lib.hid (And.intro (HX8.out.1.below hb) HX8.out.2)
      have HX69 := Lib.hid (And.intro (HX68.out.1.below hb) HX68.out.2)
      have d0 : w9.cell? ⟨b6, 0, none⟩ = some (.int .i64 o.fr) := (HD8.out.step hb).at 0 _ rfl
      have d1 : w9.cell? ⟨b6, 1, none⟩ = some (.int .i64 o.to) := (HD8.out.step hb).at 1 _ rfl
      have d2 : w9.cell? ⟨b6, 2, none⟩ = some (.slice x5 l cx5) := (HD8.out.step hb).at 2 _ rfl
      have f0 : w9.cell? ⟨b8, 0, none⟩ = some (.int .i64 o.fr) := (HE8.out.step hb).at 0 _ rfl
      have f1 : w9.cell? ⟨b8, 1, none⟩ = some (.int .i64 o.to) := (HE8.out.step hb).at 1 _ rfl
      have f2 : w9.cell? ⟨b8, 2, none⟩ = some (.slice x7 l cx7) := (HE8.out.step hb).at 2 _ rfl
      have hlt6 := (HD8.out.step hb).lt
      have hlt8 := (HE8.out.step hb).lt
      clear hb HB8 HC8 HD8 HE8 HK8 HK68 HX8 HX68 HS9
      obtain ⟨wA, hwA⟩ : ∃ wA, wA = w9.alloc (.cells #[.int .i64 o.fr, .int .i64 o.to, .slice x5 l cx5] 25) := ⟨_, rfl⟩
      obtain ⟨wB, hwB⟩ : ∃ wB, wB = wA.alloc (.cells #[.int .i64 o.fr, .int .i64 o.to, .slice x7 l cx7] 25) := ⟨_, rfl⟩
      have hbA : Below w9.heap.size w9 wA := by rw [hwA]; exact (Below.refl _ _).alloc (Nat.le_refl _) _
      have hbB : Below wA.heap.size wA wB := by rw [hwB]; exact (Below.refl _ _).alloc (Nat.le_refl _) _
      have hcA : Cel wA w9.heap.size 25 [.int .i64 o.fr, .int .i64 o.to, .slice x5 l cx5] := by rw [hwA]; exact Cel.new w9 _ _
      have hcB : Cel wB wA.heap.size 25 [.int .i64 o.fr, .int .i64 o.to, .slice x7 l cx7] := by rw [hwB]; exact Cel.new wA _ _
      have hsA : wA.heap.size = w9.heap.size + 1 := by rw [hwA]; exact size_alloc' _ _
      have hS10 : Calls Try.prog 11 #[.slice (some ⟨w9.heap.size, 0, none⟩) 1 1, .slice (some ⟨w9.heap.size + 1, 0, none⟩) 1 1] wB (fun e w'' => e = .returned (.bool true) ∧ Below w9.heap.size w9 w'') := by
        have h1 : Pks wB (some ⟨w9.heap.size, 0, none⟩) 1 1 [o] := (Pks.one (by rw [← Hl.out]; exact hcA) (by rw [← Hl.out]; exact HX69.out.1.below hbA) HX69.out.2).below hbB
        have h2 : Pks wB (some ⟨w9.heap.size + 1, 0, none⟩) 1 1 [o] := by
          rw [← hsA]
          exact Pks.one (by rw [← Hl.out]; exact hcB) (by rw [← Hl.out]; exact (HX9.out.1.below hbA).below hbB) HX9.out.2
        have := same_ref _ _ 1 1 1 1 [o] [o] wB h1 h2
        rw [decide_eq_true rfl] at this
        exact this.mono fun e w'' ⟨h3, h4⟩ => ⟨h3, (hbA.step hbB).step h4⟩
      rw [hwB, hwA] at hS10
      have HS10 := Lib.hid hS10
      clear hwA hwB hbA hbB hcA hcB hsA hS10 HX9 HX69
      go_wp2_with fail
      refine HS10.out.mono ?_
      rintro e w10 ⟨rfl, hb⟩
      have HB10 := Lib.hid (HB9.out.step hb)
      have HC10 := Lib.hid (HC9.out.step hb)
      clear d0 d1 d2 f0 f1 f2 hlt6 hlt8 hb HB9 HC9 HS10
      -- Twice
      obtain ⟨D, hD⟩ : ∃ D, D = twiceP ps i := ⟨_, rfl⟩
      obtain ⟨m2, hm2⟩ : ∃ m2, m2 = D.length := ⟨_, rfl⟩
      have HTA := Lib.hid (fun w' h => twice_any a n c ps i w' h (by omega) HLB.out)
      have HTR := Lib.hid (fun w' h => twice_ref a n c ps i w' h (by omega))
      unfold PksT at HTA HTR
      obtain ⟨is2, his2⟩ : ∃ is2, is2 = hasP ps i := ⟨_, rfl⟩
      rw [← hD, ← hm2, ← his2] at HTA HTR
      clear hD hm2 his2
      go_wp2_with fail
      refine (HTA.out _ (HR.out.below HB10.out)).mono ?_
      rintro e w11 ⟨a11, c11, rfl, hk11, hb⟩
      have HB11 := Lib.hid (HB10.out.step hb)
      have HC11 := Lib.hid (HC10.out.step hb)
      have HK11 := Lib.hid hk11
      clear hb hk11 HB10 HC10 HTA
      go_wp2_with fail
      refine (HTR.out _ (HR.out.below HB11.out)).mono ?_
      rintro e w12 ⟨a12, c12, rfl, hk12, hb⟩
      have HB12 := Lib.hid (HB11.out.step hb)
      have HC12 := Lib.hid (HC11.out.step hb)
      have HS12 := Lib.hid (show Calls Try.prog 11 #[.slice a11 m2 c11, .slice a12 m2 c12] w12 (fun e w'' => e = .returned (.bool true) ∧ Below w12.heap.size w12 w'') by
        have := same_ref a11 a12 m2 m2 c11 c12 D D w12 (HK11.out.below hb) hk12
        rw [decide_eq_true rfl] at this
        exact this)
      clear hb hk12 HK11 HB11 HC11 HTR
      go_wp2_with fail
      refine HS12.out.mono ?_
      rintro e w13 ⟨rfl, hb⟩
      have HB13 := Lib.hid (HB12.out.step hb)
      have HC13 := Lib.hid (HC12.out.step hb)
      clear hb HB12 HC12 HS12
      -- Spoil
      obtain ⟨Z, hZ⟩ : ∃ Z, Z = spoilP ps i j k := ⟨_, rfl⟩
      obtain ⟨m3, hm3⟩ : ∃ m3, m3 = Z.length := ⟨_, rfl⟩
      have HTA := Lib.hid (fun w' h => spoil_any a n c ps i j k w' h (by omega) HLB.out)
      have HTR := Lib.hid (fun w' h => spoil_ref a n c ps i j k w' h (by omega) HLB.out HKM.out)
      unfold PksT at HTA HTR
      obtain ⟨is3, his3⟩ : ∃ is3, is3 = spoilIs ps i j := ⟨_, rfl⟩
      rw [← hZ, ← hm3, ← his3] at HTA HTR
      clear hZ hm3 his3
      go_wp2_with fail
      refine (HTA.out _ (HR.out.below HB13.out)).mono ?_
      rintro e w14 ⟨a14, c14, rfl, hk14, hb⟩
      have HB14 := Lib.hid (HB13.out.step hb)
      have HC14 := Lib.hid (HC13.out.step hb)
      have HK14 := Lib.hid hk14
      clear hb hk14 HB13 HC13 HTA
      go_wp2_with fail
      refine (HTR.out _ (HR.out.below HB14.out)).mono ?_
      rintro e w15 ⟨a15, c15, rfl, hk15, hb⟩
      have HB15 := Lib.hid (HB14.out.step hb)
      have HC15 := Lib.hid (HC14.out.step hb)
      have HS15 := Lib.hid (show Calls Try.prog 11 #[.slice a14 m3 c14, .slice a15 m3 c15] w15 (fun e w'' => e = .returned (.bool true) ∧ Below w15.heap.size w15 w'') by
        have := same_ref a14 a15 m3 m3 c14 c15 Z Z w15 (HK14.out.below hb) hk15
        rw [decide_eq_true rfl] at this
        exact this)
      clear hb hk15 HK14 HB14 HC14 HTR
      go_wp2_with fail
      refine HS15.out.mono ?_
      rintro e w16 ⟨rfl, hb⟩
      have HB16 := Lib.hid (HB15.out.step hb)
      have p0 : w16.cell? ⟨b0, 0, none⟩ = some (.int .i64 p.fr) := (HC15.out.step hb).at 0 _ rfl
      have p1 : w16.cell? ⟨b0, 1, none⟩ = some (.int .i64 p.to) := (HC15.out.step hb).at 1 _ rfl
      have p2 : w16.cell? ⟨b0, 2, none⟩ = some (.slice x L cx) := (HC15.out.step hb).at 2 _ rfl
      clear hb HB15 HC15 HS15
      go_wp2_with fail
      refine (HMAY.out _).mono ?_
      rintro e w17 ⟨rfl, hb⟩
      have HB17 := Lib.hid (HB16.out.step hb)
      clear hb p0 p1 p2
      go_wp2_with fail
      go_ret
      exact ⟨by first | rfl | simp, HB17.out⟩
end Go.Proofs.Ytmeieokembjabaa
