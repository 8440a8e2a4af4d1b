/- The statement NetBound, walked out of the contracts of what it calls. -/
import Derived.Test.YtmeieokembjabaaNetSl
namespace Go.Proofs.Ytmeieokembjabaa
open Go.ChangeShapes Go.WideShapes Go.ChangeAt Go.RowKit
set_option linter.unusedVariables false

theorem take_drop_one (l : List Pk) (p : Pk) (k m : Nat) (h : k + m = l.length) : ((l ++ [p]).drop k).take m = l.drop k := by
  rw [List.drop_append_of_le_length (by omega), List.take_append_of_le_length (by rw [List.length_drop]; omega), List.take_of_length_le (by rw [List.length_drop]; omega)]
theorem drop_drop_one (l : List Pk) (p : Pk) (k m : Nat) (h : k + m = l.length) : ((l ++ [p]).drop k).drop m = [p] := by
  rw [List.drop_drop, h, List.drop_append_of_le_length (Nat.le_refl _), List.drop_eq_nil_of_le (Nat.le_refl _)]
  rfl

set_option maxRecDepth 100000 in
set_option maxHeartbeats 8000000 in
theorem netBound_walk (a : Option Addr) (n c : Nat) (ps : List Pk) (p : Pk) (x : Option Addr) (cx : Nat) (w : World) (hr : Pks w a n c ps) (hp : Rd w x p.by_.length cx p.by_) (hx : x = none → cx = 0) :
    Calls Try.prog 5 #[.slice a n c, .agg #[.int .i64 p.fr, .int .i64 p.to, .slice x p.by_.length cx]] w fun e w' => e = .returned (.bool true) ∧ Below w.heap.size w w' := by
  have hn63 : n ≤ 9223372036854775807 := Nat.le_trans hr.le hr.cap
  have HF := Lib.hid (fun w' h => few_any a n c ps 64 w' h)
  have HMAY := Lib.hid (fun w' => netmay_any p x cx w' (Nat.le_trans hp.le hp.cap))
  have HR := Lib.hid hr
  obtain ⟨few, hfew⟩ : ∃ few, few = fewB ps 64 := ⟨_, rfl⟩
  rw [← hfew] at HF
  have HW0 := Lib.hid hfew
  obtain ⟨ok, hok⟩ : ∃ ok, ok = okP p := ⟨_, rfl⟩
  rw [← hok] at HMAY
  have HSE := Lib.hid (fun (hn : n ≤ 64) (hL : ∀ i, i < n → (ps.getD i noPk).by_.length ≤ 100000) w' (h : Pks w' a n c ps) (h' : Rd w' x p.by_.length cx p.by_) => send_any a n c ps p x cx w' h (by omega) hL h' hx)
  unfold PksR at HSE
  obtain ⟨L, hLL⟩ : ∃ L, L = p.by_.length := ⟨_, rfl⟩
  have HX := Lib.hid (show Rd w x L cx p.by_ ∧ (x = none → cx = 0) ∧ L = p.by_.length from ⟨by rw [hLL]; exact hp, hx, hLL⟩)
  rw [← hLL] at HMAY HSE ⊢
  have HOK := Lib.hid hok
  clear hr hp hx hLL hfew hok
  go_enter Try.func5, Try.ntmps5
  go_upto_region 1 with fail
  obtain ⟨b0, hb0⟩ : ∃ b0, b0 = w.heap.size := ⟨_, rfl⟩
  have hC0 := Cel.new w 25 [.int .i64 p.fr, .int .i64 p.to, .slice x L cx]
  rw [← hb0] at hC0 ⊢
  generalize hw1 : w.alloc (.cells _ _) = w1
  have HC1 := Lib.hid (show Cel w1 b0 25 [.int .i64 p.fr, .int .i64 p.to, .slice x L cx] by rw [← hw1]; exact hC0)
  have HB1 := Lib.hid (show Below w.heap.size w w1 by rw [← hw1]; exact (Below.refl _ _).alloc (Nat.le_refl _) _)
  clear hC0 hw1 hb0
  go_wp2_with fail
  refine (awake21 _).mono ?_
  rintro e w2 ⟨rfl, hb⟩
  have HB2 := Lib.hid (HB1.out.step hb)
  have HC2 := Lib.hid (HC1.out.step hb)
  clear hb HB1 HC1
  go_wp2_with fail
  refine (HF.out _ (HR.out.below HB2.out)).mono ?_
  rintro e w' ⟨rfl, rfl⟩
  cases few with
  | false =>
    go_wp2_with fail
    go_ret
    exact ⟨rfl, HB2.out⟩
  | true =>
    have hn : n ≤ 64 := by have := (fewB_of HW0.out.symm).1; rw [HR.out.len] at this; omega
    have HLE := Lib.hid (fewB_of HW0.out.symm).2
    have p0 : w'.cell? ⟨b0, 0, none⟩ = some (.int .i64 p.fr) := HC2.out.at 0 _ rfl
    have p1 : w'.cell? ⟨b0, 1, none⟩ = some (.int .i64 p.to) := HC2.out.at 1 _ rfl
    have p2 : w'.cell? ⟨b0, 2, none⟩ = some (.slice x L cx) := HC2.out.at 2 _ rfl
    go_wp2_with fail
    refine (HMAY.out _).mono ?_
    rintro e w3 ⟨rfl, hb⟩
    have HB3 := Lib.hid (HB2.out.step hb)
    have HC3 := Lib.hid (HC2.out.step hb)
    clear hb p0 p1 p2 HB2 HC2
    cases ok with
    | false =>
      go_wp2_with fail
      go_ret
      exact ⟨rfl, HB3.out⟩
    | true =>
      obtain ⟨S, hS⟩ : ∃ S, S = sendP ps p := ⟨_, rfl⟩
      obtain ⟨k, hk⟩ : ∃ k, k = n + 1 - 64 := ⟨_, rfl⟩
      obtain ⟨m, hm⟩ : ∃ m, k + m = n := ⟨n - k, by omega⟩
      obtain ⟨nt, hnt⟩ : ∃ nt, nt = S.length := ⟨_, rfl⟩
      have hlen := HR.out.len
      have HSS := Lib.hid (show S = (ps ++ [p]).drop k by rw [hS]; unfold sendP; rw [HOK.out.symm, if_pos rfl, hlen, hk])
      have hntm : nt = m + 1 := by rw [hnt, HSS.out, List.length_drop, List.length_append, hlen]; simp; omega
      have HSN := Lib.hid (fun w' h h' => HSE.out (by omega) (fun j _ => Nat.le_trans (HLE.out j) (by decide)) w' h h')
      rw [← hS, ← hnt] at HSN
      have h63 : m ≤ 63 := by omega
      have h1 : (nt : Int) - 1 = (m : Int) := by omega
      have h2 : (n : Int) + 1 - (nt : Int) = (k : Int) := by omega
      have h3 : ¬ (nt : Int) < 1 := by omega
      have h4 : ¬ (nt : Int) > 64 := by omega
      have h5 : ¬ (nt : Int) < (n : Int) := by omega
      have h6 : nt ≤ 64 := by omega
      have HE := Lib.hid (And.intro hm hntm)
      have p0 : w3.cell? ⟨b0, 0, none⟩ = some (.int .i64 p.fr) := HC3.out.at 0 _ rfl
      have p1 : w3.cell? ⟨b0, 1, none⟩ = some (.int .i64 p.to) := HC3.out.at 1 _ rfl
      have p2 : w3.cell? ⟨b0, 2, none⟩ = some (.slice x L cx) := HC3.out.at 2 _ rfl
      clear hS hk hm hnt hlen hn63 hntm HSE
      go_wp2_with fail
      refine (HSN.out _ (HR.out.below HB3.out) (HX.out.1.below HB3.out)).mono ?_
      rintro e w4 ⟨a4, c4, rfl, hk4, hb⟩
      have HB4 := Lib.hid (HB3.out.step hb)
      have HC4 := Lib.hid (HC3.out.step hb)
      have HK4 := Lib.hid hk4
      clear hb hk4 p0 p1 p2 HB3 HC3
      go_upto_region 9 with fail
      obtain ⟨y1, hy1, hy1', hY1⟩ := HK4.out.h m (by have := HE.out; omega)
      obtain ⟨y2, hy2, hy2', hY2⟩ := HR.out.l k m HE.out.1
      obtain ⟨y3, hy3, hy3', hY3⟩ := HK4.out.l m 1 HE.out.2.symm
      have HS1 := Lib.hid (fun w' h h' => show Calls Try.prog 21 #[.slice y1 m c4, .slice y2 m (c - k)] w' (fun e w'' => e = .returned (.bool true) ∧ Below w'.heap.size w' w'') by
        have := same_any y1 y2 m m c4 (c - k) _ _ w' (hY1 w' h) (hY2 w' h')
        rwa [decide_eq_true (by rw [HSS.out, take_drop_one ps p k m (by rw [HR.out.len]; exact HE.out.1)])] at this)
      have HS2 := Lib.hid (fun w' b h (h' : Pks w' b 1 1 [p]) => show Calls Try.prog 21 #[.slice y3 1 (c4 - m), .slice b 1 1] w' (fun e w'' => e = .returned (.bool true) ∧ Below w'.heap.size w' w'') by
        have := same_any y3 b 1 1 (c4 - m) 1 _ [p] w' (hY3 w' h) h'
        rwa [decide_eq_true (by rw [HSS.out, drop_drop_one ps p k m (by rw [HR.out.len]; exact HE.out.1)])] at this)
      have h1w : IntKind.i64.wrap ((nt : Int) - 1) = (m : Int) := by rw [IntWalk.i64_in _ ⟨by omega, by omega⟩]; exact h1
      clear hY1 hY2 hY3 h1
      have hD : ∀ j, j < 20 → ∀ n, n < 20 → j ≠ n → dkN [48, 49, 50, 51, 52, 53, 54, 55, 56, 57, 58, 59, 60, 61, 62, 63, 64, 65, 66, 4] j ≠ dkN [48, 49, 50, 51, 52, 53, 54, 55, 56, 57, 58, 59, 60, 61, 62, 63, 64, 65, 66, 4] n := by decide +kernel
      refine region_fun (by kernel_rfl) (by kernel_rfl) (fun gv => #[.slice a n c, .agg #[.int .i64 p.fr, .int .i64 p.to, .slice x L cx], undef, .pointer (some ⟨b0, 0, none⟩), gv 4, .bool true, .bool true, .slice a4 nt c4, .int .i64 (k : Int), gv 9, gv 10, gv 11, gv 12, gv 13, gv 14, gv 15, gv 16, gv 17, gv 18, gv 19, gv 20, gv 21, gv 22, gv 23, gv 24, gv 25, gv 26, gv 27, gv 28, gv 29, gv 30, gv 31, gv 32, gv 33, gv 34, gv 35, gv 36, gv 37, gv 38, gv 39, gv 40, gv 41, gv 42, gv 43, gv 44, gv 45, gv 46, gv 47, gv 48, gv 49, gv 50, gv 51, gv 52, gv 53, gv 54, gv 55, gv 56, gv 57, gv 58, gv 59, gv 60, gv 61, gv 62, gv 63, gv 64, gv 65, gv 66]) rfl (fun f gv wx => Below w.heap.size w wx ∧ (∀ j, j < 20 → (fun j => Nat.beq j 16) j = false → On f j → gv (dkN [48, 49, 50, 51, 52, 53, 54, 55, 56, 57, 58, 59, 60, 61, 62, 63, 64, 65, 66, 4] j) = vkN [.slice a4 nt c4, .slice a4 nt c4, .int .i64 (nt : Int), .int .i64 (m : Int), .slice y1 m (c4), .slice a n c, .int .i64 (k : Int), .slice y2 m (c - k), .bool true, .bool true, .slice a4 nt c4, .slice a4 nt c4, .int .i64 (nt : Int), .int .i64 (m : Int), .slice y3 1 (c4 - m), .agg #[.int .i64 p.fr, .int .i64 p.to, .slice x L cx], undef, .bool true, .bool true, .bool true] j) ∧ ((On f 16 → ∃ b, gv 64 = .slice (some ⟨b, 0, none⟩) 1 1 ∧ Cel wx b 25 [.int .i64 p.fr, .int .i64 p.to, .slice x L cx])) ∧ (Below w4.heap.size w4 wx)) ?_ ?_ ?_
      · have hoff : ∀ j, ¬ On (Array.replicate 20 false) j := by
          intro j hj; simp only [On, Array.getD_eq_getD_getElem?, Array.getElem?_replicate] at hj; split at hj <;> simp at hj
        exact ⟨HB4.out.drew, fun j _ _ x => absurd x (hoff _), fun x => absurd x (hoff _), (Below.refl _ _).drew⟩
      · rintro i' o' f gv wm hio hs' hn he ⟨hBx, P, Q16, hBx2⟩ KK hKK
        have hi' : i' < 20 := (Array.getElem?_eq_some_iff.1 hio).1
        replace hs' : f.size = 20 := hs'
        match i', hi' with
        | 0, _ =>
          cases hio
          have off : ¬ On f 0 := on_off (by omega) hn
          have HQ := Lib.hid (And.intro P (And.intro Q16 hBx2))
          clear P Q16 hBx2
          go_simp
          obtain ⟨P, Q16, hBx2⟩ := HQ.out
          have bk : ∀ j, j ≠ 0 → On (f.setIfInBounds 0 true) j → On f j := fun j hj x => on_back (by omega) x hj
          have fw : ∀ j, On f j → On (f.setIfInBounds 0 true) j := fun j x => (on_put (by omega)).2 (.inr x)
          have fn : On (f.setIfInBounds 0 true) 0 := (on_put (by omega)).2 (.inl rfl)
          exact hKK (upd gv 48 (.slice a4 nt c4)) _ (by exact ⟨hBx, vals_step (n := 0) (v := .slice a4 nt c4) hD (by decide) (by omega) P (fun _ => rfl), fun x => Q16 (bk 16 (by decide) x), hBx2⟩)
        | 1, _ =>
          cases hio
          have off : ¬ On f 1 := on_off (by omega) hn
          have HQ := Lib.hid (And.intro P (And.intro Q16 hBx2))
          clear P Q16 hBx2
          go_simp
          obtain ⟨P, Q16, hBx2⟩ := HQ.out
          have bk : ∀ j, j ≠ 1 → On (f.setIfInBounds 1 true) j → On f j := fun j hj x => on_back (by omega) x hj
          have fw : ∀ j, On f j → On (f.setIfInBounds 1 true) j := fun j x => (on_put (by omega)).2 (.inr x)
          have fn : On (f.setIfInBounds 1 true) 1 := (on_put (by omega)).2 (.inl rfl)
          exact hKK (upd gv 49 (.slice a4 nt c4)) _ (by exact ⟨hBx, vals_step (n := 1) (v := .slice a4 nt c4) hD (by decide) (by omega) P (fun _ => rfl), fun x => Q16 (bk 16 (by decide) x), hBx2⟩)
        | 2, _ =>
          cases hio
          have off : ¬ On f 2 := on_off (by omega) hn
          have h1 : On f 1 := he ⟨1, .data⟩ (by simp) rfl
          have e1 : gv 49 = .slice a4 nt c4 := P 1 (by decide) rfl h1
          rw [e1]
          have HQ := Lib.hid (And.intro P (And.intro Q16 hBx2))
          clear P Q16 hBx2
          go_simp
          obtain ⟨P, Q16, hBx2⟩ := HQ.out
          have bk : ∀ j, j ≠ 2 → On (f.setIfInBounds 2 true) j → On f j := fun j hj x => on_back (by omega) x hj
          have fw : ∀ j, On f j → On (f.setIfInBounds 2 true) j := fun j x => (on_put (by omega)).2 (.inr x)
          have fn : On (f.setIfInBounds 2 true) 2 := (on_put (by omega)).2 (.inl rfl)
          exact hKK (upd (upd gv 49 (.slice a4 nt c4)) 50 (.int .i64 (nt : Int))) _ (by rw [upd_same e1]; exact ⟨hBx, vals_step (n := 2) (v := .int .i64 (nt : Int)) hD (by decide) (by omega) P (fun _ => rfl), fun x => Q16 (bk 16 (by decide) x), hBx2⟩)
        | 3, _ =>
          cases hio
          have off : ¬ On f 3 := on_off (by omega) hn
          have h2 : On f 2 := he ⟨2, .data⟩ (by simp) rfl
          have e2 : gv 50 = .int .i64 (nt : Int) := P 2 (by decide) rfl h2
          rw [e2]
          have HQ := Lib.hid (And.intro P (And.intro Q16 hBx2))
          clear P Q16 hBx2
          go_simp
          obtain ⟨P, Q16, hBx2⟩ := HQ.out
          have bk : ∀ j, j ≠ 3 → On (f.setIfInBounds 3 true) j → On f j := fun j hj x => on_back (by omega) x hj
          have fw : ∀ j, On f j → On (f.setIfInBounds 3 true) j := fun j x => (on_put (by omega)).2 (.inr x)
          have fn : On (f.setIfInBounds 3 true) 3 := (on_put (by omega)).2 (.inl rfl)
          exact hKK (upd (upd gv 50 (.int .i64 (nt : Int))) 51 (.int .i64 (m : Int))) _ (by rw [upd_same e2]; exact ⟨hBx, vals_step (n := 3) (v := .int .i64 (m : Int)) hD (by decide) (by omega) P (fun _ => rfl), fun x => Q16 (bk 16 (by decide) x), hBx2⟩)
        | 4, _ =>
          cases hio
          have off : ¬ On f 4 := on_off (by omega) hn
          have h0 : On f 0 := he ⟨0, .data⟩ (by simp) rfl
          have e0 : gv 48 = .slice a4 nt c4 := P 0 (by decide) rfl h0
          have h3 : On f 3 := he ⟨3, .data⟩ (by simp) rfl
          have e3 : gv 51 = .int .i64 (m : Int) := P 3 (by decide) rfl h3
          rw [e0, e3]
          have HQ := Lib.hid (And.intro P (And.intro Q16 hBx2))
          clear P Q16 hBx2
          go_simp
          obtain ⟨P, Q16, hBx2⟩ := HQ.out
          have bk : ∀ j, j ≠ 4 → On (f.setIfInBounds 4 true) j → On f j := fun j hj x => on_back (by omega) x hj
          have fw : ∀ j, On f j → On (f.setIfInBounds 4 true) j := fun j x => (on_put (by omega)).2 (.inr x)
          have fn : On (f.setIfInBounds 4 true) 4 := (on_put (by omega)).2 (.inl rfl)
          exact hKK (upd (upd (upd gv 48 (.slice a4 nt c4)) 51 (.int .i64 (m : Int))) 52 (.slice y1 m (c4))) _ (by rw [upd_same e0]; rw [upd_same e3]; exact ⟨hBx, vals_step (n := 4) (v := .slice y1 m (c4)) hD (by decide) (by omega) P (fun _ => rfl), fun x => Q16 (bk 16 (by decide) x), hBx2⟩)
        | 5, _ =>
          cases hio
          have off : ¬ On f 5 := on_off (by omega) hn
          have HQ := Lib.hid (And.intro P (And.intro Q16 hBx2))
          clear P Q16 hBx2
          go_simp
          obtain ⟨P, Q16, hBx2⟩ := HQ.out
          have bk : ∀ j, j ≠ 5 → On (f.setIfInBounds 5 true) j → On f j := fun j hj x => on_back (by omega) x hj
          have fw : ∀ j, On f j → On (f.setIfInBounds 5 true) j := fun j x => (on_put (by omega)).2 (.inr x)
          have fn : On (f.setIfInBounds 5 true) 5 := (on_put (by omega)).2 (.inl rfl)
          exact hKK (upd gv 53 (.slice a n c)) _ (by exact ⟨hBx, vals_step (n := 5) (v := .slice a n c) hD (by decide) (by omega) P (fun _ => rfl), fun x => Q16 (bk 16 (by decide) x), hBx2⟩)
        | 6, _ =>
          cases hio
          have off : ¬ On f 6 := on_off (by omega) hn
          have HQ := Lib.hid (And.intro P (And.intro Q16 hBx2))
          clear P Q16 hBx2
          go_simp
          obtain ⟨P, Q16, hBx2⟩ := HQ.out
          have bk : ∀ j, j ≠ 6 → On (f.setIfInBounds 6 true) j → On f j := fun j hj x => on_back (by omega) x hj
          have fw : ∀ j, On f j → On (f.setIfInBounds 6 true) j := fun j x => (on_put (by omega)).2 (.inr x)
          have fn : On (f.setIfInBounds 6 true) 6 := (on_put (by omega)).2 (.inl rfl)
          exact hKK (upd gv 54 (.int .i64 (k : Int))) _ (by exact ⟨hBx, vals_step (n := 6) (v := .int .i64 (k : Int)) hD (by decide) (by omega) P (fun _ => rfl), fun x => Q16 (bk 16 (by decide) x), hBx2⟩)
        | 7, _ =>
          cases hio
          have off : ¬ On f 7 := on_off (by omega) hn
          have h5 : On f 5 := he ⟨5, .data⟩ (by simp) rfl
          have e5 : gv 53 = .slice a n c := P 5 (by decide) rfl h5
          have h6 : On f 6 := he ⟨6, .data⟩ (by simp) rfl
          have e6 : gv 54 = .int .i64 (k : Int) := P 6 (by decide) rfl h6
          rw [e5, e6]
          have HQ := Lib.hid (And.intro P (And.intro Q16 hBx2))
          clear P Q16 hBx2
          go_simp
          obtain ⟨P, Q16, hBx2⟩ := HQ.out
          have bk : ∀ j, j ≠ 7 → On (f.setIfInBounds 7 true) j → On f j := fun j hj x => on_back (by omega) x hj
          have fw : ∀ j, On f j → On (f.setIfInBounds 7 true) j := fun j x => (on_put (by omega)).2 (.inr x)
          have fn : On (f.setIfInBounds 7 true) 7 := (on_put (by omega)).2 (.inl rfl)
          exact hKK (upd (upd (upd gv 53 (.slice a n c)) 54 (.int .i64 (k : Int))) 55 (.slice y2 m (c - k))) _ (by rw [upd_same e5]; rw [upd_same e6]; exact ⟨hBx, vals_step (n := 7) (v := .slice y2 m (c - k)) hD (by decide) (by omega) P (fun _ => rfl), fun x => Q16 (bk 16 (by decide) x), hBx2⟩)
        | 8, _ =>
          cases hio
          have off : ¬ On f 8 := on_off (by omega) hn
          have h4 : On f 4 := he ⟨4, .data⟩ (by simp) rfl
          have e4 : gv 52 = .slice y1 m (c4) := P 4 (by decide) rfl h4
          have h7 : On f 7 := he ⟨7, .data⟩ (by simp) rfl
          have e7 : gv 55 = .slice y2 m (c - k) := P 7 (by decide) rfl h7
          have HA := Lib.hid (And.intro (HK4.out.below hBx2) ((HR.out.below HB4.out).below hBx2))
          rw [e4, e7]
          have HQ := Lib.hid (And.intro P (And.intro Q16 hBx2))
          clear P Q16 hBx2
          go_simp
          refine (HS1.out _ HA.out.1 HA.out.2).mono ?_
          rintro e w6 ⟨rfl, hb⟩
          obtain ⟨P, Q16, hBx2⟩ := HQ.out
          have bk : ∀ j, j ≠ 8 → On (f.setIfInBounds 8 true) j → On f j := fun j hj x => on_back (by omega) x hj
          have fw : ∀ j, On f j → On (f.setIfInBounds 8 true) j := fun j x => (on_put (by omega)).2 (.inr x)
          have fn : On (f.setIfInBounds 8 true) 8 := (on_put (by omega)).2 (.inl rfl)
          exact hKK (upd (upd (upd gv 52 (.slice y1 m (c4))) 55 (.slice y2 m (c - k))) 56 (.bool true)) _ (by rw [upd_same e4]; rw [upd_same e7]; exact ⟨hBx.step hb, vals_step (n := 8) (v := .bool true) hD (by decide) (by omega) P (fun _ => rfl), fun x => by obtain ⟨b, e9, hcb⟩ := Q16 (bk 16 (by decide) x); exact ⟨_, e9, hcb.step hb⟩, hBx2.step hb⟩)
        | 9, _ =>
          cases hio
          have off : ¬ On f 9 := on_off (by omega) hn
          have h8 : On f 8 := he ⟨8, .data⟩ (by simp) rfl
          have e8 : gv 56 = .bool true := P 8 (by decide) rfl h8
          rw [e8]
          have HQ := Lib.hid (And.intro P (And.intro Q16 hBx2))
          clear P Q16 hBx2
          go_simp
          obtain ⟨P, Q16, hBx2⟩ := HQ.out
          have bk : ∀ j, j ≠ 9 → On (f.setIfInBounds 9 true) j → On f j := fun j hj x => on_back (by omega) x hj
          have fw : ∀ j, On f j → On (f.setIfInBounds 9 true) j := fun j x => (on_put (by omega)).2 (.inr x)
          have fn : On (f.setIfInBounds 9 true) 9 := (on_put (by omega)).2 (.inl rfl)
          exact hKK (upd (upd gv 56 (.bool true)) 57 (.bool true)) _ (by rw [upd_same e8]; exact ⟨hBx, vals_step (n := 9) (v := .bool true) hD (by decide) (by omega) P (fun _ => rfl), fun x => Q16 (bk 16 (by decide) x), hBx2⟩)
        | 10, _ =>
          cases hio
          have off : ¬ On f 10 := on_off (by omega) hn
          have h9 : On f 9 := he ⟨9, .guard⟩ (by simp) rfl
          have e9 : gv 57 = .bool true := P 9 (by decide) rfl h9
          rw [e9]
          rw [if_pos (by rfl)]
          have HQ := Lib.hid (And.intro P (And.intro Q16 hBx2))
          clear P Q16 hBx2
          go_simp
          obtain ⟨P, Q16, hBx2⟩ := HQ.out
          have bk : ∀ j, j ≠ 10 → On (f.setIfInBounds 10 true) j → On f j := fun j hj x => on_back (by omega) x hj
          have fw : ∀ j, On f j → On (f.setIfInBounds 10 true) j := fun j x => (on_put (by omega)).2 (.inr x)
          have fn : On (f.setIfInBounds 10 true) 10 := (on_put (by omega)).2 (.inl rfl)
          exact hKK (upd (upd gv 57 (.bool true)) 58 (.slice a4 nt c4)) _ (by rw [upd_same e9]; exact ⟨hBx, vals_step (n := 10) (v := .slice a4 nt c4) hD (by decide) (by omega) P (fun _ => rfl), fun x => Q16 (bk 16 (by decide) x), hBx2⟩)
        | 11, _ =>
          cases hio
          have off : ¬ On f 11 := on_off (by omega) hn
          have h9 : On f 9 := he ⟨9, .guard⟩ (by simp) rfl
          have e9 : gv 57 = .bool true := P 9 (by decide) rfl h9
          rw [e9]
          rw [if_pos (by rfl)]
          have HQ := Lib.hid (And.intro P (And.intro Q16 hBx2))
          clear P Q16 hBx2
          go_simp
          obtain ⟨P, Q16, hBx2⟩ := HQ.out
          have bk : ∀ j, j ≠ 11 → On (f.setIfInBounds 11 true) j → On f j := fun j hj x => on_back (by omega) x hj
          have fw : ∀ j, On f j → On (f.setIfInBounds 11 true) j := fun j x => (on_put (by omega)).2 (.inr x)
          have fn : On (f.setIfInBounds 11 true) 11 := (on_put (by omega)).2 (.inl rfl)
          exact hKK (upd (upd gv 57 (.bool true)) 59 (.slice a4 nt c4)) _ (by rw [upd_same e9]; exact ⟨hBx, vals_step (n := 11) (v := .slice a4 nt c4) hD (by decide) (by omega) P (fun _ => rfl), fun x => Q16 (bk 16 (by decide) x), hBx2⟩)
        | 12, _ =>
          cases hio
          have off : ¬ On f 12 := on_off (by omega) hn
          have h9 : On f 9 := he ⟨9, .guard⟩ (by simp) rfl
          have e9 : gv 57 = .bool true := P 9 (by decide) rfl h9
          have h11 : On f 11 := he ⟨11, .data⟩ (by simp) rfl
          have e11 : gv 59 = .slice a4 nt c4 := P 11 (by decide) rfl h11
          rw [e9, e11]
          rw [if_pos (by rfl)]
          have HQ := Lib.hid (And.intro P (And.intro Q16 hBx2))
          clear P Q16 hBx2
          go_simp
          obtain ⟨P, Q16, hBx2⟩ := HQ.out
          have bk : ∀ j, j ≠ 12 → On (f.setIfInBounds 12 true) j → On f j := fun j hj x => on_back (by omega) x hj
          have fw : ∀ j, On f j → On (f.setIfInBounds 12 true) j := fun j x => (on_put (by omega)).2 (.inr x)
          have fn : On (f.setIfInBounds 12 true) 12 := (on_put (by omega)).2 (.inl rfl)
          exact hKK (upd (upd (upd gv 57 (.bool true)) 59 (.slice a4 nt c4)) 60 (.int .i64 (nt : Int))) _ (by rw [upd_same e9]; rw [upd_same e11]; exact ⟨hBx, vals_step (n := 12) (v := .int .i64 (nt : Int)) hD (by decide) (by omega) P (fun _ => rfl), fun x => Q16 (bk 16 (by decide) x), hBx2⟩)
        | 13, _ =>
          cases hio
          have off : ¬ On f 13 := on_off (by omega) hn
          have h9 : On f 9 := he ⟨9, .guard⟩ (by simp) rfl
          have e9 : gv 57 = .bool true := P 9 (by decide) rfl h9
          have h12 : On f 12 := he ⟨12, .data⟩ (by simp) rfl
          have e12 : gv 60 = .int .i64 (nt : Int) := P 12 (by decide) rfl h12
          rw [e9, e12]
          rw [if_pos (by rfl)]
          have HQ := Lib.hid (And.intro P (And.intro Q16 hBx2))
          clear P Q16 hBx2
          go_simp
          obtain ⟨P, Q16, hBx2⟩ := HQ.out
          have bk : ∀ j, j ≠ 13 → On (f.setIfInBounds 13 true) j → On f j := fun j hj x => on_back (by omega) x hj
          have fw : ∀ j, On f j → On (f.setIfInBounds 13 true) j := fun j x => (on_put (by omega)).2 (.inr x)
          have fn : On (f.setIfInBounds 13 true) 13 := (on_put (by omega)).2 (.inl rfl)
          exact hKK (upd (upd (upd gv 57 (.bool true)) 60 (.int .i64 (nt : Int))) 61 (.int .i64 (m : Int))) _ (by rw [upd_same e9]; rw [upd_same e12]; exact ⟨hBx, vals_step (n := 13) (v := .int .i64 (m : Int)) hD (by decide) (by omega) P (fun _ => rfl), fun x => Q16 (bk 16 (by decide) x), hBx2⟩)
        | 14, _ =>
          cases hio
          have off : ¬ On f 14 := on_off (by omega) hn
          have h9 : On f 9 := he ⟨9, .guard⟩ (by simp) rfl
          have e9 : gv 57 = .bool true := P 9 (by decide) rfl h9
          have h10 : On f 10 := he ⟨10, .data⟩ (by simp) rfl
          have e10 : gv 58 = .slice a4 nt c4 := P 10 (by decide) rfl h10
          have h13 : On f 13 := he ⟨13, .data⟩ (by simp) rfl
          have e13 : gv 61 = .int .i64 (m : Int) := P 13 (by decide) rfl h13
          rw [e9, e10, e13]
          rw [if_pos (by rfl)]
          have HQ := Lib.hid (And.intro P (And.intro Q16 hBx2))
          clear P Q16 hBx2
          go_simp
          obtain ⟨P, Q16, hBx2⟩ := HQ.out
          have bk : ∀ j, j ≠ 14 → On (f.setIfInBounds 14 true) j → On f j := fun j hj x => on_back (by omega) x hj
          have fw : ∀ j, On f j → On (f.setIfInBounds 14 true) j := fun j x => (on_put (by omega)).2 (.inr x)
          have fn : On (f.setIfInBounds 14 true) 14 := (on_put (by omega)).2 (.inl rfl)
          exact hKK (upd (upd (upd (upd gv 57 (.bool true)) 58 (.slice a4 nt c4)) 61 (.int .i64 (m : Int))) 62 (.slice y3 1 (c4 - m))) _ (by rw [upd_same e9]; rw [upd_same e10]; rw [upd_same e13]; exact ⟨hBx, vals_step (n := 14) (v := .slice y3 1 (c4 - m)) hD (by decide) (by omega) P (fun _ => rfl), fun x => Q16 (bk 16 (by decide) x), hBx2⟩)
        | 15, _ =>
          cases hio
          have off : ¬ On f 15 := on_off (by omega) hn
          have h9 : On f 9 := he ⟨9, .guard⟩ (by simp) rfl
          have e9 : gv 57 = .bool true := P 9 (by decide) rfl h9
          have d0 : wm.cell? ⟨b0, 0, none⟩ = some (.int .i64 p.fr) := (HC4.out.step hBx2).at 0 _ rfl
          have d1 : wm.cell? ⟨b0, 1, none⟩ = some (.int .i64 p.to) := (HC4.out.step hBx2).at 1 _ rfl
          have d2 : wm.cell? ⟨b0, 2, none⟩ = some (.slice x L cx) := (HC4.out.step hBx2).at 2 _ rfl
          rw [e9]
          rw [if_pos (by rfl)]
          have HQ := Lib.hid (And.intro P (And.intro Q16 hBx2))
          clear P Q16 hBx2
          go_simp
          obtain ⟨P, Q16, hBx2⟩ := HQ.out
          have bk : ∀ j, j ≠ 15 → On (f.setIfInBounds 15 true) j → On f j := fun j hj x => on_back (by omega) x hj
          have fw : ∀ j, On f j → On (f.setIfInBounds 15 true) j := fun j x => (on_put (by omega)).2 (.inr x)
          have fn : On (f.setIfInBounds 15 true) 15 := (on_put (by omega)).2 (.inl rfl)
          exact hKK (upd (upd gv 57 (.bool true)) 63 (.agg #[.int .i64 p.fr, .int .i64 p.to, .slice x L cx])) _ (by rw [upd_same e9]; exact ⟨hBx, vals_step (n := 15) (v := .agg #[.int .i64 p.fr, .int .i64 p.to, .slice x L cx]) hD (by decide) (by omega) P (fun _ => rfl), fun x => Q16 (bk 16 (by decide) x), hBx2⟩)
        | 16, _ =>
          cases hio
          have off : ¬ On f 16 := on_off (by omega) hn
          have h9 : On f 9 := he ⟨9, .guard⟩ (by simp) rfl
          have e9 : gv 57 = .bool true := P 9 (by decide) rfl h9
          have h15 : On f 15 := he ⟨15, .data⟩ (by simp) rfl
          have e15 : gv 63 = .agg #[.int .i64 p.fr, .int .i64 p.to, .slice x L cx] := P 15 (by decide) rfl h15
          rw [e9, e15]
          rw [if_pos (by rfl)]
          have HQ := Lib.hid (And.intro P (And.intro Q16 hBx2))
          clear P Q16 hBx2
          go_simp
          obtain ⟨b, hbb⟩ : ∃ b, b = wm.heap.size := ⟨_, rfl⟩
          obtain ⟨w6, hw6⟩ : ∃ w6, w6 = wm.alloc (.cells ([.int .i64 p.fr, .int .i64 p.to, .slice x L cx] : List Value).toArray 25) := ⟨_, rfl⟩
          have hb : Below wm.heap.size wm w6 := by rw [hw6]; exact (Below.refl _ _).alloc (Nat.le_refl _) _
          have hcb : Cel w6 b 25 [.int .i64 p.fr, .int .i64 p.to, .slice x L cx] := by rw [hw6, hbb]; exact Cel.new wm _ _
          show KK ⟨#[_, _, _, _, _, _, _, _, _, _, _, _, _, _, _, _, _, _, _, _, _, _, _, _, _, _, _, _, _, _, _, _, _, _, _, _, _, _, _, _, _, _, _, _, _, _, _, _, _, _, _, _, _, _, _, _, _, _, _, _, _, _, _, _, .slice (some ⟨wm.heap.size, 0, none⟩) 1 1, _, _], []⟩ (wm.alloc (.cells ([.int .i64 p.fr, .int .i64 p.to, .slice x L cx] : List Value).toArray 25))
          rw [← hbb, ← hw6]
          obtain ⟨P, Q16, hBx2⟩ := HQ.out
          have bk : ∀ j, j ≠ 16 → On (f.setIfInBounds 16 true) j → On f j := fun j hj x => on_back (by omega) x hj
          have fw : ∀ j, On f j → On (f.setIfInBounds 16 true) j := fun j x => (on_put (by omega)).2 (.inr x)
          have fn : On (f.setIfInBounds 16 true) 16 := (on_put (by omega)).2 (.inl rfl)
          exact hKK (upd (upd (upd gv 57 (.bool true)) 63 (.agg #[.int .i64 p.fr, .int .i64 p.to, .slice x L cx])) 64 (.slice (some ⟨b, 0, none⟩) 1 1)) _ (by rw [upd_same e9]; rw [upd_same e15]; exact ⟨hBx.step hb, vals_step (n := 16) (v := .slice (some ⟨b, 0, none⟩) 1 1) hD (by decide) (by omega) P (fun h => nomatch (show true = false from h)), fun _ => ⟨b, rfl, hcb⟩, hBx2.step hb⟩)
        | 17, _ =>
          cases hio
          have off : ¬ On f 17 := on_off (by omega) hn
          have h9 : On f 9 := he ⟨9, .guard⟩ (by simp) rfl
          have e9 : gv 57 = .bool true := P 9 (by decide) rfl h9
          have h14 : On f 14 := he ⟨14, .data⟩ (by simp) rfl
          have e14 : gv 62 = .slice y3 1 (c4 - m) := P 14 (by decide) rfl h14
          have h16 : On f 16 := he ⟨16, .data⟩ (by simp) rfl
          obtain ⟨b, e16, hcb⟩ := Q16 h16
          have HA := Lib.hid (And.intro (HK4.out.below hBx2) (Pks.one (p := p) (by rw [← HX.out.2.2]; exact hcb) (by rw [← HX.out.2.2]; exact (HX.out.1.below HB4.out).below hBx2) HX.out.2.1))
          rw [e9, e14, e16]
          rw [if_pos (by rfl)]
          have HQ := Lib.hid (And.intro P (And.intro Q16 hBx2))
          clear P Q16 hBx2
          go_simp
          refine (HS2.out _ _ HA.out.1 HA.out.2).mono ?_
          rintro e w6 ⟨rfl, hb⟩
          obtain ⟨P, Q16, hBx2⟩ := HQ.out
          have bk : ∀ j, j ≠ 17 → On (f.setIfInBounds 17 true) j → On f j := fun j hj x => on_back (by omega) x hj
          have fw : ∀ j, On f j → On (f.setIfInBounds 17 true) j := fun j x => (on_put (by omega)).2 (.inr x)
          have fn : On (f.setIfInBounds 17 true) 17 := (on_put (by omega)).2 (.inl rfl)
          exact hKK (upd (upd (upd (upd gv 57 (.bool true)) 62 (.slice y3 1 (c4 - m))) 64 (.slice (some ⟨b, 0, none⟩) 1 1)) 65 (.bool true)) _ (by rw [upd_same e9]; rw [upd_same e14]; rw [upd_same e16]; exact ⟨hBx.step hb, vals_step (n := 17) (v := .bool true) hD (by decide) (by omega) P (fun _ => rfl), fun x => by obtain ⟨b, e9, hcb⟩ := Q16 (bk 16 (by decide) x); exact ⟨_, e9, hcb.step hb⟩, hBx2.step hb⟩)
        | 18, _ =>
          cases hio
          have off : ¬ On f 18 := on_off (by omega) hn
          have h9 : On f 9 := he ⟨9, .data⟩ (by simp) rfl
          have e9 : gv 57 = .bool true := P 9 (by decide) rfl h9
          have h17 : On f 17 := he ⟨17, .data⟩ (by simp) rfl
          have e17 : gv 65 = .bool true := P 17 (by decide) rfl h17
          rw [e9, e17]
          have HQ := Lib.hid (And.intro P (And.intro Q16 hBx2))
          clear P Q16 hBx2
          go_simp
          obtain ⟨P, Q16, hBx2⟩ := HQ.out
          have bk : ∀ j, j ≠ 18 → On (f.setIfInBounds 18 true) j → On f j := fun j hj x => on_back (by omega) x hj
          have fw : ∀ j, On f j → On (f.setIfInBounds 18 true) j := fun j x => (on_put (by omega)).2 (.inr x)
          have fn : On (f.setIfInBounds 18 true) 18 := (on_put (by omega)).2 (.inl rfl)
          exact hKK (upd (upd (upd gv 57 (.bool true)) 65 (.bool true)) 66 (.bool true)) _ (by rw [upd_same e9]; rw [upd_same e17]; exact ⟨hBx, vals_step (n := 18) (v := .bool true) hD (by decide) (by omega) P (fun _ => rfl), fun x => Q16 (bk 16 (by decide) x), hBx2⟩)
        | 19, _ =>
          cases hio
          have off : ¬ On f 19 := on_off (by omega) hn
          have h18 : On f 18 := he ⟨18, .data⟩ (by simp) rfl
          have e18 : gv 66 = .bool true := P 18 (by decide) rfl h18
          rw [e18]
          have HQ := Lib.hid (And.intro P (And.intro Q16 hBx2))
          clear P Q16 hBx2
          go_simp
          obtain ⟨P, Q16, hBx2⟩ := HQ.out
          have bk : ∀ j, j ≠ 19 → On (f.setIfInBounds 19 true) j → On f j := fun j hj x => on_back (by omega) x hj
          have fw : ∀ j, On f j → On (f.setIfInBounds 19 true) j := fun j x => (on_put (by omega)).2 (.inr x)
          have fn : On (f.setIfInBounds 19 true) 19 := (on_put (by omega)).2 (.inl rfl)
          exact hKK (upd (upd gv 66 (.bool true)) 4 (.bool true)) _ (by rw [upd_same e18]; exact ⟨hBx, vals_step (n := 19) (v := .bool true) hD (by decide) (by omega) P (fun _ => rfl), fun x => Q16 (bk 16 (by decide) x), hBx2⟩)
      · rintro f gv w5 hall hs' ⟨hBx, P, Q16, hBx2⟩
        replace hs' : f.size = 20 := hs'
        have on : ∀ j, j < 20 → On f j := fun j hj => on_all hall hs' j hj
        have e6 : gv 4 = .bool true := P 19 (by decide) rfl (on 19 (by decide))
        have BX := Lib.hid hBx
        clear P Q16 hBx hBx2 hall hs' on hD
        rw [e6]
        go_wp2_with fail
        go_ret
        exact ⟨rfl, BX.out⟩
end Go.Proofs.Ytmeieokembjabaa
