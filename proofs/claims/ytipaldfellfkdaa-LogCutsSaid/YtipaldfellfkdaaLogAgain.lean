/- The statement LogAgain, walked out of the contracts of what it calls. -/
import Derived.Test.YtipaldfellfkdaaLogLaws
namespace Go.Proofs.Ytipaldfellfkdaa
open Go.ChangeShapes Go.WideShapes Go.ChangeAt Go.RowKit
set_option linter.unusedVariables false

set_option maxRecDepth 100000 in
set_option maxHeartbeats 4000000 in
theorem logAgain_walk (a : Option Addr) (n c : Nat) (l : List UInt8) (w : World) (hr : Rd w a n c l) (hac : a = none → c = 0) :
    Calls Try.prog 5 #[.slice a n c] w fun e w' => e = .returned (.bool true) ∧ Below w.heap.size w w' := by
  by_cases hl : n ≤ 1000
  case neg =>
    have hl2 : 1000 < (n : Int) := by omega
    have hl3 : n ≤ 9223372036854775807 := Nat.le_trans hr.le hr.cap
    clear hr hac
    go_enter Try.func5, Try.ntmps5
    go_wp2_with fail
    refine (awake_any _).mono ?_
    rintro e v1 ⟨rfl, hb1⟩
    go_wp2_with fail
    go_ret
    exact ⟨rfl, hb1⟩
  have hl2 : ¬ 1000 < (n : Int) := by omega
  have hlen := hr.len
  obtain ⟨u, hu⟩ : ∃ u, u = (readL l).2 := ⟨_, rfl⟩
  have hun : u ≤ n := by rw [hu, ← hlen]; exact readL_le l
  obtain ⟨X, hX⟩ : ∃ X, X = l.take u := ⟨_, rfl⟩
  have hXl : X.length = u := by rw [hX, List.length_take]; omega
  have hcut : X.take (readL X).2 = X := by rw [hX, hu, readL_cut, List.take_take, Nat.min_self]
  obtain ⟨a7, e7, e7', hR7, hac7⟩ := hr.fr hac u hun
  obtain ⟨a8, hs8, hR8, hac8⟩ := hr.sl hac u hun
  have e8 : ∀ w', (Instr.sliceAt 22 (.slice a n c) (some (.int .i64 (u : Int))) none none).run Try.prog w' = .ok (.slice a8 (n - u) (c - u)) w' := fun w' => by rw [slice_at, slice_l w' a n c u hun, hs8]
  have e8' : ∀ w', (Instr.slice 22 (.slice a n c) (some (.int .i64 (u : Int))) none none).run Try.prog w' = .ok (.slice a8 (n - u) (c - u)) w' := fun w' => by rw [slice_l w' a n c u hun, hs8]
  have HM := Lib.hid (fun (w' : World) (h : Rd w' a n c l) => mend_any a n c l w' h hac (by omega))
  rw [← hu, ← hX] at HM
  have HRD := Lib.hid (fun (w' : World) (h : Rd w' a n c l) => read_any a n c l w' h hac (by omega))
  rw [← hu] at HRD
  have HMX := Lib.hid (fun (w' : World) (a1 : Option Addr) (c1 : Nat) (h : Rd w' a1 u c1 X) (ha : a1 = none → c1 = 0) => mend_any a1 u c1 X w' h ha (by omega))
  rw [hcut] at HMX
  have HRE := Lib.hid (fun (w' : World) (h : Rd w' a n c l) => read_any a8 (n - u) (c - u) (l.drop u) w' (by have := hR8 n hun (Nat.le_refl _) w' h; rwa [List.take_of_length_le (by omega)] at this) hac8 (by omega))
  rw [show readL (l.drop u) = ([], 0) by rw [hu]; exact readL_behind l] at HRE
  have HR := Lib.hid hr
  have H7 := Lib.hid (fun (w' : World) (h : Rd w' a n c l) => show Rd w' a7 u c X by rw [hX]; exact hR7 w' h)
  have HU := Lib.hid (show u ≤ n ∧ n ≤ 1000 ∧ X.length = u from ⟨hun, hl, hXl⟩)
  have hu0 : decide ((u : Int) < 0) = false := decide_eq_false (by omega)
  have hnu : decide (n < u) = false := decide_eq_false (by omega)
  have hun' : decide ((n : Int) < (u : Int)) = false := decide_eq_false (by omega)
  clear hr hlen hu hun hX hXl hcut hR7 hac7 hs8 hR8 hac8
  go_enter Try.func5, Try.ntmps5
  go_wp2_with fail
  refine (awake_any _).mono ?_
  rintro e v1 ⟨rfl, hb1⟩
  go_wp2_with fail
  refine (HM.out _ (HR.out.below hb1)).mono ?_
  rintro e w2 ⟨v2, rfl, hown2, hb2⟩
  rw [HU.out.2.2] at hown2
  obtain ⟨a1, c1, rfl, hr1⟩ := Rd.of_own hown2
  have hac1 := own_none hown2
  have HO := Lib.hid hr1
  have HB2 := Lib.hid (hb1.step hb2)
  clear hown2 hr1 hb1 hb2
  go_wp2_with fail
  refine (HRD.out _ (HR.out.below HB2.out)).mono ?_
  rintro e w3 ⟨v3, xs3, rfl, _, _, hb3⟩
  have HB3 := Lib.hid (HB2.out.step hb3)
  have HO3 := Lib.hid (HO.out.below hb3)
  clear hb3
  go_upto_region 6 with fail
  refine region_inv (by kernel_rfl) (by kernel_rfl) (fun f act wx => ∃ s25 s26 s27 s28 s29 s30 s31 s32 s33 s34 s35 s36 s37 s38 s39 s40 s41 s42 s43 s44 s45 s46 s47 s48 s49, act = ⟨#[.slice a n c, undef, .bool false, .bool true, .slice a1 u c1, v3, .int .i64 (u : Int), undef, undef, .bool true, .bool true, .bool false, .bool false, .slice a n c, .int .i64 (n : Int), .bool (decide (1000 < (n : Int))), .bool (decide (1000 < (n : Int))), undef, .slice a n c, .slice a1 u c1, .tuple #[v3, .int .i64 (u : Int)], .slice a n c, .tuple #[v3, .int .i64 (u : Int)], v3, .int .i64 (u : Int), s25, s26, s27, s28, s29, s30, s31, s32, s33, s34, s35, s36, s37, s38, s39, s40, s41, s42, s43, s44, s45, s46, s47, s48, s49, undef, undef, undef, undef, undef, undef, undef, undef, undef, undef, undef, undef, undef, undef], []⟩ ∧ (On f 0 → s25 = .int .i64 (u : Int)) ∧ (On f 1 → s26 = .bool false) ∧ (On f 2 → s27 = .bool false) ∧ (On f 3 → s28 = .int .i64 (u : Int)) ∧ (On f 4 → s29 = .slice a n c) ∧ (On f 5 → s30 = .int .i64 (n : Int)) ∧ (On f 6 → s31 = .bool false) ∧ (On f 7 → s32 = .bool false) ∧ (On f 8 → s33 = .bool false) ∧ (On f 9 → s34 = .slice a1 u c1) ∧ (On f 10 → s35 = .string ⟨X.toArray⟩) ∧ (On f 11 → s36 = .slice a n c) ∧ (On f 12 → s37 = .int .i64 (u : Int)) ∧ (On f 13 → s38 = .slice a7 u c) ∧ (On f 14 → s39 = .string ⟨X.toArray⟩) ∧ (On f 15 → s40 = .bool false) ∧ (On f 16 → s41 = .bool false) ∧ (On f 17 → s42 = .bool false) ∧ (On f 18 → s43 = .slice a1 u c1) ∧ (On f 19 → ∃ a9 c9, s44 = .slice a9 u c9 ∧ Rd wx a9 u c9 X) ∧ (On f 20 → s45 = .string ⟨X.toArray⟩) ∧ (On f 21 → s46 = .slice a1 u c1) ∧ (On f 22 → s47 = .string ⟨X.toArray⟩) ∧ (On f 23 → s48 = .bool false) ∧ (On f 24 → s49 = .bool false) ∧ Below w3.heap.size w3 wx) ?_ ?_ ?_
  · have hoff : ∀ j, ¬ On (Array.replicate 25 false) j := by
      intro j hj; simp only [On, Array.getD_eq_getD_getElem?, Array.getElem?_replicate] at hj; split at hj <;> simp at hj
    exact ⟨_, _, _, _, _, _, _, _, _, _, _, _, _, _, _, _, _, _, _, _, _, _, _, _, _, rfl, fun x => absurd x (hoff _), fun x => absurd x (hoff _), fun x => absurd x (hoff _), fun x => absurd x (hoff _), fun x => absurd x (hoff _), fun x => absurd x (hoff _), fun x => absurd x (hoff _), fun x => absurd x (hoff _), fun x => absurd x (hoff _), fun x => absurd x (hoff _), fun x => absurd x (hoff _), fun x => absurd x (hoff _), fun x => absurd x (hoff _), fun x => absurd x (hoff _), fun x => absurd x (hoff _), fun x => absurd x (hoff _), fun x => absurd x (hoff _), fun x => absurd x (hoff _), fun x => absurd x (hoff _), fun x => absurd x (hoff _), fun x => absurd x (hoff _), fun x => absurd x (hoff _), fun x => absurd x (hoff _), fun x => absurd x (hoff _), fun x => absurd x (hoff _), (Below.refl _ _).drew⟩
  · rintro i' o f act wm hio hs' hn he hI K hK
    have hi' : i' < 25 := (Array.getElem?_eq_some_iff.1 hio).1
    replace hs' : f.size = 25 := hs'
    obtain ⟨s25, s26, s27, s28, s29, s30, s31, s32, s33, s34, s35, s36, s37, s38, s39, s40, s41, s42, s43, s44, s45, s46, s47, s48, s49, rfl, p0, p1, p2, p3, p4, p5, p6, p7, p8, p9, p10, p11, p12, p13, p14, p15, p16, p17, p18, p19, p20, p21, p22, p23, p24, hBx⟩ := hI
    match i', hi' with
    | 0, _ =>
      cases hio
      have k : ∀ j, j ≠ 0 → On (f.setIfInBounds 0 true) j → On f j := fun j hj x => on_back (by omega) x hj
      go_simp
      exact hK _ _ ⟨_, _, _, _, _, _, _, _, _, _, _, _, _, _, _, _, _, _, _, _, _, _, _, _, _, rfl, fun _ => rfl, fun x => p1 (k _ (by decide) x), fun x => p2 (k _ (by decide) x), fun x => p3 (k _ (by decide) x), fun x => p4 (k _ (by decide) x), fun x => p5 (k _ (by decide) x), fun x => p6 (k _ (by decide) x), fun x => p7 (k _ (by decide) x), fun x => p8 (k _ (by decide) x), fun x => p9 (k _ (by decide) x), fun x => p10 (k _ (by decide) x), fun x => p11 (k _ (by decide) x), fun x => p12 (k _ (by decide) x), fun x => p13 (k _ (by decide) x), fun x => p14 (k _ (by decide) x), fun x => p15 (k _ (by decide) x), fun x => p16 (k _ (by decide) x), fun x => p17 (k _ (by decide) x), fun x => p18 (k _ (by decide) x), fun x => p19 (k _ (by decide) x), fun x => p20 (k _ (by decide) x), fun x => p21 (k _ (by decide) x), fun x => p22 (k _ (by decide) x), fun x => p23 (k _ (by decide) x), fun x => p24 (k _ (by decide) x), hBx⟩
    | 1, _ =>
      cases hio
      have k : ∀ j, j ≠ 1 → On (f.setIfInBounds 1 true) j → On f j := fun j hj x => on_back (by omega) x hj
      have h0 : On f 0 := he ⟨0, .data⟩ (by simp) rfl
      obtain rfl := p0 h0
      go_simp
      exact hK _ _ ⟨_, _, _, _, _, _, _, _, _, _, _, _, _, _, _, _, _, _, _, _, _, _, _, _, _, rfl, fun x => p0 (k _ (by decide) x), fun _ => rfl, fun x => p2 (k _ (by decide) x), fun x => p3 (k _ (by decide) x), fun x => p4 (k _ (by decide) x), fun x => p5 (k _ (by decide) x), fun x => p6 (k _ (by decide) x), fun x => p7 (k _ (by decide) x), fun x => p8 (k _ (by decide) x), fun x => p9 (k _ (by decide) x), fun x => p10 (k _ (by decide) x), fun x => p11 (k _ (by decide) x), fun x => p12 (k _ (by decide) x), fun x => p13 (k _ (by decide) x), fun x => p14 (k _ (by decide) x), fun x => p15 (k _ (by decide) x), fun x => p16 (k _ (by decide) x), fun x => p17 (k _ (by decide) x), fun x => p18 (k _ (by decide) x), fun x => p19 (k _ (by decide) x), fun x => p20 (k _ (by decide) x), fun x => p21 (k _ (by decide) x), fun x => p22 (k _ (by decide) x), fun x => p23 (k _ (by decide) x), fun x => p24 (k _ (by decide) x), hBx⟩
    | 2, _ =>
      cases hio
      have k : ∀ j, j ≠ 2 → On (f.setIfInBounds 2 true) j → On f j := fun j hj x => on_back (by omega) x hj
      have h1 : On f 1 := he ⟨1, .data⟩ (by simp) rfl
      obtain rfl := p1 h1
      go_simp
      exact hK _ _ ⟨_, _, _, _, _, _, _, _, _, _, _, _, _, _, _, _, _, _, _, _, _, _, _, _, _, rfl, fun x => p0 (k _ (by decide) x), fun x => p1 (k _ (by decide) x), fun _ => rfl, fun x => p3 (k _ (by decide) x), fun x => p4 (k _ (by decide) x), fun x => p5 (k _ (by decide) x), fun x => p6 (k _ (by decide) x), fun x => p7 (k _ (by decide) x), fun x => p8 (k _ (by decide) x), fun x => p9 (k _ (by decide) x), fun x => p10 (k _ (by decide) x), fun x => p11 (k _ (by decide) x), fun x => p12 (k _ (by decide) x), fun x => p13 (k _ (by decide) x), fun x => p14 (k _ (by decide) x), fun x => p15 (k _ (by decide) x), fun x => p16 (k _ (by decide) x), fun x => p17 (k _ (by decide) x), fun x => p18 (k _ (by decide) x), fun x => p19 (k _ (by decide) x), fun x => p20 (k _ (by decide) x), fun x => p21 (k _ (by decide) x), fun x => p22 (k _ (by decide) x), fun x => p23 (k _ (by decide) x), fun x => p24 (k _ (by decide) x), hBx⟩
    | 3, _ =>
      cases hio
      have k : ∀ j, j ≠ 3 → On (f.setIfInBounds 3 true) j → On f j := fun j hj x => on_back (by omega) x hj
      have h2 : On f 2 := he ⟨2, .guard⟩ (by simp) rfl
      obtain rfl := p2 h2
      rw [if_pos (by rfl)]
      go_simp
      exact hK _ _ ⟨_, _, _, _, _, _, _, _, _, _, _, _, _, _, _, _, _, _, _, _, _, _, _, _, _, rfl, fun x => p0 (k _ (by decide) x), fun x => p1 (k _ (by decide) x), fun x => p2 (k _ (by decide) x), fun _ => rfl, fun x => p4 (k _ (by decide) x), fun x => p5 (k _ (by decide) x), fun x => p6 (k _ (by decide) x), fun x => p7 (k _ (by decide) x), fun x => p8 (k _ (by decide) x), fun x => p9 (k _ (by decide) x), fun x => p10 (k _ (by decide) x), fun x => p11 (k _ (by decide) x), fun x => p12 (k _ (by decide) x), fun x => p13 (k _ (by decide) x), fun x => p14 (k _ (by decide) x), fun x => p15 (k _ (by decide) x), fun x => p16 (k _ (by decide) x), fun x => p17 (k _ (by decide) x), fun x => p18 (k _ (by decide) x), fun x => p19 (k _ (by decide) x), fun x => p20 (k _ (by decide) x), fun x => p21 (k _ (by decide) x), fun x => p22 (k _ (by decide) x), fun x => p23 (k _ (by decide) x), fun x => p24 (k _ (by decide) x), hBx⟩
    | 4, _ =>
      cases hio
      have k : ∀ j, j ≠ 4 → On (f.setIfInBounds 4 true) j → On f j := fun j hj x => on_back (by omega) x hj
      have h2 : On f 2 := he ⟨2, .guard⟩ (by simp) rfl
      obtain rfl := p2 h2
      rw [if_pos (by rfl)]
      go_simp
      exact hK _ _ ⟨_, _, _, _, _, _, _, _, _, _, _, _, _, _, _, _, _, _, _, _, _, _, _, _, _, rfl, fun x => p0 (k _ (by decide) x), fun x => p1 (k _ (by decide) x), fun x => p2 (k _ (by decide) x), fun x => p3 (k _ (by decide) x), fun _ => rfl, fun x => p5 (k _ (by decide) x), fun x => p6 (k _ (by decide) x), fun x => p7 (k _ (by decide) x), fun x => p8 (k _ (by decide) x), fun x => p9 (k _ (by decide) x), fun x => p10 (k _ (by decide) x), fun x => p11 (k _ (by decide) x), fun x => p12 (k _ (by decide) x), fun x => p13 (k _ (by decide) x), fun x => p14 (k _ (by decide) x), fun x => p15 (k _ (by decide) x), fun x => p16 (k _ (by decide) x), fun x => p17 (k _ (by decide) x), fun x => p18 (k _ (by decide) x), fun x => p19 (k _ (by decide) x), fun x => p20 (k _ (by decide) x), fun x => p21 (k _ (by decide) x), fun x => p22 (k _ (by decide) x), fun x => p23 (k _ (by decide) x), fun x => p24 (k _ (by decide) x), hBx⟩
    | 5, _ =>
      cases hio
      have k : ∀ j, j ≠ 5 → On (f.setIfInBounds 5 true) j → On f j := fun j hj x => on_back (by omega) x hj
      have h2 : On f 2 := he ⟨2, .guard⟩ (by simp) rfl
      obtain rfl := p2 h2
      have h4 : On f 4 := he ⟨4, .data⟩ (by simp) rfl
      obtain rfl := p4 h4
      rw [if_pos (by rfl)]
      go_simp
      exact hK _ _ ⟨_, _, _, _, _, _, _, _, _, _, _, _, _, _, _, _, _, _, _, _, _, _, _, _, _, rfl, fun x => p0 (k _ (by decide) x), fun x => p1 (k _ (by decide) x), fun x => p2 (k _ (by decide) x), fun x => p3 (k _ (by decide) x), fun x => p4 (k _ (by decide) x), fun _ => rfl, fun x => p6 (k _ (by decide) x), fun x => p7 (k _ (by decide) x), fun x => p8 (k _ (by decide) x), fun x => p9 (k _ (by decide) x), fun x => p10 (k _ (by decide) x), fun x => p11 (k _ (by decide) x), fun x => p12 (k _ (by decide) x), fun x => p13 (k _ (by decide) x), fun x => p14 (k _ (by decide) x), fun x => p15 (k _ (by decide) x), fun x => p16 (k _ (by decide) x), fun x => p17 (k _ (by decide) x), fun x => p18 (k _ (by decide) x), fun x => p19 (k _ (by decide) x), fun x => p20 (k _ (by decide) x), fun x => p21 (k _ (by decide) x), fun x => p22 (k _ (by decide) x), fun x => p23 (k _ (by decide) x), fun x => p24 (k _ (by decide) x), hBx⟩
    | 6, _ =>
      cases hio
      have k : ∀ j, j ≠ 6 → On (f.setIfInBounds 6 true) j → On f j := fun j hj x => on_back (by omega) x hj
      have h2 : On f 2 := he ⟨2, .guard⟩ (by simp) rfl
      obtain rfl := p2 h2
      have h3 : On f 3 := he ⟨3, .data⟩ (by simp) rfl
      obtain rfl := p3 h3
      have h5 : On f 5 := he ⟨5, .data⟩ (by simp) rfl
      obtain rfl := p5 h5
      rw [if_pos (by rfl)]
      go_simp
      exact hK _ _ ⟨_, _, _, _, _, _, _, _, _, _, _, _, _, _, _, _, _, _, _, _, _, _, _, _, _, rfl, fun x => p0 (k _ (by decide) x), fun x => p1 (k _ (by decide) x), fun x => p2 (k _ (by decide) x), fun x => p3 (k _ (by decide) x), fun x => p4 (k _ (by decide) x), fun x => p5 (k _ (by decide) x), fun _ => rfl, fun x => p7 (k _ (by decide) x), fun x => p8 (k _ (by decide) x), fun x => p9 (k _ (by decide) x), fun x => p10 (k _ (by decide) x), fun x => p11 (k _ (by decide) x), fun x => p12 (k _ (by decide) x), fun x => p13 (k _ (by decide) x), fun x => p14 (k _ (by decide) x), fun x => p15 (k _ (by decide) x), fun x => p16 (k _ (by decide) x), fun x => p17 (k _ (by decide) x), fun x => p18 (k _ (by decide) x), fun x => p19 (k _ (by decide) x), fun x => p20 (k _ (by decide) x), fun x => p21 (k _ (by decide) x), fun x => p22 (k _ (by decide) x), fun x => p23 (k _ (by decide) x), fun x => p24 (k _ (by decide) x), hBx⟩
    | 7, _ =>
      cases hio
      have k : ∀ j, j ≠ 7 → On (f.setIfInBounds 7 true) j → On f j := fun j hj x => on_back (by omega) x hj
      have h2 : On f 2 := he ⟨2, .data⟩ (by simp) rfl
      obtain rfl := p2 h2
      have h6 : On f 6 := he ⟨6, .data⟩ (by simp) rfl
      obtain rfl := p6 h6
      go_simp
      exact hK _ _ ⟨_, _, _, _, _, _, _, _, _, _, _, _, _, _, _, _, _, _, _, _, _, _, _, _, _, rfl, fun x => p0 (k _ (by decide) x), fun x => p1 (k _ (by decide) x), fun x => p2 (k _ (by decide) x), fun x => p3 (k _ (by decide) x), fun x => p4 (k _ (by decide) x), fun x => p5 (k _ (by decide) x), fun x => p6 (k _ (by decide) x), fun _ => rfl, fun x => p8 (k _ (by decide) x), fun x => p9 (k _ (by decide) x), fun x => p10 (k _ (by decide) x), fun x => p11 (k _ (by decide) x), fun x => p12 (k _ (by decide) x), fun x => p13 (k _ (by decide) x), fun x => p14 (k _ (by decide) x), fun x => p15 (k _ (by decide) x), fun x => p16 (k _ (by decide) x), fun x => p17 (k _ (by decide) x), fun x => p18 (k _ (by decide) x), fun x => p19 (k _ (by decide) x), fun x => p20 (k _ (by decide) x), fun x => p21 (k _ (by decide) x), fun x => p22 (k _ (by decide) x), fun x => p23 (k _ (by decide) x), fun x => p24 (k _ (by decide) x), hBx⟩
    | 8, _ =>
      cases hio
      have k : ∀ j, j ≠ 8 → On (f.setIfInBounds 8 true) j → On f j := fun j hj x => on_back (by omega) x hj
      have h7 : On f 7 := he ⟨7, .data⟩ (by simp) rfl
      obtain rfl := p7 h7
      go_simp
      exact hK _ _ ⟨_, _, _, _, _, _, _, _, _, _, _, _, _, _, _, _, _, _, _, _, _, _, _, _, _, rfl, fun x => p0 (k _ (by decide) x), fun x => p1 (k _ (by decide) x), fun x => p2 (k _ (by decide) x), fun x => p3 (k _ (by decide) x), fun x => p4 (k _ (by decide) x), fun x => p5 (k _ (by decide) x), fun x => p6 (k _ (by decide) x), fun x => p7 (k _ (by decide) x), fun _ => rfl, fun x => p9 (k _ (by decide) x), fun x => p10 (k _ (by decide) x), fun x => p11 (k _ (by decide) x), fun x => p12 (k _ (by decide) x), fun x => p13 (k _ (by decide) x), fun x => p14 (k _ (by decide) x), fun x => p15 (k _ (by decide) x), fun x => p16 (k _ (by decide) x), fun x => p17 (k _ (by decide) x), fun x => p18 (k _ (by decide) x), fun x => p19 (k _ (by decide) x), fun x => p20 (k _ (by decide) x), fun x => p21 (k _ (by decide) x), fun x => p22 (k _ (by decide) x), fun x => p23 (k _ (by decide) x), fun x => p24 (k _ (by decide) x), hBx⟩
    | 9, _ =>
      cases hio
      have k : ∀ j, j ≠ 9 → On (f.setIfInBounds 9 true) j → On f j := fun j hj x => on_back (by omega) x hj
      have h8 : On f 8 := he ⟨8, .guard⟩ (by simp) rfl
      obtain rfl := p8 h8
      rw [if_pos (by rfl)]
      go_simp
      exact hK _ _ ⟨_, _, _, _, _, _, _, _, _, _, _, _, _, _, _, _, _, _, _, _, _, _, _, _, _, rfl, fun x => p0 (k _ (by decide) x), fun x => p1 (k _ (by decide) x), fun x => p2 (k _ (by decide) x), fun x => p3 (k _ (by decide) x), fun x => p4 (k _ (by decide) x), fun x => p5 (k _ (by decide) x), fun x => p6 (k _ (by decide) x), fun x => p7 (k _ (by decide) x), fun x => p8 (k _ (by decide) x), fun _ => rfl, fun x => p10 (k _ (by decide) x), fun x => p11 (k _ (by decide) x), fun x => p12 (k _ (by decide) x), fun x => p13 (k _ (by decide) x), fun x => p14 (k _ (by decide) x), fun x => p15 (k _ (by decide) x), fun x => p16 (k _ (by decide) x), fun x => p17 (k _ (by decide) x), fun x => p18 (k _ (by decide) x), fun x => p19 (k _ (by decide) x), fun x => p20 (k _ (by decide) x), fun x => p21 (k _ (by decide) x), fun x => p22 (k _ (by decide) x), fun x => p23 (k _ (by decide) x), fun x => p24 (k _ (by decide) x), hBx⟩
    | 10, _ =>
      cases hio
      have k : ∀ j, j ≠ 10 → On (f.setIfInBounds 10 true) j → On f j := fun j hj x => on_back (by omega) x hj
      have h8 : On f 8 := he ⟨8, .guard⟩ (by simp) rfl
      obtain rfl := p8 h8
      have h9 : On f 9 := he ⟨9, .data⟩ (by simp) rfl
      obtain rfl := p9 h9
      have hs : (convert 22 9 (.slice a1 u c1)).run Try.prog wm = .ok (.string ⟨X.toArray⟩) wm := str_drew (HO3.out.below hBx) 0
      rw [if_pos (by rfl)]
      go_simp
      exact hK _ _ ⟨_, _, _, _, _, _, _, _, _, _, _, _, _, _, _, _, _, _, _, _, _, _, _, _, _, rfl, fun x => p0 (k _ (by decide) x), fun x => p1 (k _ (by decide) x), fun x => p2 (k _ (by decide) x), fun x => p3 (k _ (by decide) x), fun x => p4 (k _ (by decide) x), fun x => p5 (k _ (by decide) x), fun x => p6 (k _ (by decide) x), fun x => p7 (k _ (by decide) x), fun x => p8 (k _ (by decide) x), fun x => p9 (k _ (by decide) x), fun _ => rfl, fun x => p11 (k _ (by decide) x), fun x => p12 (k _ (by decide) x), fun x => p13 (k _ (by decide) x), fun x => p14 (k _ (by decide) x), fun x => p15 (k _ (by decide) x), fun x => p16 (k _ (by decide) x), fun x => p17 (k _ (by decide) x), fun x => p18 (k _ (by decide) x), fun x => p19 (k _ (by decide) x), fun x => p20 (k _ (by decide) x), fun x => p21 (k _ (by decide) x), fun x => p22 (k _ (by decide) x), fun x => p23 (k _ (by decide) x), fun x => p24 (k _ (by decide) x), hBx⟩
    | 11, _ =>
      cases hio
      have k : ∀ j, j ≠ 11 → On (f.setIfInBounds 11 true) j → On f j := fun j hj x => on_back (by omega) x hj
      have h8 : On f 8 := he ⟨8, .guard⟩ (by simp) rfl
      obtain rfl := p8 h8
      rw [if_pos (by rfl)]
      go_simp
      exact hK _ _ ⟨_, _, _, _, _, _, _, _, _, _, _, _, _, _, _, _, _, _, _, _, _, _, _, _, _, rfl, fun x => p0 (k _ (by decide) x), fun x => p1 (k _ (by decide) x), fun x => p2 (k _ (by decide) x), fun x => p3 (k _ (by decide) x), fun x => p4 (k _ (by decide) x), fun x => p5 (k _ (by decide) x), fun x => p6 (k _ (by decide) x), fun x => p7 (k _ (by decide) x), fun x => p8 (k _ (by decide) x), fun x => p9 (k _ (by decide) x), fun x => p10 (k _ (by decide) x), fun _ => rfl, fun x => p12 (k _ (by decide) x), fun x => p13 (k _ (by decide) x), fun x => p14 (k _ (by decide) x), fun x => p15 (k _ (by decide) x), fun x => p16 (k _ (by decide) x), fun x => p17 (k _ (by decide) x), fun x => p18 (k _ (by decide) x), fun x => p19 (k _ (by decide) x), fun x => p20 (k _ (by decide) x), fun x => p21 (k _ (by decide) x), fun x => p22 (k _ (by decide) x), fun x => p23 (k _ (by decide) x), fun x => p24 (k _ (by decide) x), hBx⟩
    | 12, _ =>
      cases hio
      have k : ∀ j, j ≠ 12 → On (f.setIfInBounds 12 true) j → On f j := fun j hj x => on_back (by omega) x hj
      have h8 : On f 8 := he ⟨8, .guard⟩ (by simp) rfl
      obtain rfl := p8 h8
      rw [if_pos (by rfl)]
      go_simp
      exact hK _ _ ⟨_, _, _, _, _, _, _, _, _, _, _, _, _, _, _, _, _, _, _, _, _, _, _, _, _, rfl, fun x => p0 (k _ (by decide) x), fun x => p1 (k _ (by decide) x), fun x => p2 (k _ (by decide) x), fun x => p3 (k _ (by decide) x), fun x => p4 (k _ (by decide) x), fun x => p5 (k _ (by decide) x), fun x => p6 (k _ (by decide) x), fun x => p7 (k _ (by decide) x), fun x => p8 (k _ (by decide) x), fun x => p9 (k _ (by decide) x), fun x => p10 (k _ (by decide) x), fun x => p11 (k _ (by decide) x), fun _ => rfl, fun x => p13 (k _ (by decide) x), fun x => p14 (k _ (by decide) x), fun x => p15 (k _ (by decide) x), fun x => p16 (k _ (by decide) x), fun x => p17 (k _ (by decide) x), fun x => p18 (k _ (by decide) x), fun x => p19 (k _ (by decide) x), fun x => p20 (k _ (by decide) x), fun x => p21 (k _ (by decide) x), fun x => p22 (k _ (by decide) x), fun x => p23 (k _ (by decide) x), fun x => p24 (k _ (by decide) x), hBx⟩
    | 13, _ =>
      cases hio
      have k : ∀ j, j ≠ 13 → On (f.setIfInBounds 13 true) j → On f j := fun j hj x => on_back (by omega) x hj
      have h8 : On f 8 := he ⟨8, .guard⟩ (by simp) rfl
      obtain rfl := p8 h8
      have h11 : On f 11 := he ⟨11, .data⟩ (by simp) rfl
      obtain rfl := p11 h11
      have h12 : On f 12 := he ⟨12, .data⟩ (by simp) rfl
      obtain rfl := p12 h12
      rw [if_pos (by rfl)]
      go_simp
      exact hK _ _ ⟨_, _, _, _, _, _, _, _, _, _, _, _, _, _, _, _, _, _, _, _, _, _, _, _, _, rfl, fun x => p0 (k _ (by decide) x), fun x => p1 (k _ (by decide) x), fun x => p2 (k _ (by decide) x), fun x => p3 (k _ (by decide) x), fun x => p4 (k _ (by decide) x), fun x => p5 (k _ (by decide) x), fun x => p6 (k _ (by decide) x), fun x => p7 (k _ (by decide) x), fun x => p8 (k _ (by decide) x), fun x => p9 (k _ (by decide) x), fun x => p10 (k _ (by decide) x), fun x => p11 (k _ (by decide) x), fun x => p12 (k _ (by decide) x), fun _ => rfl, fun x => p14 (k _ (by decide) x), fun x => p15 (k _ (by decide) x), fun x => p16 (k _ (by decide) x), fun x => p17 (k _ (by decide) x), fun x => p18 (k _ (by decide) x), fun x => p19 (k _ (by decide) x), fun x => p20 (k _ (by decide) x), fun x => p21 (k _ (by decide) x), fun x => p22 (k _ (by decide) x), fun x => p23 (k _ (by decide) x), fun x => p24 (k _ (by decide) x), hBx⟩
    | 14, _ =>
      cases hio
      have k : ∀ j, j ≠ 14 → On (f.setIfInBounds 14 true) j → On f j := fun j hj x => on_back (by omega) x hj
      have h8 : On f 8 := he ⟨8, .guard⟩ (by simp) rfl
      obtain rfl := p8 h8
      have h13 : On f 13 := he ⟨13, .data⟩ (by simp) rfl
      obtain rfl := p13 h13
      have hs : (convert 22 9 (.slice a7 u c)).run Try.prog wm = .ok (.string ⟨X.toArray⟩) wm := str_drew (H7.out _ (HR.out.below (HB3.out.step hBx))) 0
      rw [if_pos (by rfl)]
      go_simp
      exact hK _ _ ⟨_, _, _, _, _, _, _, _, _, _, _, _, _, _, _, _, _, _, _, _, _, _, _, _, _, rfl, fun x => p0 (k _ (by decide) x), fun x => p1 (k _ (by decide) x), fun x => p2 (k _ (by decide) x), fun x => p3 (k _ (by decide) x), fun x => p4 (k _ (by decide) x), fun x => p5 (k _ (by decide) x), fun x => p6 (k _ (by decide) x), fun x => p7 (k _ (by decide) x), fun x => p8 (k _ (by decide) x), fun x => p9 (k _ (by decide) x), fun x => p10 (k _ (by decide) x), fun x => p11 (k _ (by decide) x), fun x => p12 (k _ (by decide) x), fun x => p13 (k _ (by decide) x), fun _ => rfl, fun x => p15 (k _ (by decide) x), fun x => p16 (k _ (by decide) x), fun x => p17 (k _ (by decide) x), fun x => p18 (k _ (by decide) x), fun x => p19 (k _ (by decide) x), fun x => p20 (k _ (by decide) x), fun x => p21 (k _ (by decide) x), fun x => p22 (k _ (by decide) x), fun x => p23 (k _ (by decide) x), fun x => p24 (k _ (by decide) x), hBx⟩
    | 15, _ =>
      cases hio
      have k : ∀ j, j ≠ 15 → On (f.setIfInBounds 15 true) j → On f j := fun j hj x => on_back (by omega) x hj
      have h8 : On f 8 := he ⟨8, .guard⟩ (by simp) rfl
      obtain rfl := p8 h8
      have h10 : On f 10 := he ⟨10, .data⟩ (by simp) rfl
      obtain rfl := p10 h10
      have h14 : On f 14 := he ⟨14, .data⟩ (by simp) rfl
      obtain rfl := p14 h14
      rw [if_pos (by rfl)]
      go_simp
      exact hK _ _ ⟨_, _, _, _, _, _, _, _, _, _, _, _, _, _, _, _, _, _, _, _, _, _, _, _, _, rfl, fun x => p0 (k _ (by decide) x), fun x => p1 (k _ (by decide) x), fun x => p2 (k _ (by decide) x), fun x => p3 (k _ (by decide) x), fun x => p4 (k _ (by decide) x), fun x => p5 (k _ (by decide) x), fun x => p6 (k _ (by decide) x), fun x => p7 (k _ (by decide) x), fun x => p8 (k _ (by decide) x), fun x => p9 (k _ (by decide) x), fun x => p10 (k _ (by decide) x), fun x => p11 (k _ (by decide) x), fun x => p12 (k _ (by decide) x), fun x => p13 (k _ (by decide) x), fun x => p14 (k _ (by decide) x), fun _ => rfl, fun x => p16 (k _ (by decide) x), fun x => p17 (k _ (by decide) x), fun x => p18 (k _ (by decide) x), fun x => p19 (k _ (by decide) x), fun x => p20 (k _ (by decide) x), fun x => p21 (k _ (by decide) x), fun x => p22 (k _ (by decide) x), fun x => p23 (k _ (by decide) x), fun x => p24 (k _ (by decide) x), hBx⟩
    | 16, _ =>
      cases hio
      have k : ∀ j, j ≠ 16 → On (f.setIfInBounds 16 true) j → On f j := fun j hj x => on_back (by omega) x hj
      have h8 : On f 8 := he ⟨8, .data⟩ (by simp) rfl
      obtain rfl := p8 h8
      have h15 : On f 15 := he ⟨15, .data⟩ (by simp) rfl
      obtain rfl := p15 h15
      go_simp
      exact hK _ _ ⟨_, _, _, _, _, _, _, _, _, _, _, _, _, _, _, _, _, _, _, _, _, _, _, _, _, rfl, fun x => p0 (k _ (by decide) x), fun x => p1 (k _ (by decide) x), fun x => p2 (k _ (by decide) x), fun x => p3 (k _ (by decide) x), fun x => p4 (k _ (by decide) x), fun x => p5 (k _ (by decide) x), fun x => p6 (k _ (by decide) x), fun x => p7 (k _ (by decide) x), fun x => p8 (k _ (by decide) x), fun x => p9 (k _ (by decide) x), fun x => p10 (k _ (by decide) x), fun x => p11 (k _ (by decide) x), fun x => p12 (k _ (by decide) x), fun x => p13 (k _ (by decide) x), fun x => p14 (k _ (by decide) x), fun x => p15 (k _ (by decide) x), fun _ => rfl, fun x => p17 (k _ (by decide) x), fun x => p18 (k _ (by decide) x), fun x => p19 (k _ (by decide) x), fun x => p20 (k _ (by decide) x), fun x => p21 (k _ (by decide) x), fun x => p22 (k _ (by decide) x), fun x => p23 (k _ (by decide) x), fun x => p24 (k _ (by decide) x), hBx⟩
    | 17, _ =>
      cases hio
      have k : ∀ j, j ≠ 17 → On (f.setIfInBounds 17 true) j → On f j := fun j hj x => on_back (by omega) x hj
      have h16 : On f 16 := he ⟨16, .data⟩ (by simp) rfl
      obtain rfl := p16 h16
      go_simp
      exact hK _ _ ⟨_, _, _, _, _, _, _, _, _, _, _, _, _, _, _, _, _, _, _, _, _, _, _, _, _, rfl, fun x => p0 (k _ (by decide) x), fun x => p1 (k _ (by decide) x), fun x => p2 (k _ (by decide) x), fun x => p3 (k _ (by decide) x), fun x => p4 (k _ (by decide) x), fun x => p5 (k _ (by decide) x), fun x => p6 (k _ (by decide) x), fun x => p7 (k _ (by decide) x), fun x => p8 (k _ (by decide) x), fun x => p9 (k _ (by decide) x), fun x => p10 (k _ (by decide) x), fun x => p11 (k _ (by decide) x), fun x => p12 (k _ (by decide) x), fun x => p13 (k _ (by decide) x), fun x => p14 (k _ (by decide) x), fun x => p15 (k _ (by decide) x), fun x => p16 (k _ (by decide) x), fun _ => rfl, fun x => p18 (k _ (by decide) x), fun x => p19 (k _ (by decide) x), fun x => p20 (k _ (by decide) x), fun x => p21 (k _ (by decide) x), fun x => p22 (k _ (by decide) x), fun x => p23 (k _ (by decide) x), fun x => p24 (k _ (by decide) x), hBx⟩
    | 18, _ =>
      cases hio
      have k : ∀ j, j ≠ 18 → On (f.setIfInBounds 18 true) j → On f j := fun j hj x => on_back (by omega) x hj
      have h17 : On f 17 := he ⟨17, .guard⟩ (by simp) rfl
      obtain rfl := p17 h17
      rw [if_pos (by rfl)]
      go_simp
      exact hK _ _ ⟨_, _, _, _, _, _, _, _, _, _, _, _, _, _, _, _, _, _, _, _, _, _, _, _, _, rfl, fun x => p0 (k _ (by decide) x), fun x => p1 (k _ (by decide) x), fun x => p2 (k _ (by decide) x), fun x => p3 (k _ (by decide) x), fun x => p4 (k _ (by decide) x), fun x => p5 (k _ (by decide) x), fun x => p6 (k _ (by decide) x), fun x => p7 (k _ (by decide) x), fun x => p8 (k _ (by decide) x), fun x => p9 (k _ (by decide) x), fun x => p10 (k _ (by decide) x), fun x => p11 (k _ (by decide) x), fun x => p12 (k _ (by decide) x), fun x => p13 (k _ (by decide) x), fun x => p14 (k _ (by decide) x), fun x => p15 (k _ (by decide) x), fun x => p16 (k _ (by decide) x), fun x => p17 (k _ (by decide) x), fun _ => rfl, fun x => p19 (k _ (by decide) x), fun x => p20 (k _ (by decide) x), fun x => p21 (k _ (by decide) x), fun x => p22 (k _ (by decide) x), fun x => p23 (k _ (by decide) x), fun x => p24 (k _ (by decide) x), hBx⟩
    | 19, _ =>
      cases hio
      have k : ∀ j, j ≠ 19 → On (f.setIfInBounds 19 true) j → On f j := fun j hj x => on_back (by omega) x hj
      have h17 : On f 17 := he ⟨17, .guard⟩ (by simp) rfl
      obtain rfl := p17 h17
      have h18 : On f 18 := he ⟨18, .data⟩ (by simp) rfl
      obtain rfl := p18 h18
      rw [if_pos (by rfl)]
      go_simp
      refine (HMX.out _ a1 c1 (HO3.out.below hBx) hac1).mono ?_
      rintro e w6 ⟨v6, rfl, ho, hb⟩
      rw [HU.out.2.2] at ho
      obtain ⟨a9, c9, rfl, hr9⟩ := Rd.of_own ho
      exact hK _ _ ⟨_, _, _, _, _, _, _, _, _, _, _, _, _, _, _, _, _, _, _, _, _, _, _, _, _, rfl, fun x => p0 (k _ (by decide) x), fun x => p1 (k _ (by decide) x), fun x => p2 (k _ (by decide) x), fun x => p3 (k _ (by decide) x), fun x => p4 (k _ (by decide) x), fun x => p5 (k _ (by decide) x), fun x => p6 (k _ (by decide) x), fun x => p7 (k _ (by decide) x), fun x => p8 (k _ (by decide) x), fun x => p9 (k _ (by decide) x), fun x => p10 (k _ (by decide) x), fun x => p11 (k _ (by decide) x), fun x => p12 (k _ (by decide) x), fun x => p13 (k _ (by decide) x), fun x => p14 (k _ (by decide) x), fun x => p15 (k _ (by decide) x), fun x => p16 (k _ (by decide) x), fun x => p17 (k _ (by decide) x), fun x => p18 (k _ (by decide) x), fun _ => ⟨a9, c9, rfl, hr9⟩, fun x => p20 (k _ (by decide) x), fun x => p21 (k _ (by decide) x), fun x => p22 (k _ (by decide) x), fun x => p23 (k _ (by decide) x), fun x => p24 (k _ (by decide) x), hBx.step hb⟩
    | 20, _ =>
      cases hio
      have k : ∀ j, j ≠ 20 → On (f.setIfInBounds 20 true) j → On f j := fun j hj x => on_back (by omega) x hj
      have h17 : On f 17 := he ⟨17, .guard⟩ (by simp) rfl
      obtain rfl := p17 h17
      have h19 : On f 19 := he ⟨19, .data⟩ (by simp) rfl
      obtain ⟨a9, c9, rfl, hr9⟩ := p19 h19
      have hs : (convert 22 9 (.slice a9 u c9)).run Try.prog wm = .ok (.string ⟨X.toArray⟩) wm := str_drew hr9 0
      rw [if_pos (by rfl)]
      go_simp
      exact hK _ _ ⟨_, _, _, _, _, _, _, _, _, _, _, _, _, _, _, _, _, _, _, _, _, _, _, _, _, rfl, fun x => p0 (k _ (by decide) x), fun x => p1 (k _ (by decide) x), fun x => p2 (k _ (by decide) x), fun x => p3 (k _ (by decide) x), fun x => p4 (k _ (by decide) x), fun x => p5 (k _ (by decide) x), fun x => p6 (k _ (by decide) x), fun x => p7 (k _ (by decide) x), fun x => p8 (k _ (by decide) x), fun x => p9 (k _ (by decide) x), fun x => p10 (k _ (by decide) x), fun x => p11 (k _ (by decide) x), fun x => p12 (k _ (by decide) x), fun x => p13 (k _ (by decide) x), fun x => p14 (k _ (by decide) x), fun x => p15 (k _ (by decide) x), fun x => p16 (k _ (by decide) x), fun x => p17 (k _ (by decide) x), fun x => p18 (k _ (by decide) x), fun x => p19 (k _ (by decide) x), fun _ => rfl, fun x => p21 (k _ (by decide) x), fun x => p22 (k _ (by decide) x), fun x => p23 (k _ (by decide) x), fun x => p24 (k _ (by decide) x), hBx⟩
    | 21, _ =>
      cases hio
      have k : ∀ j, j ≠ 21 → On (f.setIfInBounds 21 true) j → On f j := fun j hj x => on_back (by omega) x hj
      have h17 : On f 17 := he ⟨17, .guard⟩ (by simp) rfl
      obtain rfl := p17 h17
      rw [if_pos (by rfl)]
      go_simp
      exact hK _ _ ⟨_, _, _, _, _, _, _, _, _, _, _, _, _, _, _, _, _, _, _, _, _, _, _, _, _, rfl, fun x => p0 (k _ (by decide) x), fun x => p1 (k _ (by decide) x), fun x => p2 (k _ (by decide) x), fun x => p3 (k _ (by decide) x), fun x => p4 (k _ (by decide) x), fun x => p5 (k _ (by decide) x), fun x => p6 (k _ (by decide) x), fun x => p7 (k _ (by decide) x), fun x => p8 (k _ (by decide) x), fun x => p9 (k _ (by decide) x), fun x => p10 (k _ (by decide) x), fun x => p11 (k _ (by decide) x), fun x => p12 (k _ (by decide) x), fun x => p13 (k _ (by decide) x), fun x => p14 (k _ (by decide) x), fun x => p15 (k _ (by decide) x), fun x => p16 (k _ (by decide) x), fun x => p17 (k _ (by decide) x), fun x => p18 (k _ (by decide) x), fun x => p19 (k _ (by decide) x), fun x => p20 (k _ (by decide) x), fun _ => rfl, fun x => p22 (k _ (by decide) x), fun x => p23 (k _ (by decide) x), fun x => p24 (k _ (by decide) x), hBx⟩
    | 22, _ =>
      cases hio
      have k : ∀ j, j ≠ 22 → On (f.setIfInBounds 22 true) j → On f j := fun j hj x => on_back (by omega) x hj
      have h17 : On f 17 := he ⟨17, .guard⟩ (by simp) rfl
      obtain rfl := p17 h17
      have h21 : On f 21 := he ⟨21, .data⟩ (by simp) rfl
      obtain rfl := p21 h21
      have hs : (convert 22 9 (.slice a1 u c1)).run Try.prog wm = .ok (.string ⟨X.toArray⟩) wm := str_drew (HO3.out.below hBx) 0
      rw [if_pos (by rfl)]
      go_simp
      exact hK _ _ ⟨_, _, _, _, _, _, _, _, _, _, _, _, _, _, _, _, _, _, _, _, _, _, _, _, _, rfl, fun x => p0 (k _ (by decide) x), fun x => p1 (k _ (by decide) x), fun x => p2 (k _ (by decide) x), fun x => p3 (k _ (by decide) x), fun x => p4 (k _ (by decide) x), fun x => p5 (k _ (by decide) x), fun x => p6 (k _ (by decide) x), fun x => p7 (k _ (by decide) x), fun x => p8 (k _ (by decide) x), fun x => p9 (k _ (by decide) x), fun x => p10 (k _ (by decide) x), fun x => p11 (k _ (by decide) x), fun x => p12 (k _ (by decide) x), fun x => p13 (k _ (by decide) x), fun x => p14 (k _ (by decide) x), fun x => p15 (k _ (by decide) x), fun x => p16 (k _ (by decide) x), fun x => p17 (k _ (by decide) x), fun x => p18 (k _ (by decide) x), fun x => p19 (k _ (by decide) x), fun x => p20 (k _ (by decide) x), fun x => p21 (k _ (by decide) x), fun _ => rfl, fun x => p23 (k _ (by decide) x), fun x => p24 (k _ (by decide) x), hBx⟩
    | 23, _ =>
      cases hio
      have k : ∀ j, j ≠ 23 → On (f.setIfInBounds 23 true) j → On f j := fun j hj x => on_back (by omega) x hj
      have h17 : On f 17 := he ⟨17, .guard⟩ (by simp) rfl
      obtain rfl := p17 h17
      have h20 : On f 20 := he ⟨20, .data⟩ (by simp) rfl
      obtain rfl := p20 h20
      have h22 : On f 22 := he ⟨22, .data⟩ (by simp) rfl
      obtain rfl := p22 h22
      rw [if_pos (by rfl)]
      go_simp
      exact hK _ _ ⟨_, _, _, _, _, _, _, _, _, _, _, _, _, _, _, _, _, _, _, _, _, _, _, _, _, rfl, fun x => p0 (k _ (by decide) x), fun x => p1 (k _ (by decide) x), fun x => p2 (k _ (by decide) x), fun x => p3 (k _ (by decide) x), fun x => p4 (k _ (by decide) x), fun x => p5 (k _ (by decide) x), fun x => p6 (k _ (by decide) x), fun x => p7 (k _ (by decide) x), fun x => p8 (k _ (by decide) x), fun x => p9 (k _ (by decide) x), fun x => p10 (k _ (by decide) x), fun x => p11 (k _ (by decide) x), fun x => p12 (k _ (by decide) x), fun x => p13 (k _ (by decide) x), fun x => p14 (k _ (by decide) x), fun x => p15 (k _ (by decide) x), fun x => p16 (k _ (by decide) x), fun x => p17 (k _ (by decide) x), fun x => p18 (k _ (by decide) x), fun x => p19 (k _ (by decide) x), fun x => p20 (k _ (by decide) x), fun x => p21 (k _ (by decide) x), fun x => p22 (k _ (by decide) x), fun _ => rfl, fun x => p24 (k _ (by decide) x), hBx⟩
    | 24, _ =>
      cases hio
      have k : ∀ j, j ≠ 24 → On (f.setIfInBounds 24 true) j → On f j := fun j hj x => on_back (by omega) x hj
      have h17 : On f 17 := he ⟨17, .data⟩ (by simp) rfl
      obtain rfl := p17 h17
      have h23 : On f 23 := he ⟨23, .data⟩ (by simp) rfl
      obtain rfl := p23 h23
      go_simp
      exact hK _ _ ⟨_, _, _, _, _, _, _, _, _, _, _, _, _, _, _, _, _, _, _, _, _, _, _, _, _, rfl, fun x => p0 (k _ (by decide) x), fun x => p1 (k _ (by decide) x), fun x => p2 (k _ (by decide) x), fun x => p3 (k _ (by decide) x), fun x => p4 (k _ (by decide) x), fun x => p5 (k _ (by decide) x), fun x => p6 (k _ (by decide) x), fun x => p7 (k _ (by decide) x), fun x => p8 (k _ (by decide) x), fun x => p9 (k _ (by decide) x), fun x => p10 (k _ (by decide) x), fun x => p11 (k _ (by decide) x), fun x => p12 (k _ (by decide) x), fun x => p13 (k _ (by decide) x), fun x => p14 (k _ (by decide) x), fun x => p15 (k _ (by decide) x), fun x => p16 (k _ (by decide) x), fun x => p17 (k _ (by decide) x), fun x => p18 (k _ (by decide) x), fun x => p19 (k _ (by decide) x), fun x => p20 (k _ (by decide) x), fun x => p21 (k _ (by decide) x), fun x => p22 (k _ (by decide) x), fun x => p23 (k _ (by decide) x), fun _ => rfl, hBx⟩

  · rintro f act w5 hall hs' ⟨s25, s26, s27, s28, s29, s30, s31, s32, s33, s34, s35, s36, s37, s38, s39, s40, s41, s42, s43, s44, s45, s46, s47, s48, s49, rfl, p0, p1, p2, p3, p4, p5, p6, p7, p8, p9, p10, p11, p12, p13, p14, p15, p16, p17, p18, p19, p20, p21, p22, p23, p24, hBx⟩
    replace hs' : f.size = 25 := hs'
    obtain rfl := p24 (on_all hall hs' 24 (by decide))
    have BX := Lib.hid hBx
    clear p0 p1 p2 p3 p4 p5 p6 p7 p8 p9 p10 p11 p12 p13 p14 p15 p16 p17 p18 p19 p20 p21 p22 p23 p24 hBx hall hs'
    go_wp2_with fail
    refine (HRE.out _ (HR.out.below (HB3.out.step BX.out))).mono ?_
    rintro e w6 ⟨v6, xs6, rfl, hown6, _, hb6⟩
    obtain ⟨c6, hv6⟩ : ∃ a6 : Option Addr × Nat, v6 = .slice a6.1 0 a6.2 := by
      rcases hown6.2 with ⟨h, _⟩ | ⟨g, cap, cur, h, _⟩
      · exact ⟨(none, 0), h⟩
      · exact ⟨(some ⟨g, 0, none⟩, cap), h⟩
    obtain ⟨a6, c6⟩ := c6
    subst hv6
    clear hown6
    go_wp2_with fail
    go_ret
    exact ⟨rfl, (HB3.out.step BX.out).step hb6⟩
end Go.Proofs.Ytipaldfellfkdaa
