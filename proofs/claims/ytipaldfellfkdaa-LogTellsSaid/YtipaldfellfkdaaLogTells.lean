/- The statement LogTells, walked out of the contracts of what it calls. -/
import Derived.Test.YtipaldfellfkdaaLogRefSame
import Derived.Test.YtipaldfellfkdaaLogAgain
import Derived.Test.YtipaldfellfkdaaRgFun
namespace Go.Proofs.Ytipaldfellfkdaa
open Go.ChangeShapes Go.WideShapes Go.ChangeAt Go.RowKit
set_option linter.unusedVariables false

theorem readL_count (b : List UInt8) : (readL b).1.length ≤ b.length := by
  refine log_ind (C := fun b => (readL b).1.length ≤ b.length) ?_ ?_ b
  · intro b h; rw [readL_no h]; exact Nat.zero_le _
  · intro b h ih
    rw [readL_ok h]
    have := h.2.2.1
    rw [List.length_drop] at ih
    show (readL (b.drop (lenF b))).1.length + 1 ≤ _
    unfold lenF at *
    omega
/-- What a log is with one more record, if there is room; else the error. -/
def wroteL (l lx : List UInt8) (room : Int) : List UInt8 × Int := if (l.length : Int) + ((frameL lx).length : Int) ≤ room then (l ++ frameL lx, 0) else ([], 4)
/-- A text and an error are handed back. -/
def Wrote (Y : List UInt8) (g : Int) (w : World) (e : Ending) (w' : World) : Prop :=
  ∃ a c, e = .returned (.tuple #[.slice a Y.length c, .int .i64 g]) ∧ Rd w' a Y.length c Y ∧ Below w.heap.size w w'
theorem write_any (a : Option Addr) (n c : Nat) (l : List UInt8) (room : Int) (a2 : Option Addr) (n2 c2 : Nat) (lx : List UInt8) (w : World) (hr : Rd w a n c l) (hac : a = none → c = 0) (hn : n ≤ 20000) (hr2 : Rd w a2 n2 c2 lx) (hac2 : a2 = none → c2 = 0) (hn2 : n2 ≤ 4000) :
    Calls Try.prog 13 #[.slice a n c, .int .i64 room, .slice a2 n2 c2] w (Wrote (wroteL l lx room).1 (wroteL l lx room).2 w) := by
  have hl := hr.len
  by_cases h : (l.length : Int) + ((frameL lx).length : Int) ≤ room
  · unfold wroteL; rw [if_pos h]
    refine (write_ok a n c l room a2 n2 c2 lx w hr hac hn hr2 hac2 hn2 (by rw [← hl]; exact h)).mono ?_
    rintro e w1 ⟨v, rfl, ho, hb⟩
    obtain ⟨a', c', rfl, hr'⟩ := Rd.of_own ho
    exact ⟨a', c', rfl, hr', hb⟩
  · unfold wroteL; rw [if_neg h]
    refine (write_full a n c l room a2 n2 c2 lx w hr hn hr2 hac2 hn2 (by rw [← hl]; omega)).mono ?_
    rintro e w1 ⟨rfl, hb⟩
    exact ⟨none, 0, rfl, Rd.zero _ _ _ (by decide), hb⟩
theorem write_ref (a : Option Addr) (n c : Nat) (l : List UInt8) (room : Int) (a2 : Option Addr) (n2 c2 : Nat) (lx : List UInt8) (w : World) (hr : Rd w a n c l) (hac : a = none → c = 0) (hn : n ≤ 20000) (hr2 : Rd w a2 n2 c2 lx) (hac2 : a2 = none → c2 = 0) (hn2 : n2 ≤ 4000) :
    Calls Try.prog 14 #[.slice a n c, .int .i64 room, .slice a2 n2 c2] w (Wrote (wroteL l lx room).1 (wroteL l lx room).2 w) := by
  have hl := hr.len
  by_cases h : (l.length : Int) + ((frameL lx).length : Int) ≤ room
  · unfold wroteL; rw [if_pos h]
    refine (write_ref_ok a n c l room a2 n2 c2 lx w hr hac hn hr2 hac2 hn2 (by rw [← hl]; exact h)).mono ?_
    rintro e w1 ⟨v, rfl, ho, hb⟩
    obtain ⟨a', c', rfl, hr'⟩ := Rd.of_own ho
    exact ⟨a', c', rfl, hr', hb⟩
  · unfold wroteL; rw [if_neg h]
    refine (write_ref_full a n c l room a2 n2 c2 lx w hr hn hr2 hac2 hn2 (by rw [← hl]; omega)).mono ?_
    rintro e w1 ⟨rfl, hb⟩
    exact ⟨none, 0, rfl, Rd.zero _ _ _ (by decide), hb⟩

set_option maxRecDepth 100000 in
set_option maxHeartbeats 4000000 in
theorem logTells_walk (a : Option Addr) (n c : Nat) (l : List UInt8) (room : Int) (a2 : Option Addr) (n2 c2 : Nat) (lx : List UInt8) (w : World) (hr : Rd w a n c l) (hac : a = none → c = 0) (hr2 : Rd w a2 n2 c2 lx) (hac2 : a2 = none → c2 = 0) :
    Calls Try.prog 3 #[.slice a n c, .int .i64 room, .slice a2 n2 c2] w fun e w' => e = .returned (.bool true) ∧ Below w.heap.size w w' := by
  have hl3 : n ≤ 9223372036854775807 := Nat.le_trans hr.le hr.cap
  have hl4 : n2 ≤ 9223372036854775807 := Nat.le_trans hr2.le hr2.cap
  by_cases hl : n ≤ 1000
  case neg =>
    have hl2 : 1000 < (n : Int) := by omega
    clear hr hac hr2 hac2
    go_enter Try.func3, Try.ntmps3
    go_wp2_with fail
    refine (awake_any _).mono ?_
    rintro e v1 ⟨rfl, hb1⟩
    go_wp2_with fail
    go_ret
    exact ⟨rfl, hb1⟩
  have hl2 : ¬ 1000 < (n : Int) := by omega
  by_cases hm : n2 ≤ 1000
  case neg =>
    have hm2 : 1000 < (n2 : Int) := by omega
    clear hr hac hr2 hac2
    go_enter Try.func3, Try.ntmps3
    go_wp2_with fail
    refine (awake_any _).mono ?_
    rintro e v1 ⟨rfl, hb1⟩
    go_wp2_with fail
    go_ret
    exact ⟨rfl, hb1⟩
  have hm2 : ¬ 1000 < (n2 : Int) := by omega
  have hlen := hr.len
  obtain ⟨u, hu⟩ : ∃ u, u = (readL l).2 := ⟨_, rfl⟩
  obtain ⟨RL, hRL⟩ : ∃ RL, RL = (readL l).1 := ⟨_, rfl⟩
  have HRlen := Lib.hid (show RL.length ≤ 20000 by rw [hRL]; exact Nat.le_trans (readL_count l) (by omega))
  obtain ⟨Z, hZ⟩ : ∃ Z, Z = l.take u := ⟨_, rfl⟩
  obtain ⟨F, hF⟩ : ∃ F, F = frameL lx := ⟨_, rfl⟩
  obtain ⟨Y, hY⟩ : ∃ Y, Y = (wroteL l lx room).1 := ⟨_, rfl⟩
  obtain ⟨g, hg⟩ : ∃ g, g = (wroteL l lx room).2 := ⟨_, rfl⟩
  have HR := Lib.hid hr
  have HR2 := Lib.hid hr2
  have HM := Lib.hid (fun (w' : World) (h : Rd w' a n c l) => mend_any a n c l w' h hac (by omega))
  have HN := Lib.hid (fun (w' : World) (h : Rd w' a n c l) => mend_ref a n c l w' h hac (by omega))
  have HA := Lib.hid (fun (w' : World) (h : Rd w' a n c l) => read_any a n c l w' h hac (by omega))
  have HB := Lib.hid (fun (w' : World) (h : Rd w' a n c l) => read_ref a n c l w' h hac (by omega))
  have HF := Lib.hid (fun (w' : World) (h : Rd w' a2 n2 c2 lx) => frame_any a2 n2 c2 lx w' h hac2 (by omega))
  have HG := Lib.hid (fun (w' : World) (h : Rd w' a2 n2 c2 lx) => frame_ref a2 n2 c2 lx w' h hac2 (by omega))
  have HW := Lib.hid (fun (w' : World) (h : Rd w' a n c l) (h2 : Rd w' a2 n2 c2 lx) => write_any a n c l room a2 n2 c2 lx w' h hac (by omega) h2 hac2 (by omega))
  have HV := Lib.hid (fun (w' : World) (h : Rd w' a n c l) (h2 : Rd w' a2 n2 c2 lx) => write_ref a n c l room a2 n2 c2 lx w' h hac (by omega) h2 hac2 (by omega))
  rw [← hu, ← hZ] at HM HN
  rw [← hu, ← hRL] at HA HB
  unfold FrameOut at HF HG
  rw [← hF] at HF HG
  rw [← hY, ← hg] at HW HV
  clear hr hac hr2 hac2 hu hRL hZ hF hY hg hlen
  go_enter Try.func3, Try.ntmps3
  go_wp2_with fail
  refine (awake_any _).mono ?_
  rintro e v1 ⟨rfl, hb1⟩
  go_wp2_with fail
  refine (HF.out _ (HR2.out.below hb1)).mono ?_
  rintro e v2 ⟨x8, rfl, ho, hb⟩
  obtain ⟨a8, c8, rfl, hr8⟩ := Rd.of_own ho
  have HB2 := Lib.hid (hb1.step hb)
  have H8 := Lib.hid hr8
  clear ho hr8 hb1 hb HF
  go_wp2_with fail
  refine (HG.out _ (HR2.out.below HB2.out)).mono ?_
  rintro e v3 ⟨x10, rfl, ho, hb⟩
  obtain ⟨a10, c10, rfl, hr10⟩ := Rd.of_own ho
  have HB3 := Lib.hid (HB2.out.step hb)
  have H83 := Lib.hid (H8.out.below hb)
  have H10 := Lib.hid hr10
  clear ho hr10 hb HG HB2 H8
  go_wp2_with fail
  refine (HA.out _ (HR.out.below HB3.out)).mono ?_
  rintro e v4 ⟨x12, xs, rfl, ho12, hx12, hb⟩
  have HB4 := Lib.hid (HB3.out.step hb)
  have H84 := Lib.hid (H83.out.below hb)
  have H104 := Lib.hid (H10.out.below hb)
  have HO12 := Lib.hid (show v4.ownsRow w.heap.size 22 1 x12 RL.length xs ∧ Recs v4 w.heap.size xs RL from ⟨ownsRow_mono ho12 HB3.out.size, ⟨hx12.1, fun i hi => ownsRow_mono (hx12.2 i hi) HB3.out.size⟩⟩)
  clear ho12 hx12 hb HA HB3 H83 H10
  go_wp2_with fail
  refine (HB.out _ (HR.out.below HB4.out)).mono ?_
  rintro e v5 ⟨x14, ys, rfl, ho14, hx14, hb⟩
  have HB5 := Lib.hid (HB4.out.step hb)
  have H85 := Lib.hid (H84.out.below hb)
  have H105 := Lib.hid (H104.out.below hb)
  have HO15 := Lib.hid (show v5.ownsRow w.heap.size 22 1 x12 RL.length xs ∧ Recs v5 w.heap.size xs RL from ⟨ownsRow_below HO12.out.1 hb, recs_below HO12.out.2 hb⟩)
  have HO14 := Lib.hid (show v5.ownsRow w.heap.size 22 1 x14 RL.length ys ∧ Recs v5 w.heap.size ys RL from ⟨ownsRow_mono ho14 HB4.out.size, ⟨hx14.1, fun i hi => ownsRow_mono (hx14.2 i hi) HB4.out.size⟩⟩)
  clear ho14 hx14 hb HB HB4 H84 H104 HO12
  go_wp2_with fail
  refine (same_ref_yes x12 x14 xs ys RL _ w.heap.size HO15.out.1 HO15.out.2 HO14.out.1 HO14.out.2 HRlen.out).mono ?_
  rintro e v6 ⟨rfl, hb⟩
  have HB6 := Lib.hid (HB5.out.step hb)
  have H86 := Lib.hid (H85.out.below hb)
  have H106 := Lib.hid (H105.out.below hb)
  clear hb HB5 H85 H105 HO15 HO14
  go_wp2_with fail
  refine (HW.out _ (HR.out.below HB6.out) (HR2.out.below HB6.out)).mono ?_
  rintro e v7 ⟨a17, c17, rfl, hr17, hb⟩
  have HB7 := Lib.hid (HB6.out.step hb)
  have H87 := Lib.hid (H86.out.below hb)
  have H107 := Lib.hid (H106.out.below hb)
  have H17 := Lib.hid hr17
  clear hr17 hb HW HB6 H86 H106
  go_wp2_with fail
  refine (HV.out _ (HR.out.below HB7.out) (HR2.out.below HB7.out)).mono ?_
  rintro e v8 ⟨a19, c19, rfl, hr19, hb⟩
  have HB8 := Lib.hid (HB7.out.step hb)
  have H88 := Lib.hid (H87.out.below hb)
  have H108 := Lib.hid (H107.out.below hb)
  have H178 := Lib.hid (H17.out.below hb)
  have H198 := Lib.hid hr19
  clear hr19 hb HV HB7 H87 H107 H17
  obtain ⟨FL, hFL⟩ : ∃ FL, FL = F.length := ⟨_, rfl⟩
  obtain ⟨YL, hYL⟩ : ∃ YL, YL = Y.length := ⟨_, rfl⟩
  rw [← hFL] at H88 H108 ⊢
  rw [← hYL] at H178 H198 ⊢
  clear hFL hYL
  go_upto_region 11 with fail
  have hD : ∀ j, j < 40 → ∀ n, n < 40 → j ≠ n → dkN [72, 73, 74, 75, 76, 77, 78, 79, 80, 81, 82, 83, 84, 85, 86, 87, 88, 89, 90, 91, 92, 93, 94, 95, 96, 97, 98, 99, 100, 101, 102, 103, 104, 105, 106, 107, 108, 109, 110, 6] j ≠ dkN [72, 73, 74, 75, 76, 77, 78, 79, 80, 81, 82, 83, 84, 85, 86, 87, 88, 89, 90, 91, 92, 93, 94, 95, 96, 97, 98, 99, 100, 101, 102, 103, 104, 105, 106, 107, 108, 109, 110, 6] n := by decide +kernel
  refine region_fun (by kernel_rfl) (by kernel_rfl) (fun gv => #[.slice a n c, .int .i64 room, .slice a2 n2 c2, undef, undef, undef, gv 6, .bool true, .slice a8 FL c8, .int .i64 0, .slice a10 FL c10, .int .i64 0, x12, .int .i64 (u : Int), x14, .int .i64 (u : Int), .bool true, .slice a17 YL c17, .int .i64 g, .slice a19 YL c19, .int .i64 g, gv 21, gv 22, gv 23, gv 24, gv 25, gv 26, gv 27, gv 28, gv 29, gv 30, gv 31, gv 32, gv 33, gv 34, gv 35, gv 36, gv 37, gv 38, gv 39, gv 40, gv 41, gv 42, gv 43, gv 44, gv 45, gv 46, gv 47, gv 48, gv 49, gv 50, gv 51, gv 52, gv 53, gv 54, gv 55, gv 56, gv 57, gv 58, gv 59, gv 60, gv 61, gv 62, gv 63, gv 64, gv 65, gv 66, gv 67, gv 68, gv 69, gv 70, gv 71, gv 72, gv 73, gv 74, gv 75, gv 76, gv 77, gv 78, gv 79, gv 80, gv 81, gv 82, gv 83, gv 84, gv 85, gv 86, gv 87, gv 88, gv 89, gv 90, gv 91, gv 92, gv 93, gv 94, gv 95, gv 96, gv 97, gv 98, gv 99, gv 100, gv 101, gv 102, gv 103, gv 104, gv 105, gv 106, gv 107, gv 108, gv 109, gv 110]) rfl (fun f gv wx => Below v8.heap.size v8 wx ∧ (∀ j, j < 40 → (fun j => Nat.beq j 32 || Nat.beq j 35) j = false → On f j → gv (dkN [72, 73, 74, 75, 76, 77, 78, 79, 80, 81, 82, 83, 84, 85, 86, 87, 88, 89, 90, 91, 92, 93, 94, 95, 96, 97, 98, 99, 100, 101, 102, 103, 104, 105, 106, 107, 108, 109, 110, 6] j) = vkN [.slice a8 FL c8, .string ⟨F.toArray⟩, .slice a10 FL c10, .string ⟨F.toArray⟩, .bool true, .bool true, .int .i64 0, .int .i64 0, .bool true, .bool true, .bool true, .bool true, .bool true, .bool true, .int .i64 (u : Int), .int .i64 (u : Int), .bool true, .bool true, .bool true, .slice a17 YL c17, .string ⟨Y.toArray⟩, .slice a19 YL c19, .string ⟨Y.toArray⟩, .bool true, .bool true, .bool true, .int .i64 g, .int .i64 g, .bool true, .bool true, .bool true, .slice a n c, undef, .string ⟨Z.toArray⟩, .slice a n c, undef, .string ⟨Z.toArray⟩, .bool true, .bool true, .bool true] j) ∧ (On f 32 → ∃ a9 c9, gv 104 = .slice a9 Z.length c9 ∧ Rd wx a9 Z.length c9 Z) ∧ (On f 35 → ∃ a9 c9, gv 107 = .slice a9 Z.length c9 ∧ Rd wx a9 Z.length c9 Z)) ?_ ?_ ?_
  · have hoff : ∀ j, ¬ On (Array.replicate 40 false) j := by
      intro j hj; simp only [On, Array.getD_eq_getD_getElem?, Array.getElem?_replicate] at hj; split at hj <;> simp at hj
    exact ⟨(Below.refl _ _).drew, fun j _ _ x => absurd x (hoff _), fun x => absurd x (hoff _), fun x => absurd x (hoff _)⟩
  · rintro i' o f gv wm hio hs' hn he ⟨hBx, P, Q32, Q35⟩ K hK
    have hi' : i' < 40 := (Array.getElem?_eq_some_iff.1 hio).1
    replace hs' : f.size = 40 := hs'
    match i', hi' with
    | 0, _ =>
      cases hio
      have HQ := Lib.hid (And.intro P (And.intro Q32 Q35))
      clear P Q32 Q35
      go_simp
      exact hK (upd gv 72 (.slice a8 FL c8)) _ (by exact ⟨hBx, vals_step (n := 0) (v := .slice a8 FL c8) hD (by decide) (by omega) HQ.out.1 (fun _ => rfl), fun x => HQ.out.2.1 (on_back (by omega) x (by decide)), fun x => HQ.out.2.2 (on_back (by omega) x (by decide))⟩)
    | 1, _ =>
      cases hio
      have h0 : On f 0 := he ⟨0, .data⟩ (by simp) rfl
      have e0 : gv 72 = .slice a8 FL c8 := P 0 (by decide) rfl h0
      have hs : (convert 22 9 (.slice a8 FL c8)).run Try.prog wm = .ok (.string ⟨F.toArray⟩) wm := str_drew (H88.out.below hBx) 0
      rw [e0]
      have HQ := Lib.hid (And.intro P (And.intro Q32 Q35))
      clear P Q32 Q35
      go_simp
      exact hK (upd (upd gv 72 (.slice a8 FL c8)) 73 (.string ⟨F.toArray⟩)) _ (by rw [upd_same e0]; exact ⟨hBx, vals_step (n := 1) (v := .string ⟨F.toArray⟩) hD (by decide) (by omega) HQ.out.1 (fun _ => rfl), fun x => HQ.out.2.1 (on_back (by omega) x (by decide)), fun x => HQ.out.2.2 (on_back (by omega) x (by decide))⟩)
    | 2, _ =>
      cases hio
      have HQ := Lib.hid (And.intro P (And.intro Q32 Q35))
      clear P Q32 Q35
      go_simp
      exact hK (upd gv 74 (.slice a10 FL c10)) _ (by exact ⟨hBx, vals_step (n := 2) (v := .slice a10 FL c10) hD (by decide) (by omega) HQ.out.1 (fun _ => rfl), fun x => HQ.out.2.1 (on_back (by omega) x (by decide)), fun x => HQ.out.2.2 (on_back (by omega) x (by decide))⟩)
    | 3, _ =>
      cases hio
      have h2 : On f 2 := he ⟨2, .data⟩ (by simp) rfl
      have e2 : gv 74 = .slice a10 FL c10 := P 2 (by decide) rfl h2
      have hs : (convert 22 9 (.slice a10 FL c10)).run Try.prog wm = .ok (.string ⟨F.toArray⟩) wm := str_drew (H108.out.below hBx) 0
      rw [e2]
      have HQ := Lib.hid (And.intro P (And.intro Q32 Q35))
      clear P Q32 Q35
      go_simp
      exact hK (upd (upd gv 74 (.slice a10 FL c10)) 75 (.string ⟨F.toArray⟩)) _ (by rw [upd_same e2]; exact ⟨hBx, vals_step (n := 3) (v := .string ⟨F.toArray⟩) hD (by decide) (by omega) HQ.out.1 (fun _ => rfl), fun x => HQ.out.2.1 (on_back (by omega) x (by decide)), fun x => HQ.out.2.2 (on_back (by omega) x (by decide))⟩)
    | 4, _ =>
      cases hio
      have h1 : On f 1 := he ⟨1, .data⟩ (by simp) rfl
      have e1 : gv 73 = .string ⟨F.toArray⟩ := P 1 (by decide) rfl h1
      have h3 : On f 3 := he ⟨3, .data⟩ (by simp) rfl
      have e3 : gv 75 = .string ⟨F.toArray⟩ := P 3 (by decide) rfl h3
      rw [e1, e3]
      have HQ := Lib.hid (And.intro P (And.intro Q32 Q35))
      clear P Q32 Q35
      go_simp
      exact hK (upd (upd (upd gv 73 (.string ⟨F.toArray⟩)) 75 (.string ⟨F.toArray⟩)) 76 (.bool true)) _ (by rw [upd_same e1]; rw [upd_same e3]; exact ⟨hBx, vals_step (n := 4) (v := .bool true) hD (by decide) (by omega) HQ.out.1 (fun _ => rfl), fun x => HQ.out.2.1 (on_back (by omega) x (by decide)), fun x => HQ.out.2.2 (on_back (by omega) x (by decide))⟩)
    | 5, _ =>
      cases hio
      have h4 : On f 4 := he ⟨4, .data⟩ (by simp) rfl
      have e4 : gv 76 = .bool true := P 4 (by decide) rfl h4
      rw [e4]
      have HQ := Lib.hid (And.intro P (And.intro Q32 Q35))
      clear P Q32 Q35
      go_simp
      exact hK (upd (upd gv 76 (.bool true)) 77 (.bool true)) _ (by rw [upd_same e4]; exact ⟨hBx, vals_step (n := 5) (v := .bool true) hD (by decide) (by omega) HQ.out.1 (fun _ => rfl), fun x => HQ.out.2.1 (on_back (by omega) x (by decide)), fun x => HQ.out.2.2 (on_back (by omega) x (by decide))⟩)
    | 6, _ =>
      cases hio
      have h5 : On f 5 := he ⟨5, .guard⟩ (by simp) rfl
      have e5 : gv 77 = .bool true := P 5 (by decide) rfl h5
      rw [e5]
      rw [if_pos (by rfl)]
      have HQ := Lib.hid (And.intro P (And.intro Q32 Q35))
      clear P Q32 Q35
      go_simp
      exact hK (upd (upd gv 77 (.bool true)) 78 (.int .i64 0)) _ (by rw [upd_same e5]; exact ⟨hBx, vals_step (n := 6) (v := .int .i64 0) hD (by decide) (by omega) HQ.out.1 (fun _ => rfl), fun x => HQ.out.2.1 (on_back (by omega) x (by decide)), fun x => HQ.out.2.2 (on_back (by omega) x (by decide))⟩)
    | 7, _ =>
      cases hio
      have h5 : On f 5 := he ⟨5, .guard⟩ (by simp) rfl
      have e5 : gv 77 = .bool true := P 5 (by decide) rfl h5
      rw [e5]
      rw [if_pos (by rfl)]
      have HQ := Lib.hid (And.intro P (And.intro Q32 Q35))
      clear P Q32 Q35
      go_simp
      exact hK (upd (upd gv 77 (.bool true)) 79 (.int .i64 0)) _ (by rw [upd_same e5]; exact ⟨hBx, vals_step (n := 7) (v := .int .i64 0) hD (by decide) (by omega) HQ.out.1 (fun _ => rfl), fun x => HQ.out.2.1 (on_back (by omega) x (by decide)), fun x => HQ.out.2.2 (on_back (by omega) x (by decide))⟩)
    | 8, _ =>
      cases hio
      have h5 : On f 5 := he ⟨5, .guard⟩ (by simp) rfl
      have e5 : gv 77 = .bool true := P 5 (by decide) rfl h5
      have h6 : On f 6 := he ⟨6, .data⟩ (by simp) rfl
      have e6 : gv 78 = .int .i64 0 := P 6 (by decide) rfl h6
      have h7 : On f 7 := he ⟨7, .data⟩ (by simp) rfl
      have e7 : gv 79 = .int .i64 0 := P 7 (by decide) rfl h7
      rw [e5, e6, e7]
      rw [if_pos (by rfl)]
      have HQ := Lib.hid (And.intro P (And.intro Q32 Q35))
      clear P Q32 Q35
      go_simp
      exact hK (upd (upd (upd (upd gv 77 (.bool true)) 78 (.int .i64 0)) 79 (.int .i64 0)) 80 (.bool true)) _ (by rw [upd_same e5]; rw [upd_same e6]; rw [upd_same e7]; exact ⟨hBx, vals_step (n := 8) (v := .bool true) hD (by decide) (by omega) HQ.out.1 (fun _ => rfl), fun x => HQ.out.2.1 (on_back (by omega) x (by decide)), fun x => HQ.out.2.2 (on_back (by omega) x (by decide))⟩)
    | 9, _ =>
      cases hio
      have h5 : On f 5 := he ⟨5, .data⟩ (by simp) rfl
      have e5 : gv 77 = .bool true := P 5 (by decide) rfl h5
      have h8 : On f 8 := he ⟨8, .data⟩ (by simp) rfl
      have e8 : gv 80 = .bool true := P 8 (by decide) rfl h8
      rw [e5, e8]
      have HQ := Lib.hid (And.intro P (And.intro Q32 Q35))
      clear P Q32 Q35
      go_simp
      exact hK (upd (upd (upd gv 77 (.bool true)) 80 (.bool true)) 81 (.bool true)) _ (by rw [upd_same e5]; rw [upd_same e8]; exact ⟨hBx, vals_step (n := 9) (v := .bool true) hD (by decide) (by omega) HQ.out.1 (fun _ => rfl), fun x => HQ.out.2.1 (on_back (by omega) x (by decide)), fun x => HQ.out.2.2 (on_back (by omega) x (by decide))⟩)
    | 10, _ =>
      cases hio
      have h9 : On f 9 := he ⟨9, .data⟩ (by simp) rfl
      have e9 : gv 81 = .bool true := P 9 (by decide) rfl h9
      rw [e9]
      have HQ := Lib.hid (And.intro P (And.intro Q32 Q35))
      clear P Q32 Q35
      go_simp
      exact hK (upd (upd gv 81 (.bool true)) 82 (.bool true)) _ (by rw [upd_same e9]; exact ⟨hBx, vals_step (n := 10) (v := .bool true) hD (by decide) (by omega) HQ.out.1 (fun _ => rfl), fun x => HQ.out.2.1 (on_back (by omega) x (by decide)), fun x => HQ.out.2.2 (on_back (by omega) x (by decide))⟩)
    | 11, _ =>
      cases hio
      have h10 : On f 10 := he ⟨10, .guard⟩ (by simp) rfl
      have e10 : gv 82 = .bool true := P 10 (by decide) rfl h10
      rw [e10]
      rw [if_pos (by rfl)]
      have HQ := Lib.hid (And.intro P (And.intro Q32 Q35))
      clear P Q32 Q35
      go_simp
      exact hK (upd (upd gv 82 (.bool true)) 83 (.bool true)) _ (by rw [upd_same e10]; exact ⟨hBx, vals_step (n := 11) (v := .bool true) hD (by decide) (by omega) HQ.out.1 (fun _ => rfl), fun x => HQ.out.2.1 (on_back (by omega) x (by decide)), fun x => HQ.out.2.2 (on_back (by omega) x (by decide))⟩)
    | 12, _ =>
      cases hio
      have h10 : On f 10 := he ⟨10, .data⟩ (by simp) rfl
      have e10 : gv 82 = .bool true := P 10 (by decide) rfl h10
      have h11 : On f 11 := he ⟨11, .data⟩ (by simp) rfl
      have e11 : gv 83 = .bool true := P 11 (by decide) rfl h11
      rw [e10, e11]
      have HQ := Lib.hid (And.intro P (And.intro Q32 Q35))
      clear P Q32 Q35
      go_simp
      exact hK (upd (upd (upd gv 82 (.bool true)) 83 (.bool true)) 84 (.bool true)) _ (by rw [upd_same e10]; rw [upd_same e11]; exact ⟨hBx, vals_step (n := 12) (v := .bool true) hD (by decide) (by omega) HQ.out.1 (fun _ => rfl), fun x => HQ.out.2.1 (on_back (by omega) x (by decide)), fun x => HQ.out.2.2 (on_back (by omega) x (by decide))⟩)
    | 13, _ =>
      cases hio
      have h12 : On f 12 := he ⟨12, .data⟩ (by simp) rfl
      have e12 : gv 84 = .bool true := P 12 (by decide) rfl h12
      rw [e12]
      have HQ := Lib.hid (And.intro P (And.intro Q32 Q35))
      clear P Q32 Q35
      go_simp
      exact hK (upd (upd gv 84 (.bool true)) 85 (.bool true)) _ (by rw [upd_same e12]; exact ⟨hBx, vals_step (n := 13) (v := .bool true) hD (by decide) (by omega) HQ.out.1 (fun _ => rfl), fun x => HQ.out.2.1 (on_back (by omega) x (by decide)), fun x => HQ.out.2.2 (on_back (by omega) x (by decide))⟩)
    | 14, _ =>
      cases hio
      have h13 : On f 13 := he ⟨13, .guard⟩ (by simp) rfl
      have e13 : gv 85 = .bool true := P 13 (by decide) rfl h13
      rw [e13]
      rw [if_pos (by rfl)]
      have HQ := Lib.hid (And.intro P (And.intro Q32 Q35))
      clear P Q32 Q35
      go_simp
      exact hK (upd (upd gv 85 (.bool true)) 86 (.int .i64 (u : Int))) _ (by rw [upd_same e13]; exact ⟨hBx, vals_step (n := 14) (v := .int .i64 (u : Int)) hD (by decide) (by omega) HQ.out.1 (fun _ => rfl), fun x => HQ.out.2.1 (on_back (by omega) x (by decide)), fun x => HQ.out.2.2 (on_back (by omega) x (by decide))⟩)
    | 15, _ =>
      cases hio
      have h13 : On f 13 := he ⟨13, .guard⟩ (by simp) rfl
      have e13 : gv 85 = .bool true := P 13 (by decide) rfl h13
      rw [e13]
      rw [if_pos (by rfl)]
      have HQ := Lib.hid (And.intro P (And.intro Q32 Q35))
      clear P Q32 Q35
      go_simp
      exact hK (upd (upd gv 85 (.bool true)) 87 (.int .i64 (u : Int))) _ (by rw [upd_same e13]; exact ⟨hBx, vals_step (n := 15) (v := .int .i64 (u : Int)) hD (by decide) (by omega) HQ.out.1 (fun _ => rfl), fun x => HQ.out.2.1 (on_back (by omega) x (by decide)), fun x => HQ.out.2.2 (on_back (by omega) x (by decide))⟩)
    | 16, _ =>
      cases hio
      have h13 : On f 13 := he ⟨13, .guard⟩ (by simp) rfl
      have e13 : gv 85 = .bool true := P 13 (by decide) rfl h13
      have h14 : On f 14 := he ⟨14, .data⟩ (by simp) rfl
      have e14 : gv 86 = .int .i64 (u : Int) := P 14 (by decide) rfl h14
      have h15 : On f 15 := he ⟨15, .data⟩ (by simp) rfl
      have e15 : gv 87 = .int .i64 (u : Int) := P 15 (by decide) rfl h15
      rw [e13, e14, e15]
      rw [if_pos (by rfl)]
      have HQ := Lib.hid (And.intro P (And.intro Q32 Q35))
      clear P Q32 Q35
      go_simp
      exact hK (upd (upd (upd (upd gv 85 (.bool true)) 86 (.int .i64 (u : Int))) 87 (.int .i64 (u : Int))) 88 (.bool true)) _ (by rw [upd_same e13]; rw [upd_same e14]; rw [upd_same e15]; exact ⟨hBx, vals_step (n := 16) (v := .bool true) hD (by decide) (by omega) HQ.out.1 (fun _ => rfl), fun x => HQ.out.2.1 (on_back (by omega) x (by decide)), fun x => HQ.out.2.2 (on_back (by omega) x (by decide))⟩)
    | 17, _ =>
      cases hio
      have h13 : On f 13 := he ⟨13, .data⟩ (by simp) rfl
      have e13 : gv 85 = .bool true := P 13 (by decide) rfl h13
      have h16 : On f 16 := he ⟨16, .data⟩ (by simp) rfl
      have e16 : gv 88 = .bool true := P 16 (by decide) rfl h16
      rw [e13, e16]
      have HQ := Lib.hid (And.intro P (And.intro Q32 Q35))
      clear P Q32 Q35
      go_simp
      exact hK (upd (upd (upd gv 85 (.bool true)) 88 (.bool true)) 89 (.bool true)) _ (by rw [upd_same e13]; rw [upd_same e16]; exact ⟨hBx, vals_step (n := 17) (v := .bool true) hD (by decide) (by omega) HQ.out.1 (fun _ => rfl), fun x => HQ.out.2.1 (on_back (by omega) x (by decide)), fun x => HQ.out.2.2 (on_back (by omega) x (by decide))⟩)
    | 18, _ =>
      cases hio
      have h17 : On f 17 := he ⟨17, .data⟩ (by simp) rfl
      have e17 : gv 89 = .bool true := P 17 (by decide) rfl h17
      rw [e17]
      have HQ := Lib.hid (And.intro P (And.intro Q32 Q35))
      clear P Q32 Q35
      go_simp
      exact hK (upd (upd gv 89 (.bool true)) 90 (.bool true)) _ (by rw [upd_same e17]; exact ⟨hBx, vals_step (n := 18) (v := .bool true) hD (by decide) (by omega) HQ.out.1 (fun _ => rfl), fun x => HQ.out.2.1 (on_back (by omega) x (by decide)), fun x => HQ.out.2.2 (on_back (by omega) x (by decide))⟩)
    | 19, _ =>
      cases hio
      have h18 : On f 18 := he ⟨18, .guard⟩ (by simp) rfl
      have e18 : gv 90 = .bool true := P 18 (by decide) rfl h18
      rw [e18]
      rw [if_pos (by rfl)]
      have HQ := Lib.hid (And.intro P (And.intro Q32 Q35))
      clear P Q32 Q35
      go_simp
      exact hK (upd (upd gv 90 (.bool true)) 91 (.slice a17 YL c17)) _ (by rw [upd_same e18]; exact ⟨hBx, vals_step (n := 19) (v := .slice a17 YL c17) hD (by decide) (by omega) HQ.out.1 (fun _ => rfl), fun x => HQ.out.2.1 (on_back (by omega) x (by decide)), fun x => HQ.out.2.2 (on_back (by omega) x (by decide))⟩)
    | 20, _ =>
      cases hio
      have h18 : On f 18 := he ⟨18, .guard⟩ (by simp) rfl
      have e18 : gv 90 = .bool true := P 18 (by decide) rfl h18
      have h19 : On f 19 := he ⟨19, .data⟩ (by simp) rfl
      have e19 : gv 91 = .slice a17 YL c17 := P 19 (by decide) rfl h19
      have hs : (convert 22 9 (.slice a17 YL c17)).run Try.prog wm = .ok (.string ⟨Y.toArray⟩) wm := str_drew (H178.out.below hBx) 0
      rw [e18, e19]
      rw [if_pos (by rfl)]
      have HQ := Lib.hid (And.intro P (And.intro Q32 Q35))
      clear P Q32 Q35
      go_simp
      exact hK (upd (upd (upd gv 90 (.bool true)) 91 (.slice a17 YL c17)) 92 (.string ⟨Y.toArray⟩)) _ (by rw [upd_same e18]; rw [upd_same e19]; exact ⟨hBx, vals_step (n := 20) (v := .string ⟨Y.toArray⟩) hD (by decide) (by omega) HQ.out.1 (fun _ => rfl), fun x => HQ.out.2.1 (on_back (by omega) x (by decide)), fun x => HQ.out.2.2 (on_back (by omega) x (by decide))⟩)
    | 21, _ =>
      cases hio
      have h18 : On f 18 := he ⟨18, .guard⟩ (by simp) rfl
      have e18 : gv 90 = .bool true := P 18 (by decide) rfl h18
      rw [e18]
      rw [if_pos (by rfl)]
      have HQ := Lib.hid (And.intro P (And.intro Q32 Q35))
      clear P Q32 Q35
      go_simp
      exact hK (upd (upd gv 90 (.bool true)) 93 (.slice a19 YL c19)) _ (by rw [upd_same e18]; exact ⟨hBx, vals_step (n := 21) (v := .slice a19 YL c19) hD (by decide) (by omega) HQ.out.1 (fun _ => rfl), fun x => HQ.out.2.1 (on_back (by omega) x (by decide)), fun x => HQ.out.2.2 (on_back (by omega) x (by decide))⟩)
    | 22, _ =>
      cases hio
      have h18 : On f 18 := he ⟨18, .guard⟩ (by simp) rfl
      have e18 : gv 90 = .bool true := P 18 (by decide) rfl h18
      have h21 : On f 21 := he ⟨21, .data⟩ (by simp) rfl
      have e21 : gv 93 = .slice a19 YL c19 := P 21 (by decide) rfl h21
      have hs : (convert 22 9 (.slice a19 YL c19)).run Try.prog wm = .ok (.string ⟨Y.toArray⟩) wm := str_drew (H198.out.below hBx) 0
      rw [e18, e21]
      rw [if_pos (by rfl)]
      have HQ := Lib.hid (And.intro P (And.intro Q32 Q35))
      clear P Q32 Q35
      go_simp
      exact hK (upd (upd (upd gv 90 (.bool true)) 93 (.slice a19 YL c19)) 94 (.string ⟨Y.toArray⟩)) _ (by rw [upd_same e18]; rw [upd_same e21]; exact ⟨hBx, vals_step (n := 22) (v := .string ⟨Y.toArray⟩) hD (by decide) (by omega) HQ.out.1 (fun _ => rfl), fun x => HQ.out.2.1 (on_back (by omega) x (by decide)), fun x => HQ.out.2.2 (on_back (by omega) x (by decide))⟩)
    | 23, _ =>
      cases hio
      have h18 : On f 18 := he ⟨18, .guard⟩ (by simp) rfl
      have e18 : gv 90 = .bool true := P 18 (by decide) rfl h18
      have h20 : On f 20 := he ⟨20, .data⟩ (by simp) rfl
      have e20 : gv 92 = .string ⟨Y.toArray⟩ := P 20 (by decide) rfl h20
      have h22 : On f 22 := he ⟨22, .data⟩ (by simp) rfl
      have e22 : gv 94 = .string ⟨Y.toArray⟩ := P 22 (by decide) rfl h22
      rw [e18, e20, e22]
      rw [if_pos (by rfl)]
      have HQ := Lib.hid (And.intro P (And.intro Q32 Q35))
      clear P Q32 Q35
      go_simp
      exact hK (upd (upd (upd (upd gv 90 (.bool true)) 92 (.string ⟨Y.toArray⟩)) 94 (.string ⟨Y.toArray⟩)) 95 (.bool true)) _ (by rw [upd_same e18]; rw [upd_same e20]; rw [upd_same e22]; exact ⟨hBx, vals_step (n := 23) (v := .bool true) hD (by decide) (by omega) HQ.out.1 (fun _ => rfl), fun x => HQ.out.2.1 (on_back (by omega) x (by decide)), fun x => HQ.out.2.2 (on_back (by omega) x (by decide))⟩)
    | 24, _ =>
      cases hio
      have h18 : On f 18 := he ⟨18, .data⟩ (by simp) rfl
      have e18 : gv 90 = .bool true := P 18 (by decide) rfl h18
      have h23 : On f 23 := he ⟨23, .data⟩ (by simp) rfl
      have e23 : gv 95 = .bool true := P 23 (by decide) rfl h23
      rw [e18, e23]
      have HQ := Lib.hid (And.intro P (And.intro Q32 Q35))
      clear P Q32 Q35
      go_simp
      exact hK (upd (upd (upd gv 90 (.bool true)) 95 (.bool true)) 96 (.bool true)) _ (by rw [upd_same e18]; rw [upd_same e23]; exact ⟨hBx, vals_step (n := 24) (v := .bool true) hD (by decide) (by omega) HQ.out.1 (fun _ => rfl), fun x => HQ.out.2.1 (on_back (by omega) x (by decide)), fun x => HQ.out.2.2 (on_back (by omega) x (by decide))⟩)
    | 25, _ =>
      cases hio
      have h24 : On f 24 := he ⟨24, .data⟩ (by simp) rfl
      have e24 : gv 96 = .bool true := P 24 (by decide) rfl h24
      rw [e24]
      have HQ := Lib.hid (And.intro P (And.intro Q32 Q35))
      clear P Q32 Q35
      go_simp
      exact hK (upd (upd gv 96 (.bool true)) 97 (.bool true)) _ (by rw [upd_same e24]; exact ⟨hBx, vals_step (n := 25) (v := .bool true) hD (by decide) (by omega) HQ.out.1 (fun _ => rfl), fun x => HQ.out.2.1 (on_back (by omega) x (by decide)), fun x => HQ.out.2.2 (on_back (by omega) x (by decide))⟩)
    | 26, _ =>
      cases hio
      have h25 : On f 25 := he ⟨25, .guard⟩ (by simp) rfl
      have e25 : gv 97 = .bool true := P 25 (by decide) rfl h25
      rw [e25]
      rw [if_pos (by rfl)]
      have HQ := Lib.hid (And.intro P (And.intro Q32 Q35))
      clear P Q32 Q35
      go_simp
      exact hK (upd (upd gv 97 (.bool true)) 98 (.int .i64 g)) _ (by rw [upd_same e25]; exact ⟨hBx, vals_step (n := 26) (v := .int .i64 g) hD (by decide) (by omega) HQ.out.1 (fun _ => rfl), fun x => HQ.out.2.1 (on_back (by omega) x (by decide)), fun x => HQ.out.2.2 (on_back (by omega) x (by decide))⟩)
    | 27, _ =>
      cases hio
      have h25 : On f 25 := he ⟨25, .guard⟩ (by simp) rfl
      have e25 : gv 97 = .bool true := P 25 (by decide) rfl h25
      rw [e25]
      rw [if_pos (by rfl)]
      have HQ := Lib.hid (And.intro P (And.intro Q32 Q35))
      clear P Q32 Q35
      go_simp
      exact hK (upd (upd gv 97 (.bool true)) 99 (.int .i64 g)) _ (by rw [upd_same e25]; exact ⟨hBx, vals_step (n := 27) (v := .int .i64 g) hD (by decide) (by omega) HQ.out.1 (fun _ => rfl), fun x => HQ.out.2.1 (on_back (by omega) x (by decide)), fun x => HQ.out.2.2 (on_back (by omega) x (by decide))⟩)
    | 28, _ =>
      cases hio
      have h25 : On f 25 := he ⟨25, .guard⟩ (by simp) rfl
      have e25 : gv 97 = .bool true := P 25 (by decide) rfl h25
      have h26 : On f 26 := he ⟨26, .data⟩ (by simp) rfl
      have e26 : gv 98 = .int .i64 g := P 26 (by decide) rfl h26
      have h27 : On f 27 := he ⟨27, .data⟩ (by simp) rfl
      have e27 : gv 99 = .int .i64 g := P 27 (by decide) rfl h27
      rw [e25, e26, e27]
      rw [if_pos (by rfl)]
      have HQ := Lib.hid (And.intro P (And.intro Q32 Q35))
      clear P Q32 Q35
      go_simp
      exact hK (upd (upd (upd (upd gv 97 (.bool true)) 98 (.int .i64 g)) 99 (.int .i64 g)) 100 (.bool true)) _ (by rw [upd_same e25]; rw [upd_same e26]; rw [upd_same e27]; exact ⟨hBx, vals_step (n := 28) (v := .bool true) hD (by decide) (by omega) HQ.out.1 (fun _ => rfl), fun x => HQ.out.2.1 (on_back (by omega) x (by decide)), fun x => HQ.out.2.2 (on_back (by omega) x (by decide))⟩)
    | 29, _ =>
      cases hio
      have h25 : On f 25 := he ⟨25, .data⟩ (by simp) rfl
      have e25 : gv 97 = .bool true := P 25 (by decide) rfl h25
      have h28 : On f 28 := he ⟨28, .data⟩ (by simp) rfl
      have e28 : gv 100 = .bool true := P 28 (by decide) rfl h28
      rw [e25, e28]
      have HQ := Lib.hid (And.intro P (And.intro Q32 Q35))
      clear P Q32 Q35
      go_simp
      exact hK (upd (upd (upd gv 97 (.bool true)) 100 (.bool true)) 101 (.bool true)) _ (by rw [upd_same e25]; rw [upd_same e28]; exact ⟨hBx, vals_step (n := 29) (v := .bool true) hD (by decide) (by omega) HQ.out.1 (fun _ => rfl), fun x => HQ.out.2.1 (on_back (by omega) x (by decide)), fun x => HQ.out.2.2 (on_back (by omega) x (by decide))⟩)
    | 30, _ =>
      cases hio
      have h29 : On f 29 := he ⟨29, .data⟩ (by simp) rfl
      have e29 : gv 101 = .bool true := P 29 (by decide) rfl h29
      rw [e29]
      have HQ := Lib.hid (And.intro P (And.intro Q32 Q35))
      clear P Q32 Q35
      go_simp
      exact hK (upd (upd gv 101 (.bool true)) 102 (.bool true)) _ (by rw [upd_same e29]; exact ⟨hBx, vals_step (n := 30) (v := .bool true) hD (by decide) (by omega) HQ.out.1 (fun _ => rfl), fun x => HQ.out.2.1 (on_back (by omega) x (by decide)), fun x => HQ.out.2.2 (on_back (by omega) x (by decide))⟩)
    | 31, _ =>
      cases hio
      have h30 : On f 30 := he ⟨30, .guard⟩ (by simp) rfl
      have e30 : gv 102 = .bool true := P 30 (by decide) rfl h30
      rw [e30]
      rw [if_pos (by rfl)]
      have HQ := Lib.hid (And.intro P (And.intro Q32 Q35))
      clear P Q32 Q35
      go_simp
      exact hK (upd (upd gv 102 (.bool true)) 103 (.slice a n c)) _ (by rw [upd_same e30]; exact ⟨hBx, vals_step (n := 31) (v := .slice a n c) hD (by decide) (by omega) HQ.out.1 (fun _ => rfl), fun x => HQ.out.2.1 (on_back (by omega) x (by decide)), fun x => HQ.out.2.2 (on_back (by omega) x (by decide))⟩)
    | 32, _ =>
      cases hio
      have h30 : On f 30 := he ⟨30, .guard⟩ (by simp) rfl
      have e30 : gv 102 = .bool true := P 30 (by decide) rfl h30
      have h31 : On f 31 := he ⟨31, .data⟩ (by simp) rfl
      have e31 : gv 103 = .slice a n c := P 31 (by decide) rfl h31
      rw [e30, e31]
      rw [if_pos (by rfl)]
      have HQ := Lib.hid (And.intro P (And.intro Q32 Q35))
      clear P Q32 Q35
      go_simp
      refine (HM.out _ (HR.out.below (HB8.out.step hBx))).mono ?_
      rintro e w6 ⟨v6, rfl, ho, hb⟩
      obtain ⟨a9, c9, rfl, hr9⟩ := Rd.of_own ho
      exact hK (upd (upd (upd gv 102 (.bool true)) 103 (.slice a n c)) 104 (.slice a9 Z.length c9)) _ (by rw [upd_same e30]; rw [upd_same e31]; exact ⟨hBx.step hb, vals_step (n := 32) (v := .slice a9 Z.length c9) hD (by decide) (by omega) HQ.out.1 (fun h => nomatch (show true = false from h)), fun _ => ⟨a9, c9, rfl, hr9⟩, fun x => by obtain ⟨a9, c9, e9, hr9⟩ := HQ.out.2.2 (on_back (by omega) x (by decide)); exact ⟨_, _, e9, hr9.below hb⟩⟩)
    | 33, _ =>
      cases hio
      have h30 : On f 30 := he ⟨30, .guard⟩ (by simp) rfl
      have e30 : gv 102 = .bool true := P 30 (by decide) rfl h30
      have h32 : On f 32 := he ⟨32, .data⟩ (by simp) rfl
      obtain ⟨a9, c9, e32, hr9⟩ := Q32 h32
      have hs : (convert 22 9 (.slice a9 Z.length c9)).run Try.prog wm = .ok (.string ⟨Z.toArray⟩) wm := str_drew (hr9) 0
      rw [e30, e32]
      rw [if_pos (by rfl)]
      have HQ := Lib.hid (And.intro P (And.intro Q32 Q35))
      clear P Q32 Q35
      go_simp
      exact hK (upd (upd (upd gv 102 (.bool true)) 104 (.slice a9 Z.length c9)) 105 (.string ⟨Z.toArray⟩)) _ (by rw [upd_same e30]; rw [upd_same e32]; exact ⟨hBx, vals_step (n := 33) (v := .string ⟨Z.toArray⟩) hD (by decide) (by omega) HQ.out.1 (fun _ => rfl), fun x => HQ.out.2.1 (on_back (by omega) x (by decide)), fun x => HQ.out.2.2 (on_back (by omega) x (by decide))⟩)
    | 34, _ =>
      cases hio
      have h30 : On f 30 := he ⟨30, .guard⟩ (by simp) rfl
      have e30 : gv 102 = .bool true := P 30 (by decide) rfl h30
      rw [e30]
      rw [if_pos (by rfl)]
      have HQ := Lib.hid (And.intro P (And.intro Q32 Q35))
      clear P Q32 Q35
      go_simp
      exact hK (upd (upd gv 102 (.bool true)) 106 (.slice a n c)) _ (by rw [upd_same e30]; exact ⟨hBx, vals_step (n := 34) (v := .slice a n c) hD (by decide) (by omega) HQ.out.1 (fun _ => rfl), fun x => HQ.out.2.1 (on_back (by omega) x (by decide)), fun x => HQ.out.2.2 (on_back (by omega) x (by decide))⟩)
    | 35, _ =>
      cases hio
      have h30 : On f 30 := he ⟨30, .guard⟩ (by simp) rfl
      have e30 : gv 102 = .bool true := P 30 (by decide) rfl h30
      have h34 : On f 34 := he ⟨34, .data⟩ (by simp) rfl
      have e34 : gv 106 = .slice a n c := P 34 (by decide) rfl h34
      rw [e30, e34]
      rw [if_pos (by rfl)]
      have HQ := Lib.hid (And.intro P (And.intro Q32 Q35))
      clear P Q32 Q35
      go_simp
      refine (HN.out _ (HR.out.below (HB8.out.step hBx))).mono ?_
      rintro e w6 ⟨v6, rfl, ho, hb⟩
      obtain ⟨a9, c9, rfl, hr9⟩ := Rd.of_own ho
      exact hK (upd (upd (upd gv 102 (.bool true)) 106 (.slice a n c)) 107 (.slice a9 Z.length c9)) _ (by rw [upd_same e30]; rw [upd_same e34]; exact ⟨hBx.step hb, vals_step (n := 35) (v := .slice a9 Z.length c9) hD (by decide) (by omega) HQ.out.1 (fun h => nomatch (show true = false from h)), fun x => by obtain ⟨a9, c9, e9, hr9⟩ := HQ.out.2.1 (on_back (by omega) x (by decide)); exact ⟨_, _, e9, hr9.below hb⟩, fun _ => ⟨a9, c9, rfl, hr9⟩⟩)
    | 36, _ =>
      cases hio
      have h30 : On f 30 := he ⟨30, .guard⟩ (by simp) rfl
      have e30 : gv 102 = .bool true := P 30 (by decide) rfl h30
      have h35 : On f 35 := he ⟨35, .data⟩ (by simp) rfl
      obtain ⟨a9, c9, e35, hr9⟩ := Q35 h35
      have hs : (convert 22 9 (.slice a9 Z.length c9)).run Try.prog wm = .ok (.string ⟨Z.toArray⟩) wm := str_drew (hr9) 0
      rw [e30, e35]
      rw [if_pos (by rfl)]
      have HQ := Lib.hid (And.intro P (And.intro Q32 Q35))
      clear P Q32 Q35
      go_simp
      exact hK (upd (upd (upd gv 102 (.bool true)) 107 (.slice a9 Z.length c9)) 108 (.string ⟨Z.toArray⟩)) _ (by rw [upd_same e30]; rw [upd_same e35]; exact ⟨hBx, vals_step (n := 36) (v := .string ⟨Z.toArray⟩) hD (by decide) (by omega) HQ.out.1 (fun _ => rfl), fun x => HQ.out.2.1 (on_back (by omega) x (by decide)), fun x => HQ.out.2.2 (on_back (by omega) x (by decide))⟩)
    | 37, _ =>
      cases hio
      have h30 : On f 30 := he ⟨30, .guard⟩ (by simp) rfl
      have e30 : gv 102 = .bool true := P 30 (by decide) rfl h30
      have h33 : On f 33 := he ⟨33, .data⟩ (by simp) rfl
      have e33 : gv 105 = .string ⟨Z.toArray⟩ := P 33 (by decide) rfl h33
      have h36 : On f 36 := he ⟨36, .data⟩ (by simp) rfl
      have e36 : gv 108 = .string ⟨Z.toArray⟩ := P 36 (by decide) rfl h36
      rw [e30, e33, e36]
      rw [if_pos (by rfl)]
      have HQ := Lib.hid (And.intro P (And.intro Q32 Q35))
      clear P Q32 Q35
      go_simp
      exact hK (upd (upd (upd (upd gv 102 (.bool true)) 105 (.string ⟨Z.toArray⟩)) 108 (.string ⟨Z.toArray⟩)) 109 (.bool true)) _ (by rw [upd_same e30]; rw [upd_same e33]; rw [upd_same e36]; exact ⟨hBx, vals_step (n := 37) (v := .bool true) hD (by decide) (by omega) HQ.out.1 (fun _ => rfl), fun x => HQ.out.2.1 (on_back (by omega) x (by decide)), fun x => HQ.out.2.2 (on_back (by omega) x (by decide))⟩)
    | 38, _ =>
      cases hio
      have h30 : On f 30 := he ⟨30, .data⟩ (by simp) rfl
      have e30 : gv 102 = .bool true := P 30 (by decide) rfl h30
      have h37 : On f 37 := he ⟨37, .data⟩ (by simp) rfl
      have e37 : gv 109 = .bool true := P 37 (by decide) rfl h37
      rw [e30, e37]
      have HQ := Lib.hid (And.intro P (And.intro Q32 Q35))
      clear P Q32 Q35
      go_simp
      exact hK (upd (upd (upd gv 102 (.bool true)) 109 (.bool true)) 110 (.bool true)) _ (by rw [upd_same e30]; rw [upd_same e37]; exact ⟨hBx, vals_step (n := 38) (v := .bool true) hD (by decide) (by omega) HQ.out.1 (fun _ => rfl), fun x => HQ.out.2.1 (on_back (by omega) x (by decide)), fun x => HQ.out.2.2 (on_back (by omega) x (by decide))⟩)
    | 39, _ =>
      cases hio
      have h38 : On f 38 := he ⟨38, .data⟩ (by simp) rfl
      have e38 : gv 110 = .bool true := P 38 (by decide) rfl h38
      rw [e38]
      have HQ := Lib.hid (And.intro P (And.intro Q32 Q35))
      clear P Q32 Q35
      go_simp
      exact hK (upd (upd gv 110 (.bool true)) 6 (.bool true)) _ (by rw [upd_same e38]; exact ⟨hBx, vals_step (n := 39) (v := .bool true) hD (by decide) (by omega) HQ.out.1 (fun _ => rfl), fun x => HQ.out.2.1 (on_back (by omega) x (by decide)), fun x => HQ.out.2.2 (on_back (by omega) x (by decide))⟩)
  · rintro f gv w5 hall hs' ⟨hBx, P, Q32, Q35⟩
    replace hs' : f.size = 40 := hs'
    have on : ∀ j, j < 40 → On f j := fun j hj => on_all hall hs' j hj
    have e6 : gv 6 = .bool true := P 39 (by decide) rfl (on 39 (by decide))
    have BX := Lib.hid hBx
    clear P Q32 Q35 hBx hall hs' on
    rw [e6]
    go_wp2_with fail
    go_ret
    exact ⟨rfl, HB8.out.step BX.out⟩
end Go.Proofs.Ytipaldfellfkdaa
