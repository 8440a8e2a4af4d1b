/- The chapter's example of the layer commit. -/
import Derived.Test.YtdefdccbcnpodaaCmGet
import Derived.Test.YtdefdccbcnpodaaCmHash
namespace Go.Proofs.Ytdefdccbcnpodaa
open Go.ChangeShapes Go.WideShapes Go.ChangeAt Go.RowKit
set_option linter.unusedVariables false
set_option linter.unusedSimpArgs false

theorem some_may : mayC someC = true := by decide +kernel
theorem some_put : putC someC = [0, 1, 1, 0, 0, 1, 97, 2] := by decide +kernel
theorem some_merge : mergeC someC = false := by decide +kernel
theorem some_get : getC ([0, 1, 1, 0, 0, 1, 97, 2] ++ [9]) = some (someC, [9]) := by
  rw [← some_put]
  exact getC_put someC some_may (fun x hx => by simp [someC] at hx) [9]
theorem some_cmr (w : World) {a : Option Addr} {c : Nat} (h : Ids w a 0 c []) : CmR w someC a c := ⟨h, by decide, by decide⟩

set_option maxRecDepth 100000 in
set_option maxHeartbeats 8000000 in
theorem awake10 (w : World) : Calls Try.prog 9 #[] w fun e w' => e = .returned (.bool true) ∧ Below w.heap.size w w' := by
  have HSO := Lib.hid (fun w' => show Calls Try.prog 23 #[] w' (fun e w'' => e = .returned (.agg #[.int .i64 0, .int .i64 1, .int .i64 1, .slice none 0 0, .int .i64 0, .string ⟨#[97]⟩, .string ⟨#[]⟩, .int .i64 1]) ∧ Below w'.heap.size w' w'') from some_any w')
  have HPU := Lib.hid (fun w' => show Calls Try.prog 11 #[.agg #[.int .i64 0, .int .i64 1, .int .i64 1, .slice none 0 0, .int .i64 0, .string ⟨#[97]⟩, .string ⟨#[]⟩, .int .i64 1]] w' (fun e w'' => ∃ a cap, e = .returned (.tuple #[.slice a 8 cap, .int .i64 0]) ∧ Rd w'' a 8 cap [0, 1, 1, 0, 0, 1, 97, 2] ∧ (a = none → cap = 0) ∧ Below w'.heap.size w' w'') by
    have h := cput_any someC none 0 w' (some_cmr w' (Ids.nil w'))
    unfold CPutP at h
    simp only [if_pos some_may, some_put] at h
    exact h)
  have HGE := Lib.hid (fun w' a c (h : Rd w' a 9 c ([0, 1, 1, 0, 0, 1, 97, 2] ++ [9])) (hz : a = none → c = 0) => show Calls Try.prog 21 #[.slice a 9 c] w' (fun e w'' => ∃ a cap a' cap', e = .returned (.tuple #[.agg #[.int .i64 0, .int .i64 1, .int .i64 1, .slice a 0 cap, .int .i64 0, .string ⟨#[97]⟩, .string ⟨#[]⟩, .int .i64 1], .slice a' 1 cap', .int .i64 0]) ∧ Ids w'' a 0 cap [] ∧ Rd w'' a' 1 cap' [9] ∧ (a' = none → cap' = 0) ∧ Below w'.heap.size w' w'') by
    have h2 := cget_any a 9 c _ w' h hz (by decide)
    unfold CGetP at h2
    rw [some_get] at h2
    refine h2.mono fun e w'' ⟨a, cap, a', cap', h3, h4, h5, h6, h7⟩ => ⟨a, cap, a', cap', h3, h4.ids, h5, h6, h7⟩)
  obtain ⟨Y, hY⟩ : ∃ Y, Y = hashL [0, 1, 1, 0, 0, 1, 97, 2] := ⟨_, rfl⟩
  have HY := Lib.hid (show Y.length = 32 by rw [hY]; exact hashL_length _)
  have HHA := Lib.hid (fun w' => show Calls Try.prog 13 #[.agg #[.int .i64 0, .int .i64 1, .int .i64 1, .slice none 0 0, .int .i64 0, .string ⟨#[97]⟩, .string ⟨#[]⟩, .int .i64 1]] w' (fun e w'' => e = .returned (.tuple #[.agg (Bs Y).toArray, .int .i64 0]) ∧ Below w'.heap.size w' w'') by
    have h := chash_any someC none 0 w' (some_cmr w' (Ids.nil w')) (fun x hx => by simp [someC] at hx)
    unfold CHashP at h
    simp only [if_pos some_may, some_put] at h
    rw [hY]
    exact h)
  have HSUM := Lib.hid (fun w' a c (h : Rd w' a 8 c [0, 1, 1, 0, 0, 1, 97, 2]) => show Calls Try.prog 24 #[.slice a 8 c] w' (fun e w'' => e = .returned (.agg (Bs Y).toArray) ∧ Below w'.heap.size w' w'') by
    have h2 := sum_any a 8 c _ w' h (by decide)
    rw [idV_arr, ← hY] at h2
    exact h2)
  have HSA := Lib.hid (fun w' a c (h : Ids w' a 0 c []) => show Calls Try.prog 20 #[.agg #[.int .i64 0, .int .i64 1, .int .i64 1, .slice a 0 c, .int .i64 0, .string ⟨#[97]⟩, .string ⟨#[]⟩, .int .i64 1], .agg #[.int .i64 0, .int .i64 1, .int .i64 1, .slice none 0 0, .int .i64 0, .string ⟨#[97]⟩, .string ⟨#[]⟩, .int .i64 1]] w' (fun e w'' => e = .returned (.bool true) ∧ Below w'.heap.size w' w'') by
    have h2 := csame_any someC someC a none c 0 w' (some_cmr w' h) (some_cmr w' (Ids.nil w'))
    rw [decide_eq_true rfl] at h2
    exact h2)
  have HMA := Lib.hid (fun w' a c (h : Ids w' a 0 c []) => show Calls Try.prog 18 #[.agg #[.int .i64 0, .int .i64 1, .int .i64 1, .slice a 0 c, .int .i64 0, .string ⟨#[97]⟩, .string ⟨#[]⟩, .int .i64 1]] w' (fun e w'' => e = .returned (.bool true) ∧ Below w'.heap.size w' w'') by
    have h2 := cmay_any someC a c w' (some_cmr w' h)
    rw [some_may] at h2
    exact h2)
  have HME := Lib.hid (fun w' a c (h : Ids w' a 0 c []) => show Calls Try.prog 19 #[.agg #[.int .i64 0, .int .i64 1, .int .i64 1, .slice a 0 c, .int .i64 0, .string ⟨#[97]⟩, .string ⟨#[]⟩, .int .i64 1]] w' (fun e w'' => e = .returned (.bool false) ∧ Below w'.heap.size w' w'') by
    have h2 := cmerge_any someC a c w' (some_cmr w' h)
    rw [some_merge] at h2
    exact h2)
  clear hY
  go_enter Try.func9, Try.ntmps9
  go_wp2_with fail
  refine (HSO.out _).mono ?_
  rintro e w1 ⟨rfl, hb1⟩
  have HB1 := Lib.hid hb1
  clear hb1
  go_wp2_with fail
  refine (HPU.out _).mono ?_
  rintro e w2 ⟨a2, c2, rfl, hr2, hz2, hb2⟩
  have HB2 := Lib.hid (HB1.out.step hb2)
  clear hb2
  obtain ⟨i0, hi0, hy0, hy1, hy2⟩ := info_parts info_u8
  obtain ⟨v3, w3, hrun1, hown1, hg1⟩ := run_app (P := Try.prog) (ty := 31) Try.underlying31 hi0 hy0 hy1 hy2 rfl (World.ownsRow_nil w2 w2.heap.size 5 1) hr2 hz2 (by decide) (Nat.le_refl _)
  have hb23 : Below w2.heap.size w2 w3 := (Below.refl _ w2).grown hg1 (Nat.le_refl _) (fun k hk => by cases hk)
  obtain ⟨w4, hw4⟩ : ∃ w4, w4 = w3.alloc (.cells (Bs [9]).toArray 5) := ⟨_, rfl⟩
  have hb34 : Below w3.heap.size w3 w4 := by rw [hw4]; exact (Below.refl _ _).alloc (Nat.le_refl _) _
  have hc4 : Cel w4 w3.heap.size 5 (Bs [9]) := by rw [hw4]; exact Cel.new w3 _ _
  obtain ⟨v5, w5, hrun2, hown2, hg2⟩ := run_app (P := Try.prog) (ty := 31) Try.underlying31 hi0 hy0 hy1 hy2 rfl (ownsRow_below hown1 hb34) (hc4.rd (by decide)) (fun h => by cases h) (by decide) (Nat.le_trans hb23.size hb34.size)
  rw [hw4] at hrun2
  have HRUN1 := Lib.hid hrun1
  have HRUN2 := Lib.hid (show (Builtin.append_ #[31, 31] 31 #[v3, .slice (some ⟨w3.heap.size, 0, none⟩) 1 1]).run Try.prog (w3.alloc (.cells #[.int .u8 9] 5)) = .ok v5 w5 from hrun2)
  have HB5 := Lib.hid (HB2.out.step (below_own (hb23.step hb34) (ownsRow_below hown1 hb34) hg2 (Nat.le_trans hb23.size hb34.size)))
  have hown5 : w5.ownsRow w2.heap.size 5 1 v5 9 ((([0, 1, 1, 0, 0, 1, 97, 2] : List UInt8) ++ [9]).map B) := by simpa using hown2
  have HR2 := Lib.hid (And.intro (hr2.below (below_own (hb23.step hb34) (ownsRow_below hown1 hb34) hg2 (Nat.le_trans hb23.size hb34.size))) hz2)
  obtain ⟨a5, c5, rfl, hr5⟩ := Rd.of_own hown5
  have HR5 := Lib.hid (And.intro hr5 (own_none hown5))
  clear hrun1 hown1 hg1 hb23 hw4 hb34 hc4 hrun2 hown2 hg2 hown5 hr5 hr2 hz2 hi0 hy0 hy1 hy2
  go_wp2_with (first | (at_builtin; refine Lib.wpList_append_run _ rfl _ _ _ _ rfl _ _ rfl rfl _ _ HRUN1.out ?_) | (at_builtin; refine Lib.wpList_append_run _ rfl _ _ _ _ rfl _ _ rfl rfl _ _ HRUN2.out ?_))
  refine (HGE.out _ _ _ HR5.out.1 HR5.out.2).mono ?_
  rintro e w6 ⟨a6, c6, a7, c7, rfl, hi6, hr7, hz7, hb⟩
  have HB6 := Lib.hid (HB5.out.step hb)
  have HR26 := Lib.hid (HR2.out.1.below hb)
  have HI6 := Lib.hid hi6
  clear hb hi6 hr7 hz7
  go_upto_region 3 with fail
  obtain ⟨b7, hb7⟩ : ∃ b, b = w6.heap.size := ⟨_, rfl⟩
  have hC0 := Cel.new w6 28 [.int .i64 0, .int .i64 1, .int .i64 1, .slice a6 0 c6, .int .i64 0, .string ⟨#[97]⟩, .string ⟨#[]⟩, .int .i64 1]
  rw [← hb7] at hC0 ⊢
  generalize hw7 : w6.alloc (.cells _ _) = w7
  have HC7 := Lib.hid (show Cel w7 b7 28 [.int .i64 0, .int .i64 1, .int .i64 1, .slice a6 0 c6, .int .i64 0, .string ⟨#[97]⟩, .string ⟨#[]⟩, .int .i64 1] by rw [← hw7]; exact hC0)
  have hb67 : Below w6.heap.size w6 w7 := by rw [← hw7]; exact (Below.refl _ _).alloc (Nat.le_refl _) _
  have HB7 := Lib.hid (HB6.out.step hb67)
  have HR27 := Lib.hid (HR26.out.below hb67)
  have HI7 := Lib.hid (HI6.out.below hb67)
  clear hC0 hw7 hb67 hb7
  go_wp2_with fail
  refine (HSO.out _).mono ?_
  rintro e w8 ⟨rfl, hb78⟩
  go_wp2_with fail
  refine (HHA.out _).mono ?_
  rintro e w9 ⟨rfl, hb89⟩
  have HB9 := Lib.hid ((HB7.out.step hb78).step hb89)
  have HR29 := Lib.hid ((HR27.out.below hb78).below hb89)
  have HI9 := Lib.hid ((HI7.out.below hb78).below hb89)
  have HC9 := Lib.hid ((HC7.out.step hb78).step hb89)
  clear hb78 hb89
  rename_i K9 hK9
  refine hK9 _ _ ?_
  clear hK9 K9
  iterate 8 go_step
  rename_i K9 hK9
  refine hK9 _ _ ?_
  clear hK9 K9
  refine wpList_new_store rfl rfl 36 6 (.tmp 25) rfl rfl rfl rfl (Bs zero32) (Bs Y) (by kernel_rfl) (by simp) rfl (by rw [Bs_length, Bs_length, zero32_length, HY.out]) (info_x HY.out) (Bs_one Y) ?_
  intro w10 hd10 hb
  obtain ⟨b10, hbb⟩ : ∃ b, b = w9.heap.size := ⟨_, rfl⟩
  rw [← hbb] at hd10 ⊢
  have HB10 := Lib.hid (HB9.out.step hb)
  have HR10 := Lib.hid (HR29.out.below hb)
  have HI10 := Lib.hid (HI9.out.below hb)
  have HC10 := Lib.hid (HC9.out.step hb)
  have HD10 := Lib.hid hd10
  clear hd10 hb hbb
  go_upto_region 4 with fail
  have hD : ∀ j, j < 41 → ∀ n, n < 41 → j ≠ n → dkN [27, 28, 29, 30, 31, 32, 33, 34, 35, 36, 37, 38, 39, 40, 41, 42, 43, 44, 45, 46, 47, 48, 49, 50, 51, 52, 53, 54, 55, 56, 57, 58, 59, 60, 61, 62, 63, 64, 65, 66, 0] j ≠ dkN [27, 28, 29, 30, 31, 32, 33, 34, 35, 36, 37, 38, 39, 40, 41, 42, 43, 44, 45, 46, 47, 48, 49, 50, 51, 52, 53, 54, 55, 56, 57, 58, 59, 60, 61, 62, 63, 64, 65, 66, 0] n := by decide +kernel
  refine region_fun (by kernel_rfl) (by kernel_rfl) (fun gv => #[gv 0, .slice a2 8 c2, .int .i64 0, .pointer (some ⟨b7, 0, none⟩), .slice a7 1 c7, .int .i64 0, .pointer (some ⟨b10, 0, none⟩), .int .i64 0, gv 8, gv 9, gv 10, gv 11, gv 12, gv 13, gv 14, gv 15, gv 16, gv 17, gv 18, gv 19, gv 20, gv 21, gv 22, gv 23, gv 24, gv 25, gv 26, gv 27, gv 28, gv 29, gv 30, gv 31, gv 32, gv 33, gv 34, gv 35, gv 36, gv 37, gv 38, gv 39, gv 40, gv 41, gv 42, gv 43, gv 44, gv 45, gv 46, gv 47, gv 48, gv 49, gv 50, gv 51, gv 52, gv 53, gv 54, gv 55, gv 56, gv 57, gv 58, gv 59, gv 60, gv 61, gv 62, gv 63, gv 64, gv 65, gv 66]) rfl (fun f gv wx => Below w10.heap.size w10 wx ∧ (∀ j, j < 41 → (fun j => false) j = false → On f j → gv (dkN [27, 28, 29, 30, 31, 32, 33, 34, 35, 36, 37, 38, 39, 40, 41, 42, 43, 44, 45, 46, 47, 48, 49, 50, 51, 52, 53, 54, 55, 56, 57, 58, 59, 60, 61, 62, 63, 64, 65, 66, 0] j) = vkN [.int .i64 0, .bool true, .bool true, .int .i64 0, .bool true, .bool true, .bool true, .int .i64 0, .bool true, .bool true, .bool true, .slice a2 8 c2, .string ⟨([0, 1, 1, 0, 0, 1, 97, 2] : List UInt8).toArray⟩, .bool true, .bool true, .bool true, .agg #[.int .i64 0, .int .i64 1, .int .i64 1, .slice a6 0 c6, .int .i64 0, .string ⟨#[97]⟩, .string ⟨#[]⟩, .int .i64 1], .agg #[.int .i64 0, .int .i64 1, .int .i64 1, .slice none 0 0, .int .i64 0, .string ⟨#[97]⟩, .string ⟨#[]⟩, .int .i64 1], .bool true, .bool true, .bool true, .slice a7 1 c7, .int .i64 1, .bool true, .bool true, .bool true, .agg (Bs Y).toArray, .slice a2 8 c2, .agg (Bs Y).toArray, .bool true, .bool true, .bool true, .agg #[.int .i64 0, .int .i64 1, .int .i64 1, .slice a6 0 c6, .int .i64 0, .string ⟨#[97]⟩, .string ⟨#[]⟩, .int .i64 1], .bool true, .bool true, .bool true, .agg #[.int .i64 0, .int .i64 1, .int .i64 1, .slice a6 0 c6, .int .i64 0, .string ⟨#[97]⟩, .string ⟨#[]⟩, .int .i64 1], .bool false, .bool true, .bool true, .bool true] j) ∧ (Rd wx a2 8 c2 [0, 1, 1, 0, 0, 1, 97, 2]) ∧ (Ids wx a6 0 c6 []) ∧ (Cel wx b7 28 [.int .i64 0, .int .i64 1, .int .i64 1, .slice a6 0 c6, .int .i64 0, .string ⟨#[97]⟩, .string ⟨#[]⟩, .int .i64 1]) ∧ (Cel wx b10 36 (Bs Y))) ?_ ?_ ?_
  · have hoff : ∀ j, ¬ On (Array.replicate 41 false) j := by
      intro j hj; simp only [On, Array.getD_eq_getD_getElem?, Array.getElem?_replicate] at hj; split at hj <;> simp at hj
    exact ⟨(Below.refl _ _).drew, fun j _ _ x => absurd x (hoff _), HR10.out.below (below_drewNw _ _), HI10.out.below (below_drewNw _ _), HC10.out.step (below_drewNw _ _), HD10.out.step (below_drewNw _ _)⟩
  · rintro i' o' f gv wm hio hs' hn he ⟨hBx, P, HR, HI, HC, HD⟩ KK hKK
    have hi' : i' < 41 := (Array.getElem?_eq_some_iff.1 hio).1
    replace hs' : f.size = 41 := hs'
    match i', hi' with
    | 0, _ =>
      cases hio
      have off : ¬ On f 0 := on_off (by omega) hn
      have HQ := Lib.hid (And.intro P (And.intro HR (And.intro HI (And.intro HC HD))))
      clear P HR HI HC HD
      go_simp
      obtain ⟨P, HR, HI, HC, HD⟩ := HQ.out
      have bk : ∀ j, j ≠ 0 → On (f.setIfInBounds 0 true) j → On f j := fun j hj x => on_back (by omega) x hj
      have fw : ∀ j, On f j → On (f.setIfInBounds 0 true) j := fun j x => (on_put (by omega)).2 (.inr x)
      have fn : On (f.setIfInBounds 0 true) 0 := (on_put (by omega)).2 (.inl rfl)
      exact hKK (upd gv 27 (.int .i64 0)) _ (by exact ⟨hBx, vals_step (n := 0) (v := .int .i64 0) hD (by decide) (by omega) P (fun _ => rfl), HR, HI, HC, HD⟩)
    | 1, _ =>
      cases hio
      have off : ¬ On f 1 := on_off (by omega) hn
      have h0 : On f 0 := he ⟨0, .data⟩ (by simp) rfl
      have e0 : gv 27 = .int .i64 0 := P 0 (by decide) rfl h0
      rw [e0]
      have HQ := Lib.hid (And.intro P (And.intro HR (And.intro HI (And.intro HC HD))))
      clear P HR HI HC HD
      go_simp
      obtain ⟨P, HR, HI, HC, HD⟩ := HQ.out
      have bk : ∀ j, j ≠ 1 → On (f.setIfInBounds 1 true) j → On f j := fun j hj x => on_back (by omega) x hj
      have fw : ∀ j, On f j → On (f.setIfInBounds 1 true) j := fun j x => (on_put (by omega)).2 (.inr x)
      have fn : On (f.setIfInBounds 1 true) 1 := (on_put (by omega)).2 (.inl rfl)
      exact hKK (upd (upd gv 27 (.int .i64 0)) 28 (.bool true)) _ (by rw [upd_same e0]; exact ⟨hBx, vals_step (n := 1) (v := .bool true) hD (by decide) (by omega) P (fun _ => rfl), HR, HI, HC, HD⟩)
    | 2, _ =>
      cases hio
      have off : ¬ On f 2 := on_off (by omega) hn
      have h1 : On f 1 := he ⟨1, .data⟩ (by simp) rfl
      have e1 : gv 28 = .bool true := P 1 (by decide) rfl h1
      rw [e1]
      have HQ := Lib.hid (And.intro P (And.intro HR (And.intro HI (And.intro HC HD))))
      clear P HR HI HC HD
      go_simp
      obtain ⟨P, HR, HI, HC, HD⟩ := HQ.out
      have bk : ∀ j, j ≠ 2 → On (f.setIfInBounds 2 true) j → On f j := fun j hj x => on_back (by omega) x hj
      have fw : ∀ j, On f j → On (f.setIfInBounds 2 true) j := fun j x => (on_put (by omega)).2 (.inr x)
      have fn : On (f.setIfInBounds 2 true) 2 := (on_put (by omega)).2 (.inl rfl)
      exact hKK (upd (upd gv 28 (.bool true)) 29 (.bool true)) _ (by rw [upd_same e1]; exact ⟨hBx, vals_step (n := 2) (v := .bool true) hD (by decide) (by omega) P (fun _ => rfl), HR, HI, HC, HD⟩)
    | 3, _ =>
      cases hio
      have off : ¬ On f 3 := on_off (by omega) hn
      have h2 : On f 2 := he ⟨2, .guard⟩ (by simp) rfl
      have e2 : gv 29 = .bool true := P 2 (by decide) rfl h2
      rw [e2]
      rw [if_pos (by rfl)]
      have HQ := Lib.hid (And.intro P (And.intro HR (And.intro HI (And.intro HC HD))))
      clear P HR HI HC HD
      go_simp
      obtain ⟨P, HR, HI, HC, HD⟩ := HQ.out
      have bk : ∀ j, j ≠ 3 → On (f.setIfInBounds 3 true) j → On f j := fun j hj x => on_back (by omega) x hj
      have fw : ∀ j, On f j → On (f.setIfInBounds 3 true) j := fun j x => (on_put (by omega)).2 (.inr x)
      have fn : On (f.setIfInBounds 3 true) 3 := (on_put (by omega)).2 (.inl rfl)
      exact hKK (upd (upd gv 29 (.bool true)) 30 (.int .i64 0)) _ (by rw [upd_same e2]; exact ⟨hBx, vals_step (n := 3) (v := .int .i64 0) hD (by decide) (by omega) P (fun _ => rfl), HR, HI, HC, HD⟩)
    | 4, _ =>
      cases hio
      have off : ¬ On f 4 := on_off (by omega) hn
      have h2 : On f 2 := he ⟨2, .guard⟩ (by simp) rfl
      have e2 : gv 29 = .bool true := P 2 (by decide) rfl h2
      have h3 : On f 3 := he ⟨3, .data⟩ (by simp) rfl
      have e3 : gv 30 = .int .i64 0 := P 3 (by decide) rfl h3
      rw [e2, e3]
      rw [if_pos (by rfl)]
      have HQ := Lib.hid (And.intro P (And.intro HR (And.intro HI (And.intro HC HD))))
      clear P HR HI HC HD
      go_simp
      obtain ⟨P, HR, HI, HC, HD⟩ := HQ.out
      have bk : ∀ j, j ≠ 4 → On (f.setIfInBounds 4 true) j → On f j := fun j hj x => on_back (by omega) x hj
      have fw : ∀ j, On f j → On (f.setIfInBounds 4 true) j := fun j x => (on_put (by omega)).2 (.inr x)
      have fn : On (f.setIfInBounds 4 true) 4 := (on_put (by omega)).2 (.inl rfl)
      exact hKK (upd (upd (upd gv 29 (.bool true)) 30 (.int .i64 0)) 31 (.bool true)) _ (by rw [upd_same e2]; rw [upd_same e3]; exact ⟨hBx, vals_step (n := 4) (v := .bool true) hD (by decide) (by omega) P (fun _ => rfl), HR, HI, HC, HD⟩)
    | 5, _ =>
      cases hio
      have off : ¬ On f 5 := on_off (by omega) hn
      have h2 : On f 2 := he ⟨2, .data⟩ (by simp) rfl
      have e2 : gv 29 = .bool true := P 2 (by decide) rfl h2
      have h4 : On f 4 := he ⟨4, .data⟩ (by simp) rfl
      have e4 : gv 31 = .bool true := P 4 (by decide) rfl h4
      rw [e2, e4]
      have HQ := Lib.hid (And.intro P (And.intro HR (And.intro HI (And.intro HC HD))))
      clear P HR HI HC HD
      go_simp
      obtain ⟨P, HR, HI, HC, HD⟩ := HQ.out
      have bk : ∀ j, j ≠ 5 → On (f.setIfInBounds 5 true) j → On f j := fun j hj x => on_back (by omega) x hj
      have fw : ∀ j, On f j → On (f.setIfInBounds 5 true) j := fun j x => (on_put (by omega)).2 (.inr x)
      have fn : On (f.setIfInBounds 5 true) 5 := (on_put (by omega)).2 (.inl rfl)
      exact hKK (upd (upd (upd gv 29 (.bool true)) 31 (.bool true)) 32 (.bool true)) _ (by rw [upd_same e2]; rw [upd_same e4]; exact ⟨hBx, vals_step (n := 5) (v := .bool true) hD (by decide) (by omega) P (fun _ => rfl), HR, HI, HC, HD⟩)
    | 6, _ =>
      cases hio
      have off : ¬ On f 6 := on_off (by omega) hn
      have h5 : On f 5 := he ⟨5, .data⟩ (by simp) rfl
      have e5 : gv 32 = .bool true := P 5 (by decide) rfl h5
      rw [e5]
      have HQ := Lib.hid (And.intro P (And.intro HR (And.intro HI (And.intro HC HD))))
      clear P HR HI HC HD
      go_simp
      obtain ⟨P, HR, HI, HC, HD⟩ := HQ.out
      have bk : ∀ j, j ≠ 6 → On (f.setIfInBounds 6 true) j → On f j := fun j hj x => on_back (by omega) x hj
      have fw : ∀ j, On f j → On (f.setIfInBounds 6 true) j := fun j x => (on_put (by omega)).2 (.inr x)
      have fn : On (f.setIfInBounds 6 true) 6 := (on_put (by omega)).2 (.inl rfl)
      exact hKK (upd (upd gv 32 (.bool true)) 33 (.bool true)) _ (by rw [upd_same e5]; exact ⟨hBx, vals_step (n := 6) (v := .bool true) hD (by decide) (by omega) P (fun _ => rfl), HR, HI, HC, HD⟩)
    | 7, _ =>
      cases hio
      have off : ¬ On f 7 := on_off (by omega) hn
      have h6 : On f 6 := he ⟨6, .guard⟩ (by simp) rfl
      have e6 : gv 33 = .bool true := P 6 (by decide) rfl h6
      rw [e6]
      rw [if_pos (by rfl)]
      have HQ := Lib.hid (And.intro P (And.intro HR (And.intro HI (And.intro HC HD))))
      clear P HR HI HC HD
      go_simp
      obtain ⟨P, HR, HI, HC, HD⟩ := HQ.out
      have bk : ∀ j, j ≠ 7 → On (f.setIfInBounds 7 true) j → On f j := fun j hj x => on_back (by omega) x hj
      have fw : ∀ j, On f j → On (f.setIfInBounds 7 true) j := fun j x => (on_put (by omega)).2 (.inr x)
      have fn : On (f.setIfInBounds 7 true) 7 := (on_put (by omega)).2 (.inl rfl)
      exact hKK (upd (upd gv 33 (.bool true)) 34 (.int .i64 0)) _ (by rw [upd_same e6]; exact ⟨hBx, vals_step (n := 7) (v := .int .i64 0) hD (by decide) (by omega) P (fun _ => rfl), HR, HI, HC, HD⟩)
    | 8, _ =>
      cases hio
      have off : ¬ On f 8 := on_off (by omega) hn
      have h6 : On f 6 := he ⟨6, .guard⟩ (by simp) rfl
      have e6 : gv 33 = .bool true := P 6 (by decide) rfl h6
      have h7 : On f 7 := he ⟨7, .data⟩ (by simp) rfl
      have e7 : gv 34 = .int .i64 0 := P 7 (by decide) rfl h7
      rw [e6, e7]
      rw [if_pos (by rfl)]
      have HQ := Lib.hid (And.intro P (And.intro HR (And.intro HI (And.intro HC HD))))
      clear P HR HI HC HD
      go_simp
      obtain ⟨P, HR, HI, HC, HD⟩ := HQ.out
      have bk : ∀ j, j ≠ 8 → On (f.setIfInBounds 8 true) j → On f j := fun j hj x => on_back (by omega) x hj
      have fw : ∀ j, On f j → On (f.setIfInBounds 8 true) j := fun j x => (on_put (by omega)).2 (.inr x)
      have fn : On (f.setIfInBounds 8 true) 8 := (on_put (by omega)).2 (.inl rfl)
      exact hKK (upd (upd (upd gv 33 (.bool true)) 34 (.int .i64 0)) 35 (.bool true)) _ (by rw [upd_same e6]; rw [upd_same e7]; exact ⟨hBx, vals_step (n := 8) (v := .bool true) hD (by decide) (by omega) P (fun _ => rfl), HR, HI, HC, HD⟩)
    | 9, _ =>
      cases hio
      have off : ¬ On f 9 := on_off (by omega) hn
      have h6 : On f 6 := he ⟨6, .data⟩ (by simp) rfl
      have e6 : gv 33 = .bool true := P 6 (by decide) rfl h6
      have h8 : On f 8 := he ⟨8, .data⟩ (by simp) rfl
      have e8 : gv 35 = .bool true := P 8 (by decide) rfl h8
      rw [e6, e8]
      have HQ := Lib.hid (And.intro P (And.intro HR (And.intro HI (And.intro HC HD))))
      clear P HR HI HC HD
      go_simp
      obtain ⟨P, HR, HI, HC, HD⟩ := HQ.out
      have bk : ∀ j, j ≠ 9 → On (f.setIfInBounds 9 true) j → On f j := fun j hj x => on_back (by omega) x hj
      have fw : ∀ j, On f j → On (f.setIfInBounds 9 true) j := fun j x => (on_put (by omega)).2 (.inr x)
      have fn : On (f.setIfInBounds 9 true) 9 := (on_put (by omega)).2 (.inl rfl)
      exact hKK (upd (upd (upd gv 33 (.bool true)) 35 (.bool true)) 36 (.bool true)) _ (by rw [upd_same e6]; rw [upd_same e8]; exact ⟨hBx, vals_step (n := 9) (v := .bool true) hD (by decide) (by omega) P (fun _ => rfl), HR, HI, HC, HD⟩)
    | 10, _ =>
      cases hio
      have off : ¬ On f 10 := on_off (by omega) hn
      have h9 : On f 9 := he ⟨9, .data⟩ (by simp) rfl
      have e9 : gv 36 = .bool true := P 9 (by decide) rfl h9
      rw [e9]
      have HQ := Lib.hid (And.intro P (And.intro HR (And.intro HI (And.intro HC HD))))
      clear P HR HI HC HD
      go_simp
      obtain ⟨P, HR, HI, HC, HD⟩ := HQ.out
      have bk : ∀ j, j ≠ 10 → On (f.setIfInBounds 10 true) j → On f j := fun j hj x => on_back (by omega) x hj
      have fw : ∀ j, On f j → On (f.setIfInBounds 10 true) j := fun j x => (on_put (by omega)).2 (.inr x)
      have fn : On (f.setIfInBounds 10 true) 10 := (on_put (by omega)).2 (.inl rfl)
      exact hKK (upd (upd gv 36 (.bool true)) 37 (.bool true)) _ (by rw [upd_same e9]; exact ⟨hBx, vals_step (n := 10) (v := .bool true) hD (by decide) (by omega) P (fun _ => rfl), HR, HI, HC, HD⟩)
    | 11, _ =>
      cases hio
      have off : ¬ On f 11 := on_off (by omega) hn
      have h10 : On f 10 := he ⟨10, .guard⟩ (by simp) rfl
      have e10 : gv 37 = .bool true := P 10 (by decide) rfl h10
      rw [e10]
      rw [if_pos (by rfl)]
      have HQ := Lib.hid (And.intro P (And.intro HR (And.intro HI (And.intro HC HD))))
      clear P HR HI HC HD
      go_simp
      obtain ⟨P, HR, HI, HC, HD⟩ := HQ.out
      have bk : ∀ j, j ≠ 11 → On (f.setIfInBounds 11 true) j → On f j := fun j hj x => on_back (by omega) x hj
      have fw : ∀ j, On f j → On (f.setIfInBounds 11 true) j := fun j x => (on_put (by omega)).2 (.inr x)
      have fn : On (f.setIfInBounds 11 true) 11 := (on_put (by omega)).2 (.inl rfl)
      exact hKK (upd (upd gv 37 (.bool true)) 38 (.slice a2 8 c2)) _ (by rw [upd_same e10]; exact ⟨hBx, vals_step (n := 11) (v := .slice a2 8 c2) hD (by decide) (by omega) P (fun _ => rfl), HR, HI, HC, HD⟩)
    | 12, _ =>
      cases hio
      have off : ¬ On f 12 := on_off (by omega) hn
      have h10 : On f 10 := he ⟨10, .guard⟩ (by simp) rfl
      have e10 : gv 37 = .bool true := P 10 (by decide) rfl h10
      have h11 : On f 11 := he ⟨11, .data⟩ (by simp) rfl
      have e11 : gv 38 = .slice a2 8 c2 := P 11 (by decide) rfl h11
      have hcv := HR.str (P := Try.prog) 31 5 9 Try.underlying31 Try.underlying5 Try.underlying9
      rw [e10, e11]
      rw [if_pos (by rfl)]
      have HQ := Lib.hid (And.intro P (And.intro HR (And.intro HI (And.intro HC HD))))
      clear P HR HI HC HD
      go_simp
      clear hcv
      obtain ⟨P, HR, HI, HC, HD⟩ := HQ.out
      have bk : ∀ j, j ≠ 12 → On (f.setIfInBounds 12 true) j → On f j := fun j hj x => on_back (by omega) x hj
      have fw : ∀ j, On f j → On (f.setIfInBounds 12 true) j := fun j x => (on_put (by omega)).2 (.inr x)
      have fn : On (f.setIfInBounds 12 true) 12 := (on_put (by omega)).2 (.inl rfl)
      exact hKK (upd (upd (upd gv 37 (.bool true)) 38 (.slice a2 8 c2)) 39 (.string ⟨([0, 1, 1, 0, 0, 1, 97, 2] : List UInt8).toArray⟩)) _ (by rw [upd_same e10]; rw [upd_same e11]; exact ⟨hBx, vals_step (n := 12) (v := .string ⟨([0, 1, 1, 0, 0, 1, 97, 2] : List UInt8).toArray⟩) hD (by decide) (by omega) P (fun _ => rfl), HR, HI, HC, HD⟩)
    | 13, _ =>
      cases hio
      have off : ¬ On f 13 := on_off (by omega) hn
      have h10 : On f 10 := he ⟨10, .guard⟩ (by simp) rfl
      have e10 : gv 37 = .bool true := P 10 (by decide) rfl h10
      have h12 : On f 12 := he ⟨12, .data⟩ (by simp) rfl
      have e12 : gv 39 = .string ⟨([0, 1, 1, 0, 0, 1, 97, 2] : List UInt8).toArray⟩ := P 12 (by decide) rfl h12
      rw [e10, e12]
      rw [if_pos (by rfl)]
      have HQ := Lib.hid (And.intro P (And.intro HR (And.intro HI (And.intro HC HD))))
      clear P HR HI HC HD
      go_simp
      obtain ⟨P, HR, HI, HC, HD⟩ := HQ.out
      have bk : ∀ j, j ≠ 13 → On (f.setIfInBounds 13 true) j → On f j := fun j hj x => on_back (by omega) x hj
      have fw : ∀ j, On f j → On (f.setIfInBounds 13 true) j := fun j x => (on_put (by omega)).2 (.inr x)
      have fn : On (f.setIfInBounds 13 true) 13 := (on_put (by omega)).2 (.inl rfl)
      exact hKK (upd (upd (upd gv 37 (.bool true)) 39 (.string ⟨([0, 1, 1, 0, 0, 1, 97, 2] : List UInt8).toArray⟩)) 40 (.bool true)) _ (by rw [upd_same e10]; rw [upd_same e12]; exact ⟨hBx, vals_step (n := 13) (v := .bool true) hD (by decide) (by omega) P (fun _ => rfl), HR, HI, HC, HD⟩)
    | 14, _ =>
      cases hio
      have off : ¬ On f 14 := on_off (by omega) hn
      have h10 : On f 10 := he ⟨10, .data⟩ (by simp) rfl
      have e10 : gv 37 = .bool true := P 10 (by decide) rfl h10
      have h13 : On f 13 := he ⟨13, .data⟩ (by simp) rfl
      have e13 : gv 40 = .bool true := P 13 (by decide) rfl h13
      rw [e10, e13]
      have HQ := Lib.hid (And.intro P (And.intro HR (And.intro HI (And.intro HC HD))))
      clear P HR HI HC HD
      go_simp
      obtain ⟨P, HR, HI, HC, HD⟩ := HQ.out
      have bk : ∀ j, j ≠ 14 → On (f.setIfInBounds 14 true) j → On f j := fun j hj x => on_back (by omega) x hj
      have fw : ∀ j, On f j → On (f.setIfInBounds 14 true) j := fun j x => (on_put (by omega)).2 (.inr x)
      have fn : On (f.setIfInBounds 14 true) 14 := (on_put (by omega)).2 (.inl rfl)
      exact hKK (upd (upd (upd gv 37 (.bool true)) 40 (.bool true)) 41 (.bool true)) _ (by rw [upd_same e10]; rw [upd_same e13]; exact ⟨hBx, vals_step (n := 14) (v := .bool true) hD (by decide) (by omega) P (fun _ => rfl), HR, HI, HC, HD⟩)
    | 15, _ =>
      cases hio
      have off : ¬ On f 15 := on_off (by omega) hn
      have h14 : On f 14 := he ⟨14, .data⟩ (by simp) rfl
      have e14 : gv 41 = .bool true := P 14 (by decide) rfl h14
      rw [e14]
      have HQ := Lib.hid (And.intro P (And.intro HR (And.intro HI (And.intro HC HD))))
      clear P HR HI HC HD
      go_simp
      obtain ⟨P, HR, HI, HC, HD⟩ := HQ.out
      have bk : ∀ j, j ≠ 15 → On (f.setIfInBounds 15 true) j → On f j := fun j hj x => on_back (by omega) x hj
      have fw : ∀ j, On f j → On (f.setIfInBounds 15 true) j := fun j x => (on_put (by omega)).2 (.inr x)
      have fn : On (f.setIfInBounds 15 true) 15 := (on_put (by omega)).2 (.inl rfl)
      exact hKK (upd (upd gv 41 (.bool true)) 42 (.bool true)) _ (by rw [upd_same e14]; exact ⟨hBx, vals_step (n := 15) (v := .bool true) hD (by decide) (by omega) P (fun _ => rfl), HR, HI, HC, HD⟩)
    | 16, _ =>
      cases hio
      have off : ¬ On f 16 := on_off (by omega) hn
      have h15 : On f 15 := he ⟨15, .guard⟩ (by simp) rfl
      have e15 : gv 42 = .bool true := P 15 (by decide) rfl h15
      have d0 : wm.cell? ⟨b7, 0, none⟩ = some (.int .i64 0) := HC.at 0 _ rfl
      have d1 : wm.cell? ⟨b7, 1, none⟩ = some (.int .i64 1) := HC.at 1 _ rfl
      have d2 : wm.cell? ⟨b7, 2, none⟩ = some (.int .i64 1) := HC.at 2 _ rfl
      have d3 : wm.cell? ⟨b7, 3, none⟩ = some (.slice a6 0 c6) := HC.at 3 _ rfl
      have d4 : wm.cell? ⟨b7, 4, none⟩ = some (.int .i64 0) := HC.at 4 _ rfl
      have d5 : wm.cell? ⟨b7, 5, none⟩ = some (.string ⟨#[97]⟩) := HC.at 5 _ rfl
      have d6 : wm.cell? ⟨b7, 6, none⟩ = some (.string ⟨#[]⟩) := HC.at 6 _ rfl
      have d7 : wm.cell? ⟨b7, 7, none⟩ = some (.int .i64 1) := HC.at 7 _ rfl
      rw [e15]
      rw [if_pos (by rfl)]
      have HQ := Lib.hid (And.intro P (And.intro HR (And.intro HI (And.intro HC HD))))
      clear P HR HI HC HD
      go_simp
      obtain ⟨P, HR, HI, HC, HD⟩ := HQ.out
      have bk : ∀ j, j ≠ 16 → On (f.setIfInBounds 16 true) j → On f j := fun j hj x => on_back (by omega) x hj
      have fw : ∀ j, On f j → On (f.setIfInBounds 16 true) j := fun j x => (on_put (by omega)).2 (.inr x)
      have fn : On (f.setIfInBounds 16 true) 16 := (on_put (by omega)).2 (.inl rfl)
      exact hKK (upd (upd gv 42 (.bool true)) 43 (.agg #[.int .i64 0, .int .i64 1, .int .i64 1, .slice a6 0 c6, .int .i64 0, .string ⟨#[97]⟩, .string ⟨#[]⟩, .int .i64 1])) _ (by rw [upd_same e15]; exact ⟨hBx, vals_step (n := 16) (v := .agg #[.int .i64 0, .int .i64 1, .int .i64 1, .slice a6 0 c6, .int .i64 0, .string ⟨#[97]⟩, .string ⟨#[]⟩, .int .i64 1]) hD (by decide) (by omega) P (fun _ => rfl), HR, HI, HC, HD⟩)
    | 17, _ =>
      cases hio
      have off : ¬ On f 17 := on_off (by omega) hn
      have h15 : On f 15 := he ⟨15, .guard⟩ (by simp) rfl
      have e15 : gv 42 = .bool true := P 15 (by decide) rfl h15
      rw [e15]
      rw [if_pos (by rfl)]
      have HQ := Lib.hid (And.intro P (And.intro HR (And.intro HI (And.intro HC HD))))
      clear P HR HI HC HD
      go_simp
      refine (HSO.out _).mono ?_
      rintro e w6 ⟨rfl, hb⟩
      obtain ⟨P, HR, HI, HC, HD⟩ := HQ.out
      have bk : ∀ j, j ≠ 17 → On (f.setIfInBounds 17 true) j → On f j := fun j hj x => on_back (by omega) x hj
      have fw : ∀ j, On f j → On (f.setIfInBounds 17 true) j := fun j x => (on_put (by omega)).2 (.inr x)
      have fn : On (f.setIfInBounds 17 true) 17 := (on_put (by omega)).2 (.inl rfl)
      exact hKK (upd (upd gv 42 (.bool true)) 44 (.agg #[.int .i64 0, .int .i64 1, .int .i64 1, .slice none 0 0, .int .i64 0, .string ⟨#[97]⟩, .string ⟨#[]⟩, .int .i64 1])) _ (by rw [upd_same e15]; exact ⟨hBx.step hb, vals_step (n := 17) (v := .agg #[.int .i64 0, .int .i64 1, .int .i64 1, .slice none 0 0, .int .i64 0, .string ⟨#[97]⟩, .string ⟨#[]⟩, .int .i64 1]) hD (by decide) (by omega) P (fun _ => rfl), HR.below hb, HI.below hb, HC.step hb, HD.step hb⟩)
    | 18, _ =>
      cases hio
      have off : ¬ On f 18 := on_off (by omega) hn
      have h15 : On f 15 := he ⟨15, .guard⟩ (by simp) rfl
      have e15 : gv 42 = .bool true := P 15 (by decide) rfl h15
      have h16 : On f 16 := he ⟨16, .data⟩ (by simp) rfl
      have e16 : gv 43 = .agg #[.int .i64 0, .int .i64 1, .int .i64 1, .slice a6 0 c6, .int .i64 0, .string ⟨#[97]⟩, .string ⟨#[]⟩, .int .i64 1] := P 16 (by decide) rfl h16
      have h17 : On f 17 := he ⟨17, .data⟩ (by simp) rfl
      have e17 : gv 44 = .agg #[.int .i64 0, .int .i64 1, .int .i64 1, .slice none 0 0, .int .i64 0, .string ⟨#[97]⟩, .string ⟨#[]⟩, .int .i64 1] := P 17 (by decide) rfl h17
      have hxi := Lib.hid HI
      rw [e15, e16, e17]
      rw [if_pos (by rfl)]
      have HQ := Lib.hid (And.intro P (And.intro HR (And.intro HI (And.intro HC HD))))
      clear P HR HI HC HD
      go_simp
      refine (HSA.out _ _ _ hxi.out).mono ?_
      rintro e w6 ⟨rfl, hb⟩
      obtain ⟨P, HR, HI, HC, HD⟩ := HQ.out
      have bk : ∀ j, j ≠ 18 → On (f.setIfInBounds 18 true) j → On f j := fun j hj x => on_back (by omega) x hj
      have fw : ∀ j, On f j → On (f.setIfInBounds 18 true) j := fun j x => (on_put (by omega)).2 (.inr x)
      have fn : On (f.setIfInBounds 18 true) 18 := (on_put (by omega)).2 (.inl rfl)
      exact hKK (upd (upd (upd (upd gv 42 (.bool true)) 43 (.agg #[.int .i64 0, .int .i64 1, .int .i64 1, .slice a6 0 c6, .int .i64 0, .string ⟨#[97]⟩, .string ⟨#[]⟩, .int .i64 1])) 44 (.agg #[.int .i64 0, .int .i64 1, .int .i64 1, .slice none 0 0, .int .i64 0, .string ⟨#[97]⟩, .string ⟨#[]⟩, .int .i64 1])) 45 (.bool true)) _ (by rw [upd_same e15]; rw [upd_same e16]; rw [upd_same e17]; exact ⟨hBx.step hb, vals_step (n := 18) (v := .bool true) hD (by decide) (by omega) P (fun _ => rfl), HR.below hb, HI.below hb, HC.step hb, HD.step hb⟩)
    | 19, _ =>
      cases hio
      have off : ¬ On f 19 := on_off (by omega) hn
      have h15 : On f 15 := he ⟨15, .data⟩ (by simp) rfl
      have e15 : gv 42 = .bool true := P 15 (by decide) rfl h15
      have h18 : On f 18 := he ⟨18, .data⟩ (by simp) rfl
      have e18 : gv 45 = .bool true := P 18 (by decide) rfl h18
      rw [e15, e18]
      have HQ := Lib.hid (And.intro P (And.intro HR (And.intro HI (And.intro HC HD))))
      clear P HR HI HC HD
      go_simp
      obtain ⟨P, HR, HI, HC, HD⟩ := HQ.out
      have bk : ∀ j, j ≠ 19 → On (f.setIfInBounds 19 true) j → On f j := fun j hj x => on_back (by omega) x hj
      have fw : ∀ j, On f j → On (f.setIfInBounds 19 true) j := fun j x => (on_put (by omega)).2 (.inr x)
      have fn : On (f.setIfInBounds 19 true) 19 := (on_put (by omega)).2 (.inl rfl)
      exact hKK (upd (upd (upd gv 42 (.bool true)) 45 (.bool true)) 46 (.bool true)) _ (by rw [upd_same e15]; rw [upd_same e18]; exact ⟨hBx, vals_step (n := 19) (v := .bool true) hD (by decide) (by omega) P (fun _ => rfl), HR, HI, HC, HD⟩)
    | 20, _ =>
      cases hio
      have off : ¬ On f 20 := on_off (by omega) hn
      have h19 : On f 19 := he ⟨19, .data⟩ (by simp) rfl
      have e19 : gv 46 = .bool true := P 19 (by decide) rfl h19
      rw [e19]
      have HQ := Lib.hid (And.intro P (And.intro HR (And.intro HI (And.intro HC HD))))
      clear P HR HI HC HD
      go_simp
      obtain ⟨P, HR, HI, HC, HD⟩ := HQ.out
      have bk : ∀ j, j ≠ 20 → On (f.setIfInBounds 20 true) j → On f j := fun j hj x => on_back (by omega) x hj
      have fw : ∀ j, On f j → On (f.setIfInBounds 20 true) j := fun j x => (on_put (by omega)).2 (.inr x)
      have fn : On (f.setIfInBounds 20 true) 20 := (on_put (by omega)).2 (.inl rfl)
      exact hKK (upd (upd gv 46 (.bool true)) 47 (.bool true)) _ (by rw [upd_same e19]; exact ⟨hBx, vals_step (n := 20) (v := .bool true) hD (by decide) (by omega) P (fun _ => rfl), HR, HI, HC, HD⟩)
    | 21, _ =>
      cases hio
      have off : ¬ On f 21 := on_off (by omega) hn
      have h20 : On f 20 := he ⟨20, .guard⟩ (by simp) rfl
      have e20 : gv 47 = .bool true := P 20 (by decide) rfl h20
      rw [e20]
      rw [if_pos (by rfl)]
      have HQ := Lib.hid (And.intro P (And.intro HR (And.intro HI (And.intro HC HD))))
      clear P HR HI HC HD
      go_simp
      obtain ⟨P, HR, HI, HC, HD⟩ := HQ.out
      have bk : ∀ j, j ≠ 21 → On (f.setIfInBounds 21 true) j → On f j := fun j hj x => on_back (by omega) x hj
      have fw : ∀ j, On f j → On (f.setIfInBounds 21 true) j := fun j x => (on_put (by omega)).2 (.inr x)
      have fn : On (f.setIfInBounds 21 true) 21 := (on_put (by omega)).2 (.inl rfl)
      exact hKK (upd (upd gv 47 (.bool true)) 48 (.slice a7 1 c7)) _ (by rw [upd_same e20]; exact ⟨hBx, vals_step (n := 21) (v := .slice a7 1 c7) hD (by decide) (by omega) P (fun _ => rfl), HR, HI, HC, HD⟩)
    | 22, _ =>
      cases hio
      have off : ¬ On f 22 := on_off (by omega) hn
      have h20 : On f 20 := he ⟨20, .guard⟩ (by simp) rfl
      have e20 : gv 47 = .bool true := P 20 (by decide) rfl h20
      have h21 : On f 21 := he ⟨21, .data⟩ (by simp) rfl
      have e21 : gv 48 = .slice a7 1 c7 := P 21 (by decide) rfl h21
      rw [e20, e21]
      rw [if_pos (by rfl)]
      have HQ := Lib.hid (And.intro P (And.intro HR (And.intro HI (And.intro HC HD))))
      clear P HR HI HC HD
      go_simp
      obtain ⟨P, HR, HI, HC, HD⟩ := HQ.out
      have bk : ∀ j, j ≠ 22 → On (f.setIfInBounds 22 true) j → On f j := fun j hj x => on_back (by omega) x hj
      have fw : ∀ j, On f j → On (f.setIfInBounds 22 true) j := fun j x => (on_put (by omega)).2 (.inr x)
      have fn : On (f.setIfInBounds 22 true) 22 := (on_put (by omega)).2 (.inl rfl)
      exact hKK (upd (upd (upd gv 47 (.bool true)) 48 (.slice a7 1 c7)) 49 (.int .i64 1)) _ (by rw [upd_same e20]; rw [upd_same e21]; exact ⟨hBx, vals_step (n := 22) (v := .int .i64 1) hD (by decide) (by omega) P (fun _ => rfl), HR, HI, HC, HD⟩)
    | 23, _ =>
      cases hio
      have off : ¬ On f 23 := on_off (by omega) hn
      have h20 : On f 20 := he ⟨20, .guard⟩ (by simp) rfl
      have e20 : gv 47 = .bool true := P 20 (by decide) rfl h20
      have h22 : On f 22 := he ⟨22, .data⟩ (by simp) rfl
      have e22 : gv 49 = .int .i64 1 := P 22 (by decide) rfl h22
      rw [e20, e22]
      rw [if_pos (by rfl)]
      have HQ := Lib.hid (And.intro P (And.intro HR (And.intro HI (And.intro HC HD))))
      clear P HR HI HC HD
      go_simp
      obtain ⟨P, HR, HI, HC, HD⟩ := HQ.out
      have bk : ∀ j, j ≠ 23 → On (f.setIfInBounds 23 true) j → On f j := fun j hj x => on_back (by omega) x hj
      have fw : ∀ j, On f j → On (f.setIfInBounds 23 true) j := fun j x => (on_put (by omega)).2 (.inr x)
      have fn : On (f.setIfInBounds 23 true) 23 := (on_put (by omega)).2 (.inl rfl)
      exact hKK (upd (upd (upd gv 47 (.bool true)) 49 (.int .i64 1)) 50 (.bool true)) _ (by rw [upd_same e20]; rw [upd_same e22]; exact ⟨hBx, vals_step (n := 23) (v := .bool true) hD (by decide) (by omega) P (fun _ => rfl), HR, HI, HC, HD⟩)
    | 24, _ =>
      cases hio
      have off : ¬ On f 24 := on_off (by omega) hn
      have h20 : On f 20 := he ⟨20, .data⟩ (by simp) rfl
      have e20 : gv 47 = .bool true := P 20 (by decide) rfl h20
      have h23 : On f 23 := he ⟨23, .data⟩ (by simp) rfl
      have e23 : gv 50 = .bool true := P 23 (by decide) rfl h23
      rw [e20, e23]
      have HQ := Lib.hid (And.intro P (And.intro HR (And.intro HI (And.intro HC HD))))
      clear P HR HI HC HD
      go_simp
      obtain ⟨P, HR, HI, HC, HD⟩ := HQ.out
      have bk : ∀ j, j ≠ 24 → On (f.setIfInBounds 24 true) j → On f j := fun j hj x => on_back (by omega) x hj
      have fw : ∀ j, On f j → On (f.setIfInBounds 24 true) j := fun j x => (on_put (by omega)).2 (.inr x)
      have fn : On (f.setIfInBounds 24 true) 24 := (on_put (by omega)).2 (.inl rfl)
      exact hKK (upd (upd (upd gv 47 (.bool true)) 50 (.bool true)) 51 (.bool true)) _ (by rw [upd_same e20]; rw [upd_same e23]; exact ⟨hBx, vals_step (n := 24) (v := .bool true) hD (by decide) (by omega) P (fun _ => rfl), HR, HI, HC, HD⟩)
    | 25, _ =>
      cases hio
      have off : ¬ On f 25 := on_off (by omega) hn
      have h24 : On f 24 := he ⟨24, .data⟩ (by simp) rfl
      have e24 : gv 51 = .bool true := P 24 (by decide) rfl h24
      rw [e24]
      have HQ := Lib.hid (And.intro P (And.intro HR (And.intro HI (And.intro HC HD))))
      clear P HR HI HC HD
      go_simp
      obtain ⟨P, HR, HI, HC, HD⟩ := HQ.out
      have bk : ∀ j, j ≠ 25 → On (f.setIfInBounds 25 true) j → On f j := fun j hj x => on_back (by omega) x hj
      have fw : ∀ j, On f j → On (f.setIfInBounds 25 true) j := fun j x => (on_put (by omega)).2 (.inr x)
      have fn : On (f.setIfInBounds 25 true) 25 := (on_put (by omega)).2 (.inl rfl)
      exact hKK (upd (upd gv 51 (.bool true)) 52 (.bool true)) _ (by rw [upd_same e24]; exact ⟨hBx, vals_step (n := 25) (v := .bool true) hD (by decide) (by omega) P (fun _ => rfl), HR, HI, HC, HD⟩)
    | 26, _ =>
      cases hio
      have off : ¬ On f 26 := on_off (by omega) hn
      have h25 : On f 25 := he ⟨25, .guard⟩ (by simp) rfl
      have e25 : gv 52 = .bool true := P 25 (by decide) rfl h25
      have HD' := HD
      rw [e25]
      rw [if_pos (by rfl)]
      have HQ := Lib.hid (And.intro P (And.intro HR (And.intro HI (And.intro HC HD))))
      clear P HR HI HC HD
      refine wp_load_mid 36 (.tmp 6) rfl b10 0 (by rfl) (Bs Y) _ HD'.range under_ids rfl (info_x HY.out) ?_
      simp only [Act.put, List.setIfInBounds_toArray]
      obtain ⟨P, HR, HI, HC, HD⟩ := HQ.out
      have bk : ∀ j, j ≠ 26 → On (f.setIfInBounds 26 true) j → On f j := fun j hj x => on_back (by omega) x hj
      have fw : ∀ j, On f j → On (f.setIfInBounds 26 true) j := fun j x => (on_put (by omega)).2 (.inr x)
      have fn : On (f.setIfInBounds 26 true) 26 := (on_put (by omega)).2 (.inl rfl)
      exact hKK (upd (upd gv 52 (.bool true)) 53 (.agg (Bs Y).toArray)) _ (by rw [upd_same e25]; exact ⟨hBx, vals_step (n := 26) (v := .agg (Bs Y).toArray) hD (by decide) (by omega) P (fun _ => rfl), HR, HI, HC, HD⟩)
    | 27, _ =>
      cases hio
      have off : ¬ On f 27 := on_off (by omega) hn
      have h25 : On f 25 := he ⟨25, .guard⟩ (by simp) rfl
      have e25 : gv 52 = .bool true := P 25 (by decide) rfl h25
      rw [e25]
      rw [if_pos (by rfl)]
      have HQ := Lib.hid (And.intro P (And.intro HR (And.intro HI (And.intro HC HD))))
      clear P HR HI HC HD
      go_simp
      obtain ⟨P, HR, HI, HC, HD⟩ := HQ.out
      have bk : ∀ j, j ≠ 27 → On (f.setIfInBounds 27 true) j → On f j := fun j hj x => on_back (by omega) x hj
      have fw : ∀ j, On f j → On (f.setIfInBounds 27 true) j := fun j x => (on_put (by omega)).2 (.inr x)
      have fn : On (f.setIfInBounds 27 true) 27 := (on_put (by omega)).2 (.inl rfl)
      exact hKK (upd (upd gv 52 (.bool true)) 54 (.slice a2 8 c2)) _ (by rw [upd_same e25]; exact ⟨hBx, vals_step (n := 27) (v := .slice a2 8 c2) hD (by decide) (by omega) P (fun _ => rfl), HR, HI, HC, HD⟩)
    | 28, _ =>
      cases hio
      have off : ¬ On f 28 := on_off (by omega) hn
      have h25 : On f 25 := he ⟨25, .guard⟩ (by simp) rfl
      have e25 : gv 52 = .bool true := P 25 (by decide) rfl h25
      have h27 : On f 27 := he ⟨27, .data⟩ (by simp) rfl
      have e27 : gv 54 = .slice a2 8 c2 := P 27 (by decide) rfl h27
      have hxr := Lib.hid HR
      rw [e25, e27]
      rw [if_pos (by rfl)]
      have HQ := Lib.hid (And.intro P (And.intro HR (And.intro HI (And.intro HC HD))))
      clear P HR HI HC HD
      go_simp
      refine (HSUM.out _ _ _ hxr.out).mono ?_
      rintro e w6 ⟨rfl, hb⟩
      obtain ⟨P, HR, HI, HC, HD⟩ := HQ.out
      have bk : ∀ j, j ≠ 28 → On (f.setIfInBounds 28 true) j → On f j := fun j hj x => on_back (by omega) x hj
      have fw : ∀ j, On f j → On (f.setIfInBounds 28 true) j := fun j x => (on_put (by omega)).2 (.inr x)
      have fn : On (f.setIfInBounds 28 true) 28 := (on_put (by omega)).2 (.inl rfl)
      exact hKK (upd (upd (upd gv 52 (.bool true)) 54 (.slice a2 8 c2)) 55 (.agg (Bs Y).toArray)) _ (by rw [upd_same e25]; rw [upd_same e27]; exact ⟨hBx.step hb, vals_step (n := 28) (v := .agg (Bs Y).toArray) hD (by decide) (by omega) P (fun _ => rfl), HR.below hb, HI.below hb, HC.step hb, HD.step hb⟩)
    | 29, _ =>
      cases hio
      have off : ¬ On f 29 := on_off (by omega) hn
      have h25 : On f 25 := he ⟨25, .guard⟩ (by simp) rfl
      have e25 : gv 52 = .bool true := P 25 (by decide) rfl h25
      have h26 : On f 26 := he ⟨26, .data⟩ (by simp) rfl
      have e26 : gv 53 = .agg (Bs Y).toArray := P 26 (by decide) rfl h26
      have h28 : On f 28 := he ⟨28, .data⟩ (by simp) rfl
      have e28 : gv 55 = .agg (Bs Y).toArray := P 28 (by decide) rfl h28
      have hq := eq_arr Y Y HY.out HY.out wm
      rw [decide_eq_true rfl] at hq
      rw [e25, e26, e28]
      rw [if_pos (by rfl)]
      have HQ := Lib.hid (And.intro P (And.intro HR (And.intro HI (And.intro HC HD))))
      clear P HR HI HC HD
      go_simp
      clear hq
      obtain ⟨P, HR, HI, HC, HD⟩ := HQ.out
      have bk : ∀ j, j ≠ 29 → On (f.setIfInBounds 29 true) j → On f j := fun j hj x => on_back (by omega) x hj
      have fw : ∀ j, On f j → On (f.setIfInBounds 29 true) j := fun j x => (on_put (by omega)).2 (.inr x)
      have fn : On (f.setIfInBounds 29 true) 29 := (on_put (by omega)).2 (.inl rfl)
      exact hKK (upd (upd (upd (upd gv 52 (.bool true)) 53 (.agg (Bs Y).toArray)) 55 (.agg (Bs Y).toArray)) 56 (.bool true)) _ (by rw [upd_same e25]; rw [upd_same e26]; rw [upd_same e28]; exact ⟨hBx, vals_step (n := 29) (v := .bool true) hD (by decide) (by omega) P (fun _ => rfl), HR, HI, HC, HD⟩)
    | 30, _ =>
      cases hio
      have off : ¬ On f 30 := on_off (by omega) hn
      have h25 : On f 25 := he ⟨25, .data⟩ (by simp) rfl
      have e25 : gv 52 = .bool true := P 25 (by decide) rfl h25
      have h29 : On f 29 := he ⟨29, .data⟩ (by simp) rfl
      have e29 : gv 56 = .bool true := P 29 (by decide) rfl h29
      rw [e25, e29]
      have HQ := Lib.hid (And.intro P (And.intro HR (And.intro HI (And.intro HC HD))))
      clear P HR HI HC HD
      go_simp
      obtain ⟨P, HR, HI, HC, HD⟩ := HQ.out
      have bk : ∀ j, j ≠ 30 → On (f.setIfInBounds 30 true) j → On f j := fun j hj x => on_back (by omega) x hj
      have fw : ∀ j, On f j → On (f.setIfInBounds 30 true) j := fun j x => (on_put (by omega)).2 (.inr x)
      have fn : On (f.setIfInBounds 30 true) 30 := (on_put (by omega)).2 (.inl rfl)
      exact hKK (upd (upd (upd gv 52 (.bool true)) 56 (.bool true)) 57 (.bool true)) _ (by rw [upd_same e25]; rw [upd_same e29]; exact ⟨hBx, vals_step (n := 30) (v := .bool true) hD (by decide) (by omega) P (fun _ => rfl), HR, HI, HC, HD⟩)
    | 31, _ =>
      cases hio
      have off : ¬ On f 31 := on_off (by omega) hn
      have h30 : On f 30 := he ⟨30, .data⟩ (by simp) rfl
      have e30 : gv 57 = .bool true := P 30 (by decide) rfl h30
      rw [e30]
      have HQ := Lib.hid (And.intro P (And.intro HR (And.intro HI (And.intro HC HD))))
      clear P HR HI HC HD
      go_simp
      obtain ⟨P, HR, HI, HC, HD⟩ := HQ.out
      have bk : ∀ j, j ≠ 31 → On (f.setIfInBounds 31 true) j → On f j := fun j hj x => on_back (by omega) x hj
      have fw : ∀ j, On f j → On (f.setIfInBounds 31 true) j := fun j x => (on_put (by omega)).2 (.inr x)
      have fn : On (f.setIfInBounds 31 true) 31 := (on_put (by omega)).2 (.inl rfl)
      exact hKK (upd (upd gv 57 (.bool true)) 58 (.bool true)) _ (by rw [upd_same e30]; exact ⟨hBx, vals_step (n := 31) (v := .bool true) hD (by decide) (by omega) P (fun _ => rfl), HR, HI, HC, HD⟩)
    | 32, _ =>
      cases hio
      have off : ¬ On f 32 := on_off (by omega) hn
      have h31 : On f 31 := he ⟨31, .guard⟩ (by simp) rfl
      have e31 : gv 58 = .bool true := P 31 (by decide) rfl h31
      have d0 : wm.cell? ⟨b7, 0, none⟩ = some (.int .i64 0) := HC.at 0 _ rfl
      have d1 : wm.cell? ⟨b7, 1, none⟩ = some (.int .i64 1) := HC.at 1 _ rfl
      have d2 : wm.cell? ⟨b7, 2, none⟩ = some (.int .i64 1) := HC.at 2 _ rfl
      have d3 : wm.cell? ⟨b7, 3, none⟩ = some (.slice a6 0 c6) := HC.at 3 _ rfl
      have d4 : wm.cell? ⟨b7, 4, none⟩ = some (.int .i64 0) := HC.at 4 _ rfl
      have d5 : wm.cell? ⟨b7, 5, none⟩ = some (.string ⟨#[97]⟩) := HC.at 5 _ rfl
      have d6 : wm.cell? ⟨b7, 6, none⟩ = some (.string ⟨#[]⟩) := HC.at 6 _ rfl
      have d7 : wm.cell? ⟨b7, 7, none⟩ = some (.int .i64 1) := HC.at 7 _ rfl
      rw [e31]
      rw [if_pos (by rfl)]
      have HQ := Lib.hid (And.intro P (And.intro HR (And.intro HI (And.intro HC HD))))
      clear P HR HI HC HD
      go_simp
      obtain ⟨P, HR, HI, HC, HD⟩ := HQ.out
      have bk : ∀ j, j ≠ 32 → On (f.setIfInBounds 32 true) j → On f j := fun j hj x => on_back (by omega) x hj
      have fw : ∀ j, On f j → On (f.setIfInBounds 32 true) j := fun j x => (on_put (by omega)).2 (.inr x)
      have fn : On (f.setIfInBounds 32 true) 32 := (on_put (by omega)).2 (.inl rfl)
      exact hKK (upd (upd gv 58 (.bool true)) 59 (.agg #[.int .i64 0, .int .i64 1, .int .i64 1, .slice a6 0 c6, .int .i64 0, .string ⟨#[97]⟩, .string ⟨#[]⟩, .int .i64 1])) _ (by rw [upd_same e31]; exact ⟨hBx, vals_step (n := 32) (v := .agg #[.int .i64 0, .int .i64 1, .int .i64 1, .slice a6 0 c6, .int .i64 0, .string ⟨#[97]⟩, .string ⟨#[]⟩, .int .i64 1]) hD (by decide) (by omega) P (fun _ => rfl), HR, HI, HC, HD⟩)
    | 33, _ =>
      cases hio
      have off : ¬ On f 33 := on_off (by omega) hn
      have h31 : On f 31 := he ⟨31, .guard⟩ (by simp) rfl
      have e31 : gv 58 = .bool true := P 31 (by decide) rfl h31
      have h32 : On f 32 := he ⟨32, .data⟩ (by simp) rfl
      have e32 : gv 59 = .agg #[.int .i64 0, .int .i64 1, .int .i64 1, .slice a6 0 c6, .int .i64 0, .string ⟨#[97]⟩, .string ⟨#[]⟩, .int .i64 1] := P 32 (by decide) rfl h32
      have hxi := Lib.hid HI
      rw [e31, e32]
      rw [if_pos (by rfl)]
      have HQ := Lib.hid (And.intro P (And.intro HR (And.intro HI (And.intro HC HD))))
      clear P HR HI HC HD
      go_simp
      refine (HMA.out _ _ _ hxi.out).mono ?_
      rintro e w6 ⟨rfl, hb⟩
      obtain ⟨P, HR, HI, HC, HD⟩ := HQ.out
      have bk : ∀ j, j ≠ 33 → On (f.setIfInBounds 33 true) j → On f j := fun j hj x => on_back (by omega) x hj
      have fw : ∀ j, On f j → On (f.setIfInBounds 33 true) j := fun j x => (on_put (by omega)).2 (.inr x)
      have fn : On (f.setIfInBounds 33 true) 33 := (on_put (by omega)).2 (.inl rfl)
      exact hKK (upd (upd (upd gv 58 (.bool true)) 59 (.agg #[.int .i64 0, .int .i64 1, .int .i64 1, .slice a6 0 c6, .int .i64 0, .string ⟨#[97]⟩, .string ⟨#[]⟩, .int .i64 1])) 60 (.bool true)) _ (by rw [upd_same e31]; rw [upd_same e32]; exact ⟨hBx.step hb, vals_step (n := 33) (v := .bool true) hD (by decide) (by omega) P (fun _ => rfl), HR.below hb, HI.below hb, HC.step hb, HD.step hb⟩)
    | 34, _ =>
      cases hio
      have off : ¬ On f 34 := on_off (by omega) hn
      have h31 : On f 31 := he ⟨31, .data⟩ (by simp) rfl
      have e31 : gv 58 = .bool true := P 31 (by decide) rfl h31
      have h33 : On f 33 := he ⟨33, .data⟩ (by simp) rfl
      have e33 : gv 60 = .bool true := P 33 (by decide) rfl h33
      rw [e31, e33]
      have HQ := Lib.hid (And.intro P (And.intro HR (And.intro HI (And.intro HC HD))))
      clear P HR HI HC HD
      go_simp
      obtain ⟨P, HR, HI, HC, HD⟩ := HQ.out
      have bk : ∀ j, j ≠ 34 → On (f.setIfInBounds 34 true) j → On f j := fun j hj x => on_back (by omega) x hj
      have fw : ∀ j, On f j → On (f.setIfInBounds 34 true) j := fun j x => (on_put (by omega)).2 (.inr x)
      have fn : On (f.setIfInBounds 34 true) 34 := (on_put (by omega)).2 (.inl rfl)
      exact hKK (upd (upd (upd gv 58 (.bool true)) 60 (.bool true)) 61 (.bool true)) _ (by rw [upd_same e31]; rw [upd_same e33]; exact ⟨hBx, vals_step (n := 34) (v := .bool true) hD (by decide) (by omega) P (fun _ => rfl), HR, HI, HC, HD⟩)
    | 35, _ =>
      cases hio
      have off : ¬ On f 35 := on_off (by omega) hn
      have h34 : On f 34 := he ⟨34, .data⟩ (by simp) rfl
      have e34 : gv 61 = .bool true := P 34 (by decide) rfl h34
      rw [e34]
      have HQ := Lib.hid (And.intro P (And.intro HR (And.intro HI (And.intro HC HD))))
      clear P HR HI HC HD
      go_simp
      obtain ⟨P, HR, HI, HC, HD⟩ := HQ.out
      have bk : ∀ j, j ≠ 35 → On (f.setIfInBounds 35 true) j → On f j := fun j hj x => on_back (by omega) x hj
      have fw : ∀ j, On f j → On (f.setIfInBounds 35 true) j := fun j x => (on_put (by omega)).2 (.inr x)
      have fn : On (f.setIfInBounds 35 true) 35 := (on_put (by omega)).2 (.inl rfl)
      exact hKK (upd (upd gv 61 (.bool true)) 62 (.bool true)) _ (by rw [upd_same e34]; exact ⟨hBx, vals_step (n := 35) (v := .bool true) hD (by decide) (by omega) P (fun _ => rfl), HR, HI, HC, HD⟩)
    | 36, _ =>
      cases hio
      have off : ¬ On f 36 := on_off (by omega) hn
      have h35 : On f 35 := he ⟨35, .guard⟩ (by simp) rfl
      have e35 : gv 62 = .bool true := P 35 (by decide) rfl h35
      have d0 : wm.cell? ⟨b7, 0, none⟩ = some (.int .i64 0) := HC.at 0 _ rfl
      have d1 : wm.cell? ⟨b7, 1, none⟩ = some (.int .i64 1) := HC.at 1 _ rfl
      have d2 : wm.cell? ⟨b7, 2, none⟩ = some (.int .i64 1) := HC.at 2 _ rfl
      have d3 : wm.cell? ⟨b7, 3, none⟩ = some (.slice a6 0 c6) := HC.at 3 _ rfl
      have d4 : wm.cell? ⟨b7, 4, none⟩ = some (.int .i64 0) := HC.at 4 _ rfl
      have d5 : wm.cell? ⟨b7, 5, none⟩ = some (.string ⟨#[97]⟩) := HC.at 5 _ rfl
      have d6 : wm.cell? ⟨b7, 6, none⟩ = some (.string ⟨#[]⟩) := HC.at 6 _ rfl
      have d7 : wm.cell? ⟨b7, 7, none⟩ = some (.int .i64 1) := HC.at 7 _ rfl
      rw [e35]
      rw [if_pos (by rfl)]
      have HQ := Lib.hid (And.intro P (And.intro HR (And.intro HI (And.intro HC HD))))
      clear P HR HI HC HD
      go_simp
      obtain ⟨P, HR, HI, HC, HD⟩ := HQ.out
      have bk : ∀ j, j ≠ 36 → On (f.setIfInBounds 36 true) j → On f j := fun j hj x => on_back (by omega) x hj
      have fw : ∀ j, On f j → On (f.setIfInBounds 36 true) j := fun j x => (on_put (by omega)).2 (.inr x)
      have fn : On (f.setIfInBounds 36 true) 36 := (on_put (by omega)).2 (.inl rfl)
      exact hKK (upd (upd gv 62 (.bool true)) 63 (.agg #[.int .i64 0, .int .i64 1, .int .i64 1, .slice a6 0 c6, .int .i64 0, .string ⟨#[97]⟩, .string ⟨#[]⟩, .int .i64 1])) _ (by rw [upd_same e35]; exact ⟨hBx, vals_step (n := 36) (v := .agg #[.int .i64 0, .int .i64 1, .int .i64 1, .slice a6 0 c6, .int .i64 0, .string ⟨#[97]⟩, .string ⟨#[]⟩, .int .i64 1]) hD (by decide) (by omega) P (fun _ => rfl), HR, HI, HC, HD⟩)
    | 37, _ =>
      cases hio
      have off : ¬ On f 37 := on_off (by omega) hn
      have h35 : On f 35 := he ⟨35, .guard⟩ (by simp) rfl
      have e35 : gv 62 = .bool true := P 35 (by decide) rfl h35
      have h36 : On f 36 := he ⟨36, .data⟩ (by simp) rfl
      have e36 : gv 63 = .agg #[.int .i64 0, .int .i64 1, .int .i64 1, .slice a6 0 c6, .int .i64 0, .string ⟨#[97]⟩, .string ⟨#[]⟩, .int .i64 1] := P 36 (by decide) rfl h36
      have hxi := Lib.hid HI
      rw [e35, e36]
      rw [if_pos (by rfl)]
      have HQ := Lib.hid (And.intro P (And.intro HR (And.intro HI (And.intro HC HD))))
      clear P HR HI HC HD
      go_simp
      refine (HME.out _ _ _ hxi.out).mono ?_
      rintro e w6 ⟨rfl, hb⟩
      obtain ⟨P, HR, HI, HC, HD⟩ := HQ.out
      have bk : ∀ j, j ≠ 37 → On (f.setIfInBounds 37 true) j → On f j := fun j hj x => on_back (by omega) x hj
      have fw : ∀ j, On f j → On (f.setIfInBounds 37 true) j := fun j x => (on_put (by omega)).2 (.inr x)
      have fn : On (f.setIfInBounds 37 true) 37 := (on_put (by omega)).2 (.inl rfl)
      exact hKK (upd (upd (upd gv 62 (.bool true)) 63 (.agg #[.int .i64 0, .int .i64 1, .int .i64 1, .slice a6 0 c6, .int .i64 0, .string ⟨#[97]⟩, .string ⟨#[]⟩, .int .i64 1])) 64 (.bool false)) _ (by rw [upd_same e35]; rw [upd_same e36]; exact ⟨hBx.step hb, vals_step (n := 37) (v := .bool false) hD (by decide) (by omega) P (fun _ => rfl), HR.below hb, HI.below hb, HC.step hb, HD.step hb⟩)
    | 38, _ =>
      cases hio
      have off : ¬ On f 38 := on_off (by omega) hn
      have h35 : On f 35 := he ⟨35, .guard⟩ (by simp) rfl
      have e35 : gv 62 = .bool true := P 35 (by decide) rfl h35
      have h37 : On f 37 := he ⟨37, .data⟩ (by simp) rfl
      have e37 : gv 64 = .bool false := P 37 (by decide) rfl h37
      rw [e35, e37]
      rw [if_pos (by rfl)]
      have HQ := Lib.hid (And.intro P (And.intro HR (And.intro HI (And.intro HC HD))))
      clear P HR HI HC HD
      go_simp
      obtain ⟨P, HR, HI, HC, HD⟩ := HQ.out
      have bk : ∀ j, j ≠ 38 → On (f.setIfInBounds 38 true) j → On f j := fun j hj x => on_back (by omega) x hj
      have fw : ∀ j, On f j → On (f.setIfInBounds 38 true) j := fun j x => (on_put (by omega)).2 (.inr x)
      have fn : On (f.setIfInBounds 38 true) 38 := (on_put (by omega)).2 (.inl rfl)
      exact hKK (upd (upd (upd gv 62 (.bool true)) 64 (.bool false)) 65 (.bool true)) _ (by rw [upd_same e35]; rw [upd_same e37]; exact ⟨hBx, vals_step (n := 38) (v := .bool true) hD (by decide) (by omega) P (fun _ => rfl), HR, HI, HC, HD⟩)
    | 39, _ =>
      cases hio
      have off : ¬ On f 39 := on_off (by omega) hn
      have h35 : On f 35 := he ⟨35, .data⟩ (by simp) rfl
      have e35 : gv 62 = .bool true := P 35 (by decide) rfl h35
      have h38 : On f 38 := he ⟨38, .data⟩ (by simp) rfl
      have e38 : gv 65 = .bool true := P 38 (by decide) rfl h38
      rw [e35, e38]
      have HQ := Lib.hid (And.intro P (And.intro HR (And.intro HI (And.intro HC HD))))
      clear P HR HI HC HD
      go_simp
      obtain ⟨P, HR, HI, HC, HD⟩ := HQ.out
      have bk : ∀ j, j ≠ 39 → On (f.setIfInBounds 39 true) j → On f j := fun j hj x => on_back (by omega) x hj
      have fw : ∀ j, On f j → On (f.setIfInBounds 39 true) j := fun j x => (on_put (by omega)).2 (.inr x)
      have fn : On (f.setIfInBounds 39 true) 39 := (on_put (by omega)).2 (.inl rfl)
      exact hKK (upd (upd (upd gv 62 (.bool true)) 65 (.bool true)) 66 (.bool true)) _ (by rw [upd_same e35]; rw [upd_same e38]; exact ⟨hBx, vals_step (n := 39) (v := .bool true) hD (by decide) (by omega) P (fun _ => rfl), HR, HI, HC, HD⟩)
    | 40, _ =>
      cases hio
      have off : ¬ On f 40 := on_off (by omega) hn
      have h39 : On f 39 := he ⟨39, .data⟩ (by simp) rfl
      have e39 : gv 66 = .bool true := P 39 (by decide) rfl h39
      rw [e39]
      have HQ := Lib.hid (And.intro P (And.intro HR (And.intro HI (And.intro HC HD))))
      clear P HR HI HC HD
      go_simp
      obtain ⟨P, HR, HI, HC, HD⟩ := HQ.out
      have bk : ∀ j, j ≠ 40 → On (f.setIfInBounds 40 true) j → On f j := fun j hj x => on_back (by omega) x hj
      have fw : ∀ j, On f j → On (f.setIfInBounds 40 true) j := fun j x => (on_put (by omega)).2 (.inr x)
      have fn : On (f.setIfInBounds 40 true) 40 := (on_put (by omega)).2 (.inl rfl)
      exact hKK (upd (upd gv 66 (.bool true)) 0 (.bool true)) _ (by rw [upd_same e39]; exact ⟨hBx, vals_step (n := 40) (v := .bool true) hD (by decide) (by omega) P (fun _ => rfl), HR, HI, HC, HD⟩)
  · rintro f gv w5 hall hs' ⟨hBx, P, HR, HI, HC, HD⟩
    replace hs' : f.size = 41 := hs'
    have on : ∀ j, j < 41 → On f j := fun j hj => on_all hall hs' j hj
    have e6 : gv 0 = .bool true := P 40 (by decide) rfl (on 40 (by decide))
    have BX := Lib.hid (HB10.out.step hBx)
    clear P hBx hall hs' on hD
    rw [e6]
    go_wp2_with fail
    go_ret
    exact ⟨rfl, BX.out⟩
end Go.Proofs.Ytdefdccbcnpodaa
