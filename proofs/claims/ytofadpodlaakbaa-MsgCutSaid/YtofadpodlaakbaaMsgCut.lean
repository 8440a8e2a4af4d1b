/- The statement MsgCut, walked out of the contracts of what it calls. -/
import Derived.Test.YtofadpodlaakbaaMsgBack
import Derived.BigQuiet
namespace Go.Proofs.Ytofadpodlaakbaa
open Go.ChangeShapes Go.WideShapes Go.ChangeAt Go.RowKit
set_option linter.unusedVariables false
set_option linter.unusedSimpArgs false

theorem cut_plain (m n : Msg) (h1 : mayM m = true) (h2 : mayM n = true) (h3 : all32M m) (h4 : all32M n) : decide (m = n) = decide (putM m = putM n) :=
  decide_eq_decide.2 ⟨fun h => by rw [h], fun h => putM_only h1 h2 h3 h4 h⟩

set_option maxRecDepth 100000 in
set_option maxHeartbeats 16000000 in
theorem msgCut_walk (m n : Msg) (ai : Option Addr) (ci : Nat) (ac : Option Addr) (cc : Nat) (ai2 : Option Addr) (ci2 : Nat) (ac2 : Option Addr) (cc2 : Nat) (at_ z : Int) (w : World) (hr : MsgR w m ai ci ac cc) (hr2 : MsgR w n ai2 ci2 ac2 cc2)
    (ha : -9223372036854775808 ≤ at_ ∧ at_ ≤ 9223372036854775807) (hz : 0 ≤ z ∧ z ≤ 255) :
    Calls Try.prog 5 #[m.val ai ci ac cc, n.val ai2 ci2 ac2 cc2, .int .i64 at_, .int .u8 z] w fun e w' => e = .returned (.bool true) ∧ Below w.heap.size w w' := by
  have HFE := Lib.hid (fun w' h => fewm_any m ai ci ac cc w' h)
  have HFE2 := Lib.hid (fun w' h => fewm_any n ai2 ci2 ac2 cc2 w' h)
  have HPU := Lib.hid (fun w' h => mput_any m ai ci ac cc w' h)
  have HPU2 := Lib.hid (fun w' h => mput_any n ai2 ci2 ac2 cc2 w' h)
  have HSA := Lib.hid (fun w' h h' => msame_any m n ai ci ac cc ai2 ci2 ac2 cc2 w' h h')
  have HRM := Lib.hid hr
  have HRN := Lib.hid hr2
  unfold MPutP at HPU HPU2
  obtain ⟨few, hfew⟩ : ∃ b, b = fewM m := ⟨_, rfl⟩
  obtain ⟨few2, hfew2⟩ : ∃ b, b = fewM n := ⟨_, rfl⟩
  obtain ⟨may, hmay⟩ : ∃ b, b = mayM m := ⟨_, rfl⟩
  obtain ⟨may2, hmay2⟩ : ∃ b, b = mayM n := ⟨_, rfl⟩
  obtain ⟨same, hsame⟩ : ∃ b, b = decide (m = n) := ⟨_, rfl⟩
  rw [← hfew] at HFE
  rw [← hfew2] at HFE2
  rw [← hmay] at HPU
  rw [← hmay2] at HPU2
  rw [← hsame] at HSA
  obtain ⟨X, hX⟩ : ∃ X, X = putM m := ⟨_, rfl⟩
  obtain ⟨Y, hY⟩ : ∃ X, X = putM n := ⟨_, rfl⟩
  rw [← hX] at HPU
  rw [← hY] at HPU2
  obtain ⟨lx, hlx⟩ : ∃ l, l = X.length := ⟨_, rfl⟩
  obtain ⟨ly, hly⟩ : ∃ l, l = Y.length := ⟨_, rfl⟩
  rw [← hlx] at HPU
  rw [← hly] at HPU2
  have HPL := Lib.hid (show may = true → may2 = true → same = decide (X = Y) from fun h1 h2 => by rw [hsame, hX, hY]; exact cut_plain m n (by rw [← hmay]; exact h1) (by rw [← hmay2]; exact h2) hr.all32 hr2.all32)
  have HLX := Lib.hid (show may = true → lx ≤ 4000 from fun h => by rw [hlx, hX]; exact putM_len (by rw [← hmay]; exact h) hr.all32)
  have HXL := Lib.hid hlx
  have HGM := Lib.hid (show may = true → ∀ b : UInt8, getM (X ++ [b]) = none from fun h b => getM_more (m := m) (r := [b]) (by rw [← hmay]; exact h) hr.all32 (by simp) (by rw [hX]))
  have HGC := Lib.hid (show may = true → ∀ k, k < lx → getM (X.take k) = none from fun h k hk => by rw [hX]; exact getM_cut (by rw [← hmay]; exact h) hr.all32 (by rw [← hX, ← hlx]; exact hk))
  have HGE := Lib.hid (fun w' a n c L (h : Rd w' a n c L) (hz : a = none → c = 0) (hn : n ≤ 100000) (hg : getM L = none) => show Calls Try.prog 10 #[.slice a n c] w' (fun e w'' => e = .returned (.tuple #[.agg #[.int .i64 0, .slice none 0 0, .slice none 0 0], .int .i64 2]) ∧ Below w'.heap.size w' w'') by
    have h1 := mget_any a n c L w' h hz hn
    unfold MGetP at h1
    rw [hg] at h1
    exact h1)
  obtain ⟨zb, hzb⟩ : ∃ b : UInt8, z = (b.toNat : Int) := ⟨UInt8.ofNat z.toNat, by rw [UInt8.toNat_ofNat']; omega⟩
  subst hzb
  unfold Msg.val Msg.cs at HFE HPU HSA ⊢
  obtain ⟨kd, h_kd⟩ : ∃ x, x = m.kind := ⟨_, rfl⟩
  try rw [← h_kd] at HFE
  try rw [← h_kd] at HPU
  try rw [← h_kd] at HSA
  try rw [← h_kd] at ⊢
  obtain ⟨na, h_na⟩ : ∃ x, x = m.ids.length := ⟨_, rfl⟩
  try rw [← h_na] at HFE
  try rw [← h_na] at HPU
  try rw [← h_na] at HSA
  try rw [← h_na] at ⊢
  obtain ⟨nb, h_nb⟩ : ∃ x, x = m.cms.length := ⟨_, rfl⟩
  try rw [← h_nb] at HFE
  try rw [← h_nb] at HPU
  try rw [← h_nb] at HSA
  try rw [← h_nb] at ⊢
  clear h_kd h_na h_nb
  unfold Msg.val Msg.cs at HFE2 HPU2
  obtain ⟨kd2, h_kd2⟩ : ∃ x, x = n.kind := ⟨_, rfl⟩
  try rw [← h_kd2] at HFE2
  try rw [← h_kd2] at HPU2
  try rw [← h_kd2] at HSA
  try rw [← h_kd2] at ⊢
  obtain ⟨nc, h_nc⟩ : ∃ x, x = n.ids.length := ⟨_, rfl⟩
  try rw [← h_nc] at HFE2
  try rw [← h_nc] at HPU2
  try rw [← h_nc] at HSA
  try rw [← h_nc] at ⊢
  obtain ⟨nd, h_nd⟩ : ∃ x, x = n.cms.length := ⟨_, rfl⟩
  try rw [← h_nd] at HFE2
  try rw [← h_nd] at HPU2
  try rw [← h_nd] at HSA
  try rw [← h_nd] at ⊢
  clear h_kd2 h_nc h_nd
  clear hr hr2 hfew hfew2 hmay hmay2 hsame hX hY hlx hly hz
  have HAT := Lib.hid ha
  clear ha
  go_enter Try.func5, Try.ntmps5
  go_upto_region 1 with fail
  obtain ⟨w1, hw1⟩ : ∃ w1, w1 = w.alloc (.cells ([.int .i64 kd, .slice ai na ci, .slice ac nb cc] : List Value).toArray 25) := ⟨_, rfl⟩
  obtain ⟨w2, hw2⟩ : ∃ w2, w2 = w1.alloc (.cells ([.int .i64 kd2, .slice ai2 nc ci2, .slice ac2 nd cc2] : List Value).toArray 25) := ⟨_, rfl⟩
  have z1 : w1.heap.size = w.heap.size + 1 := by rw [hw1]; exact size_alloc' _ _
  have b01 : Below w.heap.size w w1 := by rw [hw1]; exact (Below.refl _ _).alloc (Nat.le_refl _) _
  have b12 : Below w1.heap.size w1 w2 := by rw [hw2]; exact (Below.refl _ _).alloc (Nat.le_refl _) _
  have c1 : Cel w1 w.heap.size 25 [.int .i64 kd, .slice ai na ci, .slice ac nb cc] := by rw [hw1]; exact Cel.new w _ _
  have c2 : Cel w2 (w.heap.size + 1) 25 [.int .i64 kd2, .slice ai2 nc ci2, .slice ac2 nd cc2] := by rw [hw2, ← z1]; exact Cel.new w1 _ _
  generalize hwg : World.alloc (World.alloc w _) _ = wG
  obtain rfl : w2 = wG := by rw [← hwg, hw2, hw1]
  obtain ⟨b1, hb1⟩ : ∃ b, b = w.heap.size := ⟨_, rfl⟩
  obtain ⟨b2, hb2⟩ : ∃ b, b = w.heap.size + 1 := ⟨_, rfl⟩
  rw [← hb2] at c2 ⊢
  rw [← hb1] at c1 ⊢
  have HC2 := Lib.hid (c1.step b12)
  have HE2 := Lib.hid c2
  have HB2 := Lib.hid (b01.step b12)
  clear hwg hw1 hw2 z1 b01 b12 c1 c2 hb1 hb2
  go_wp2_with fail
  refine (awake18 _).mono ?_
  rintro e w3 ⟨rfl, hb⟩
  have HC3 := Lib.hid (HC2.out.step hb)
  have HE3 := Lib.hid (HE2.out.step hb)
  have HB3 := Lib.hid (HB2.out.step hb)
  clear hb
  have p0 : w3.cell? ⟨b1, 0, none⟩ = some (.int .i64 kd) := HC3.out.at 0 _ rfl
  have p1 : w3.cell? ⟨b1, 1, none⟩ = some (.slice ai na ci) := HC3.out.at 1 _ rfl
  have p2 : w3.cell? ⟨b1, 2, none⟩ = some (.slice ac nb cc) := HC3.out.at 2 _ rfl
  have q0 : w3.cell? ⟨b2, 0, none⟩ = some (.int .i64 kd2) := HE3.out.at 0 _ rfl
  have q1 : w3.cell? ⟨b2, 1, none⟩ = some (.slice ai2 nc ci2) := HE3.out.at 1 _ rfl
  have q2 : w3.cell? ⟨b2, 2, none⟩ = some (.slice ac2 nd cc2) := HE3.out.at 2 _ rfl
  go_wp2_with fail
  refine (HFE.out _ (HRM.out.below HB3.out)).mono ?_
  rintro e w4 ⟨rfl, hb⟩
  clear p0 p1 p2 q0 q1 q2
  have HC4 := Lib.hid (HC3.out.step hb)
  have HE4 := Lib.hid (HE3.out.step hb)
  have HB4 := Lib.hid (HB3.out.step hb)
  clear hb
  have p0 : w4.cell? ⟨b1, 0, none⟩ = some (.int .i64 kd) := HC4.out.at 0 _ rfl
  have p1 : w4.cell? ⟨b1, 1, none⟩ = some (.slice ai na ci) := HC4.out.at 1 _ rfl
  have p2 : w4.cell? ⟨b1, 2, none⟩ = some (.slice ac nb cc) := HC4.out.at 2 _ rfl
  have q0 : w4.cell? ⟨b2, 0, none⟩ = some (.int .i64 kd2) := HE4.out.at 0 _ rfl
  have q1 : w4.cell? ⟨b2, 1, none⟩ = some (.slice ai2 nc ci2) := HE4.out.at 1 _ rfl
  have q2 : w4.cell? ⟨b2, 2, none⟩ = some (.slice ac2 nd cc2) := HE4.out.at 2 _ rfl
  go_wp2_with fail
  refine (HFE2.out _ (HRN.out.below HB4.out)).mono ?_
  rintro e w5 ⟨rfl, hb⟩
  clear p0 p1 p2 q0 q1 q2
  have HC5 := Lib.hid (HC4.out.step hb)
  have HE5 := Lib.hid (HE4.out.step hb)
  have HB5 := Lib.hid (HB4.out.step hb)
  clear hb
  have p0 : w5.cell? ⟨b1, 0, none⟩ = some (.int .i64 kd) := HC5.out.at 0 _ rfl
  have p1 : w5.cell? ⟨b1, 1, none⟩ = some (.slice ai na ci) := HC5.out.at 1 _ rfl
  have p2 : w5.cell? ⟨b1, 2, none⟩ = some (.slice ac nb cc) := HC5.out.at 2 _ rfl
  have q0 : w5.cell? ⟨b2, 0, none⟩ = some (.int .i64 kd2) := HE5.out.at 0 _ rfl
  have q1 : w5.cell? ⟨b2, 1, none⟩ = some (.slice ai2 nc ci2) := HE5.out.at 1 _ rfl
  have q2 : w5.cell? ⟨b2, 2, none⟩ = some (.slice ac2 nd cc2) := HE5.out.at 2 _ rfl
  cases may with
  | false =>
    simp only [Bool.false_eq_true, if_false] at HPU
    go_wp2_with fail
    refine (HPU.out _ (HRM.out.below HB5.out)).mono ?_
    rintro e w6 ⟨rfl, hb⟩
    clear p0 p1 p2 q0 q1 q2
    have HC6 := Lib.hid (HC5.out.step hb)
    have HE6 := Lib.hid (HE5.out.step hb)
    have HB6 := Lib.hid (HB5.out.step hb)
    clear hb
    have p0 : w6.cell? ⟨b1, 0, none⟩ = some (.int .i64 kd) := HC6.out.at 0 _ rfl
    have p1 : w6.cell? ⟨b1, 1, none⟩ = some (.slice ai na ci) := HC6.out.at 1 _ rfl
    have p2 : w6.cell? ⟨b1, 2, none⟩ = some (.slice ac nb cc) := HC6.out.at 2 _ rfl
    have q0 : w6.cell? ⟨b2, 0, none⟩ = some (.int .i64 kd2) := HE6.out.at 0 _ rfl
    have q1 : w6.cell? ⟨b2, 1, none⟩ = some (.slice ai2 nc ci2) := HE6.out.at 1 _ rfl
    have q2 : w6.cell? ⟨b2, 2, none⟩ = some (.slice ac2 nd cc2) := HE6.out.at 2 _ rfl
    obtain ⟨vy, fy, HP7⟩ : ∃ (vy : Value) (fy : Int), Hid (∀ w', MsgR w' n ai2 ci2 ac2 cc2 → Calls Try.prog 9 #[.agg #[.int .i64 kd2, .slice ai2 nc ci2, .slice ac2 nd cc2]] w' (fun e w'' => ∃ v, e = .returned (.tuple #[v, .int .i64 fy]) ∧ Below w'.heap.size w' w'')) := by
      cases may2 with
      | false => exact ⟨.nilIface, 1, Lib.hid (fun w' h => (HPU2.out w' h).mono fun e w'' h2 => by rw [if_neg (by decide)] at h2; exact ⟨_, h2.1, h2.2⟩)⟩
      | true => exact ⟨.nilIface, 0, Lib.hid (fun w' h => (HPU2.out w' h).mono fun e w'' h2 => by rw [if_pos rfl] at h2; obtain ⟨a, c, h3, _, _, h4⟩ := h2; exact ⟨_, h3, h4⟩)⟩
    clear HPU2
    go_wp2_with fail
    refine (HP7.out _ (HRN.out.below HB6.out)).mono ?_
    rintro e w7 ⟨v7, rfl, hb⟩
    have HB7 := Lib.hid (HB6.out.step hb)
    clear hb p0 p1 p2 q0 q1 q2
    cases few with
    | false =>
      go_wp2_with fail
      go_ret
      exact ⟨rfl, HB7.out⟩
    | true =>
      cases few2 with
      | false =>
        go_wp2_with fail
        go_ret
        exact ⟨rfl, HB7.out⟩
      | true =>
        go_wp2_with fail
        go_ret
        exact ⟨rfl, HB7.out⟩
  | true =>
    simp only [if_true] at HPU
    go_wp2_with fail
    refine (HPU.out _ (HRM.out.below HB5.out)).mono ?_
    rintro e w6 ⟨a6, c6, rfl, hr6, hz6, hb⟩
    clear p0 p1 p2 q0 q1 q2
    have HX6 := Lib.hid (And.intro hr6 hz6)
    clear hr6 hz6
    have HC6 := Lib.hid (HC5.out.step hb)
    have HE6 := Lib.hid (HE5.out.step hb)
    have HB6 := Lib.hid (HB5.out.step hb)
    clear hb
    have p0 : w6.cell? ⟨b1, 0, none⟩ = some (.int .i64 kd) := HC6.out.at 0 _ rfl
    have p1 : w6.cell? ⟨b1, 1, none⟩ = some (.slice ai na ci) := HC6.out.at 1 _ rfl
    have p2 : w6.cell? ⟨b1, 2, none⟩ = some (.slice ac nb cc) := HC6.out.at 2 _ rfl
    have q0 : w6.cell? ⟨b2, 0, none⟩ = some (.int .i64 kd2) := HE6.out.at 0 _ rfl
    have q1 : w6.cell? ⟨b2, 1, none⟩ = some (.slice ai2 nc ci2) := HE6.out.at 1 _ rfl
    have q2 : w6.cell? ⟨b2, 2, none⟩ = some (.slice ac2 nd cc2) := HE6.out.at 2 _ rfl
    cases may2 with
    | false =>
      simp only [Bool.false_eq_true, if_false] at HPU2
      go_wp2_with fail
      refine (HPU2.out _ (HRN.out.below HB6.out)).mono ?_
      rintro e w7 ⟨rfl, hb⟩
      clear p0 p1 p2 q0 q1 q2
      have HX7 := Lib.hid (And.intro (HX6.out.1.below hb) HX6.out.2)
      have HC7 := Lib.hid (HC6.out.step hb)
      have HE7 := Lib.hid (HE6.out.step hb)
      have HB7 := Lib.hid (HB6.out.step hb)
      clear hb
      cases few with
      | false =>
        go_wp2_with fail
        go_ret
        exact ⟨rfl, HB7.out⟩
      | true =>
      cases few2 with
      | false =>
        go_wp2_with fail
        go_ret
        exact ⟨rfl, HB7.out⟩
      | true =>
      go_upto_region 8 with fail
      go_quiet (fail)
      rename_i KQ hKQ
      refine hKQ _ _ ?_
      clear hKQ KQ
      obtain ⟨wd, hwd⟩ : ∃ wd, wd = w7.drewN nq := ⟨_, rfl⟩
      rw [← hwd]
      have hbd : Below w7.heap.size w7 wd := by rw [hwd]; exact below_drewNw w7 nq
      have HBd := Lib.hid (HB7.out.step hbd)
      have HXd := Lib.hid (And.intro (HX7.out.1.below hbd) HX7.out.2)
      clear hwd hbd
      obtain ⟨i0, hi0, hz0, hz1, hz2⟩ := info_parts info_u8
      have hlx4 := HLX.out (by first | rfl | trivial)
      obtain ⟨v1, wa, hrun1, hown1, hg1⟩ := run_app (P := Try.prog) (ty := 26) Try.underlying26 hi0 hz0 hz1 hz2 rfl (World.ownsRow_nil wd wd.heap.size 5 1) HXd.out.1 HXd.out.2 (by omega) (Nat.le_refl _)
      have hba := below_own (Below.refl _ wd) (World.ownsRow_nil wd wd.heap.size 5 1) hg1 (Nat.le_refl _)
      have hbb : Below wa.heap.size wa (wa.alloc (.cells (Bs [zb]).toArray 5)) := (Below.refl _ _).alloc (Nat.le_refl _) _
      obtain ⟨v2, wc, hrun2, hown2, hg2⟩ := run_app (P := Try.prog) (ty := 26) Try.underlying26 hi0 hz0 hz1 hz2 rfl (ownsRow_below hown1 hbb) ((Cel.new wa 5 (Bs [zb])).rd (by simp)) (fun h => by cases h) (by simp; omega) (Nat.le_trans hba.size hbb.size)
      have hbc := below_own (hba.step hbb) (ownsRow_below hown1 hbb) hg2 (Nat.le_trans hba.size hbb.size)
      rw [List.nil_append, ← List.map_append, Nat.zero_add] at hown2
      have hz2' := fun a n c (h : v2 = .slice a n c) => own_none (h ▸ hown2)
      obtain ⟨a8, c8, rfl, hr8⟩ := Rd.of_own (l := X ++ [zb]) hown2
      have HR8 := Lib.hid (And.intro hr8 (hz2' a8 _ c8 rfl))
      have HRUN1 := Lib.hid hrun1
      have HRUN2 := Lib.hid hrun2
      have HB8 := Lib.hid (HBd.out.step hbc)
      have HX8 := Lib.hid (And.intro (HXd.out.1.below hbc) HXd.out.2)
      have HG8 := Lib.hid (HGE.out wc a8 _ c8 (X ++ [zb]) HR8.out.1 HR8.out.2 (by rw [List.length_singleton]; omega) (HGM.out (by first | rfl | trivial) zb))
      clear hrun1 hown1 hg1 hba hbb hrun2 hown2 hg2 hbc hz2' hr8 hi0 hz0 hz1 hz2
      have tok1 : True := trivial
      go_wp2_with (first
        | (at_builtin; have _t := tok1; refine Lib.wpList_append_run _ rfl _ _ _ _ rfl _ _ rfl rfl _ _ HRUN1.out ?_; clear tok1)
        | (at_builtin; refine Lib.wpList_append_run _ rfl _ _ _ _ rfl _ _ rfl rfl _ _ HRUN2.out ?_))
      refine HG8.out.mono ?_
      rintro e w9 ⟨rfl, hb⟩
      have HB9 := Lib.hid (HB8.out.step hb)
      have HX9 := Lib.hid (And.intro (HX8.out.1.below hb) HX8.out.2)
      clear hb HRUN1 HRUN2 HG8 HX8 HR8
      go_upto_region 11 with fail
      generalize hwn : w9.alloc (.cells _ _) = w10
      have hbn : Below w9.heap.size w9 w10 := by rw [← hwn]; exact (Below.refl _ _).alloc (Nat.le_refl _) _
      obtain ⟨b10, hbb⟩ : ∃ b, b = w9.heap.size := ⟨_, rfl⟩
      have HDb10 := Lib.hid (show Cel w10 b10 25 [.int .i64 0, .slice none 0 0, .slice none 0 0] by rw [← hwn, hbb]; exact Cel.new w9 _ _)
      rw [← hbb]
      have HB10 := Lib.hid (HB9.out.step hbn)
      have HX10 := Lib.hid (And.intro (HX9.out.1.below hbn) HX9.out.2)
      clear hwn hbn hbb
      have hlx63 : lx ≤ 9223372036854775807 := by omega
      by_cases h1 : at_ < 0
      · go_wp2_with fail
        go_ret
        exact ⟨rfl, HB10.out⟩
      by_cases h2 : (lx : Int) ≤ at_
      · have h2' : at_ ≥ (lx : Int) := h2
        go_wp2_with fail
        go_ret
        exact ⟨rfl, HB10.out⟩
      have h2' : ¬ at_ ≥ (lx : Int) := h2
      obtain ⟨k, hk⟩ : ∃ k : Nat, at_ = (k : Int) := ⟨at_.toNat, by omega⟩
      subst hk
      have hklx : k < lx := by omega
      obtain ⟨a', f1, f2, f3, f4⟩ := HX10.out.1.fr HX10.out.2 k (by omega)
      have HX11 := Lib.hid (And.intro (f3 _ HX10.out.1) (show a' = none → c6 = 0 from f4))
      have HG11 := Lib.hid (fun w' h => HGE.out w' a' k c6 (X.take k) h HX11.out.2 (by omega) (HGC.out (by first | rfl | trivial) k hklx))
      clear f3 f4
      go_wp2_with fail
      refine (HG11.out _ HX11.out.1).mono ?_
      rintro e w11 ⟨rfl, hb⟩
      have HB11 := Lib.hid (HB10.out.step hb)
      clear hb f1 f2
      go_upto_region 14 with fail
      generalize hwn : w11.alloc (.cells _ _) = w12
      have hbn : Below w11.heap.size w11 w12 := by rw [← hwn]; exact (Below.refl _ _).alloc (Nat.le_refl _) _
      obtain ⟨b12, hbb⟩ : ∃ b, b = w11.heap.size := ⟨_, rfl⟩
      have HDb12 := Lib.hid (show Cel w12 b12 25 [.int .i64 0, .slice none 0 0, .slice none 0 0] by rw [← hwn, hbb]; exact Cel.new w11 _ _)
      rw [← hbb]
      have HB12 := Lib.hid (HB11.out.step hbn)
      clear hwn hbn hbb
      go_wp2_with fail
      go_ret
      exact ⟨rfl, HB12.out⟩
    | true =>
      simp only [if_true] at HPU2
      go_wp2_with fail
      refine (HPU2.out _ (HRN.out.below HB6.out)).mono ?_
      rintro e w7 ⟨a7, c7, rfl, hr7, hz7, hb⟩
      clear p0 p1 p2 q0 q1 q2
      have HX7 := Lib.hid (And.intro (HX6.out.1.below hb) HX6.out.2)
      have HY7 := Lib.hid hr7
      clear hr7 hz7
      have HC7 := Lib.hid (HC6.out.step hb)
      have HE7 := Lib.hid (HE6.out.step hb)
      have HB7 := Lib.hid (HB6.out.step hb)
      clear hb
      cases few with
      | false =>
        go_wp2_with fail
        go_ret
        exact ⟨rfl, HB7.out⟩
      | true =>
      cases few2 with
      | false =>
        go_wp2_with fail
        go_ret
        exact ⟨rfl, HB7.out⟩
      | true =>
      by_cases hXY : X = Y
      · obtain ⟨sx, hsx⟩ : ∃ s : ByteArray, s = ⟨X.toArray⟩ := ⟨_, rfl⟩
        have HSX := Lib.hid hsx
        have HSY := Lib.hid (show sx = ⟨Y.toArray⟩ by rw [hsx, hXY])
        clear hsx
        have HSM := Lib.hid (show same = true by rw [HPL.out (by first | rfl | trivial) (by first | rfl | trivial)]; exact decide_eq_true hXY)
        obtain rfl : same = true := HSM.out
        go_upto_region 8 with fail
        have hD : ∀ j, j < 13 → ∀ n, n < 13 → j ≠ n → dkN [50, 51, 52, 53, 54, 55, 56, 57, 58, 59, 60, 61, 62] j ≠ dkN [50, 51, 52, 53, 54, 55, 56, 57, 58, 59, 60, 61, 62] n := by decide +kernel
        refine region_fun (by kernel_rfl) (by kernel_rfl) (fun gv => #[.agg #[.int .i64 kd, .slice ai na ci, .slice ac nb cc], .agg #[.int .i64 kd2, .slice ai2 nc ci2, .slice ac2 nd cc2], .int .i64 at_, .int .u8 (zb.toNat : Int), .pointer (some ⟨b1, 0, none⟩), .pointer (some ⟨b2, 0, none⟩), gv 6, gv 7, .bool false, .bool true, gv 10, gv 11, .slice a6 lx c6, .int .i64 0, .slice a7 ly c7, .int .i64 0, gv 16, gv 17, gv 18, gv 19, gv 20, gv 21, gv 22, gv 23, gv 24, gv 25, gv 26, gv 27, gv 28, gv 29, gv 30, gv 31, gv 32, gv 33, gv 34, gv 35, gv 36, gv 37, gv 38, gv 39, gv 40, gv 41, gv 42, gv 43, gv 44, gv 45, gv 46, gv 47, gv 48, gv 49, gv 50, gv 51, gv 52, gv 53, gv 54, gv 55, gv 56, gv 57, gv 58, gv 59, gv 60, gv 61, gv 62, gv 63, gv 64, gv 65, gv 66, gv 67, gv 68, gv 69, gv 70, gv 71, gv 72, gv 73, gv 74, gv 75, gv 76, gv 77, gv 78, gv 79, gv 80, gv 81, gv 82, gv 83, gv 84, gv 85, gv 86, gv 87, gv 88, gv 89, gv 90, gv 91, gv 92, gv 93, gv 94]) rfl (fun f gv wx => Below w.heap.size w wx ∧ (∀ j, j < 13 → (fun j => false) j = false → On f j → gv (dkN [50, 51, 52, 53, 54, 55, 56, 57, 58, 59, 60, 61, 62] j) = vkN [.int .i64 0, .bool true, .bool true, .slice a6 lx c6, .string sx, .slice a7 ly c7, .string sx, .bool true, .agg #[.int .i64 kd, .slice ai na ci, .slice ac nb cc], .agg #[.int .i64 kd2, .slice ai2 nc ci2, .slice ac2 nd cc2], .bool true, .bool false, .bool false] j) ∧ (Cel wx b1 25 [.int .i64 kd, .slice ai na ci, .slice ac nb cc]) ∧ (Cel wx b2 25 [.int .i64 kd2, .slice ai2 nc ci2, .slice ac2 nd cc2]) ∧ (Rd wx a6 lx c6 X) ∧ (Rd wx a7 ly c7 Y)) ?_ ?_ ?_
        · have hoff : ∀ j, ¬ On (Array.replicate 13 false) j := by
            intro j hj; simp only [On, Array.getD_eq_getD_getElem?, Array.getElem?_replicate] at hj; split at hj <;> simp at hj
          exact ⟨HB7.out.drew, fun j _ _ x => absurd x (hoff _), HC7.out, HE7.out, HX7.out.1.below (Below.refl _ _).drew, HY7.out.below (Below.refl _ _).drew⟩
        · rintro i' o' f gv wm hio hs' hn he ⟨hBx, P, CX, CY, RX, RY⟩ KK hKK
          have hi' : i' < 13 := (Array.getElem?_eq_some_iff.1 hio).1
          replace hs' : f.size = 13 := hs'
          match i', hi' with
          | 0, _ =>
            cases hio
            have off : ¬ On f 0 := on_off (by omega) hn
            have HQ := Lib.hid (And.intro P (And.intro CX (And.intro CY (And.intro RX RY))))
            clear P CX CY RX RY
            go_simp
            obtain ⟨P, CX, CY, RX, RY⟩ := HQ.out
            have bk : ∀ j, j ≠ 0 → On (f.setIfInBounds 0 true) j → On f j := fun j hj x => on_back (by omega) x hj
            have fw : ∀ j, On f j → On (f.setIfInBounds 0 true) j := fun j x => (on_put (by omega)).2 (.inr x)
            have fn : On (f.setIfInBounds 0 true) 0 := (on_put (by omega)).2 (.inl rfl)
            exact hKK (upd gv 50 (.int .i64 0)) _ (by exact ⟨hBx, vals_step (n := 0) (v := .int .i64 0) hD (by decide) (by omega) P (fun _ => rfl), CX, CY, RX, RY⟩)
          | 1, _ =>
            cases hio
            have off : ¬ On f 1 := on_off (by omega) hn
            have h0 : On f 0 := he ⟨0, .data⟩ (by simp) rfl
            have e0 : gv 50 = .int .i64 0 := P 0 (by decide) rfl h0
            rw [e0]
            have HQ := Lib.hid (And.intro P (And.intro CX (And.intro CY (And.intro RX RY))))
            clear P CX CY RX RY
            go_simp
            obtain ⟨P, CX, CY, RX, RY⟩ := HQ.out
            have bk : ∀ j, j ≠ 1 → On (f.setIfInBounds 1 true) j → On f j := fun j hj x => on_back (by omega) x hj
            have fw : ∀ j, On f j → On (f.setIfInBounds 1 true) j := fun j x => (on_put (by omega)).2 (.inr x)
            have fn : On (f.setIfInBounds 1 true) 1 := (on_put (by omega)).2 (.inl rfl)
            exact hKK (upd (upd gv 50 (.int .i64 0)) 51 (.bool true)) _ (by rw [upd_same e0]; exact ⟨hBx, vals_step (n := 1) (v := .bool true) hD (by decide) (by omega) P (fun _ => rfl), CX, CY, RX, RY⟩)
          | 2, _ =>
            cases hio
            have off : ¬ On f 2 := on_off (by omega) hn
            have h1 : On f 1 := he ⟨1, .data⟩ (by simp) rfl
            have e1 : gv 51 = .bool true := P 1 (by decide) rfl h1
            rw [e1]
            have HQ := Lib.hid (And.intro P (And.intro CX (And.intro CY (And.intro RX RY))))
            clear P CX CY RX RY
            go_simp
            obtain ⟨P, CX, CY, RX, RY⟩ := HQ.out
            have bk : ∀ j, j ≠ 2 → On (f.setIfInBounds 2 true) j → On f j := fun j hj x => on_back (by omega) x hj
            have fw : ∀ j, On f j → On (f.setIfInBounds 2 true) j := fun j x => (on_put (by omega)).2 (.inr x)
            have fn : On (f.setIfInBounds 2 true) 2 := (on_put (by omega)).2 (.inl rfl)
            exact hKK (upd (upd gv 51 (.bool true)) 52 (.bool true)) _ (by rw [upd_same e1]; exact ⟨hBx, vals_step (n := 2) (v := .bool true) hD (by decide) (by omega) P (fun _ => rfl), CX, CY, RX, RY⟩)
          | 3, _ =>
            cases hio
            have off : ¬ On f 3 := on_off (by omega) hn
            have h2 : On f 2 := he ⟨2, .guard⟩ (by simp) rfl
            have e2 : gv 52 = .bool true := P 2 (by decide) rfl h2
            rw [e2]
            rw [if_pos (by rfl)]
            have HQ := Lib.hid (And.intro P (And.intro CX (And.intro CY (And.intro RX RY))))
            clear P CX CY RX RY
            go_simp
            obtain ⟨P, CX, CY, RX, RY⟩ := HQ.out
            have bk : ∀ j, j ≠ 3 → On (f.setIfInBounds 3 true) j → On f j := fun j hj x => on_back (by omega) x hj
            have fw : ∀ j, On f j → On (f.setIfInBounds 3 true) j := fun j x => (on_put (by omega)).2 (.inr x)
            have fn : On (f.setIfInBounds 3 true) 3 := (on_put (by omega)).2 (.inl rfl)
            exact hKK (upd (upd gv 52 (.bool true)) 53 (.slice a6 lx c6)) _ (by rw [upd_same e2]; exact ⟨hBx, vals_step (n := 3) (v := .slice a6 lx c6) hD (by decide) (by omega) P (fun _ => rfl), CX, CY, RX, RY⟩)
          | 4, _ =>
            cases hio
            have off : ¬ On f 4 := on_off (by omega) hn
            have h2 : On f 2 := he ⟨2, .guard⟩ (by simp) rfl
            have e2 : gv 52 = .bool true := P 2 (by decide) rfl h2
            have h3 : On f 3 := he ⟨3, .data⟩ (by simp) rfl
            have e3 : gv 53 = .slice a6 lx c6 := P 3 (by decide) rfl h3
            have d0 : (convert 26 9 (.slice a6 lx c6)).run Try.prog wm = .ok (.string sx) wm := by rw [HSX.out]; exact RX.str (P := Try.prog) 26 5 9 Try.underlying26 Try.underlying5 Try.underlying9
            rw [e2, e3]
            rw [if_pos (by rfl)]
            have HQ := Lib.hid (And.intro P (And.intro CX (And.intro CY (And.intro RX RY))))
            clear P CX CY RX RY
            go_simp
            obtain ⟨P, CX, CY, RX, RY⟩ := HQ.out
            have bk : ∀ j, j ≠ 4 → On (f.setIfInBounds 4 true) j → On f j := fun j hj x => on_back (by omega) x hj
            have fw : ∀ j, On f j → On (f.setIfInBounds 4 true) j := fun j x => (on_put (by omega)).2 (.inr x)
            have fn : On (f.setIfInBounds 4 true) 4 := (on_put (by omega)).2 (.inl rfl)
            exact hKK (upd (upd (upd gv 52 (.bool true)) 53 (.slice a6 lx c6)) 54 (.string sx)) _ (by rw [upd_same e2]; rw [upd_same e3]; exact ⟨hBx, vals_step (n := 4) (v := .string sx) hD (by decide) (by omega) P (fun _ => rfl), CX, CY, RX, RY⟩)
          | 5, _ =>
            cases hio
            have off : ¬ On f 5 := on_off (by omega) hn
            have h2 : On f 2 := he ⟨2, .guard⟩ (by simp) rfl
            have e2 : gv 52 = .bool true := P 2 (by decide) rfl h2
            rw [e2]
            rw [if_pos (by rfl)]
            have HQ := Lib.hid (And.intro P (And.intro CX (And.intro CY (And.intro RX RY))))
            clear P CX CY RX RY
            go_simp
            obtain ⟨P, CX, CY, RX, RY⟩ := HQ.out
            have bk : ∀ j, j ≠ 5 → On (f.setIfInBounds 5 true) j → On f j := fun j hj x => on_back (by omega) x hj
            have fw : ∀ j, On f j → On (f.setIfInBounds 5 true) j := fun j x => (on_put (by omega)).2 (.inr x)
            have fn : On (f.setIfInBounds 5 true) 5 := (on_put (by omega)).2 (.inl rfl)
            exact hKK (upd (upd gv 52 (.bool true)) 55 (.slice a7 ly c7)) _ (by rw [upd_same e2]; exact ⟨hBx, vals_step (n := 5) (v := .slice a7 ly c7) hD (by decide) (by omega) P (fun _ => rfl), CX, CY, RX, RY⟩)
          | 6, _ =>
            cases hio
            have off : ¬ On f 6 := on_off (by omega) hn
            have h2 : On f 2 := he ⟨2, .guard⟩ (by simp) rfl
            have e2 : gv 52 = .bool true := P 2 (by decide) rfl h2
            have h5 : On f 5 := he ⟨5, .data⟩ (by simp) rfl
            have e5 : gv 55 = .slice a7 ly c7 := P 5 (by decide) rfl h5
            have d0 : (convert 26 9 (.slice a7 ly c7)).run Try.prog wm = .ok (.string sx) wm := by rw [HSY.out]; exact RY.str (P := Try.prog) 26 5 9 Try.underlying26 Try.underlying5 Try.underlying9
            rw [e2, e5]
            rw [if_pos (by rfl)]
            have HQ := Lib.hid (And.intro P (And.intro CX (And.intro CY (And.intro RX RY))))
            clear P CX CY RX RY
            go_simp
            obtain ⟨P, CX, CY, RX, RY⟩ := HQ.out
            have bk : ∀ j, j ≠ 6 → On (f.setIfInBounds 6 true) j → On f j := fun j hj x => on_back (by omega) x hj
            have fw : ∀ j, On f j → On (f.setIfInBounds 6 true) j := fun j x => (on_put (by omega)).2 (.inr x)
            have fn : On (f.setIfInBounds 6 true) 6 := (on_put (by omega)).2 (.inl rfl)
            exact hKK (upd (upd (upd gv 52 (.bool true)) 55 (.slice a7 ly c7)) 56 (.string sx)) _ (by rw [upd_same e2]; rw [upd_same e5]; exact ⟨hBx, vals_step (n := 6) (v := .string sx) hD (by decide) (by omega) P (fun _ => rfl), CX, CY, RX, RY⟩)
          | 7, _ =>
            cases hio
            have off : ¬ On f 7 := on_off (by omega) hn
            have h2 : On f 2 := he ⟨2, .guard⟩ (by simp) rfl
            have e2 : gv 52 = .bool true := P 2 (by decide) rfl h2
            have h4 : On f 4 := he ⟨4, .data⟩ (by simp) rfl
            have e4 : gv 54 = .string sx := P 4 (by decide) rfl h4
            have h6 : On f 6 := he ⟨6, .data⟩ (by simp) rfl
            have e6 : gv 56 = .string sx := P 6 (by decide) rfl h6
            rw [e2, e4, e6]
            rw [if_pos (by rfl)]
            have HQ := Lib.hid (And.intro P (And.intro CX (And.intro CY (And.intro RX RY))))
            clear P CX CY RX RY
            go_simp
            obtain ⟨P, CX, CY, RX, RY⟩ := HQ.out
            have bk : ∀ j, j ≠ 7 → On (f.setIfInBounds 7 true) j → On f j := fun j hj x => on_back (by omega) x hj
            have fw : ∀ j, On f j → On (f.setIfInBounds 7 true) j := fun j x => (on_put (by omega)).2 (.inr x)
            have fn : On (f.setIfInBounds 7 true) 7 := (on_put (by omega)).2 (.inl rfl)
            exact hKK (upd (upd (upd (upd gv 52 (.bool true)) 54 (.string sx)) 56 (.string sx)) 57 (.bool true)) _ (by rw [upd_same e2]; rw [upd_same e4]; rw [upd_same e6]; exact ⟨hBx, vals_step (n := 7) (v := .bool true) hD (by decide) (by omega) P (fun _ => rfl), CX, CY, RX, RY⟩)
          | 8, _ =>
            cases hio
            have off : ¬ On f 8 := on_off (by omega) hn
            have h2 : On f 2 := he ⟨2, .guard⟩ (by simp) rfl
            have e2 : gv 52 = .bool true := P 2 (by decide) rfl h2
            have d0 : wm.cell? ⟨b1, 0, none⟩ = some (.int .i64 kd) := CX.at 0 _ rfl
            have d1 : wm.cell? ⟨b1, 1, none⟩ = some (.slice ai na ci) := CX.at 1 _ rfl
            have d2 : wm.cell? ⟨b1, 2, none⟩ = some (.slice ac nb cc) := CX.at 2 _ rfl
            rw [e2]
            rw [if_pos (by rfl)]
            have HQ := Lib.hid (And.intro P (And.intro CX (And.intro CY (And.intro RX RY))))
            clear P CX CY RX RY
            go_simp
            obtain ⟨P, CX, CY, RX, RY⟩ := HQ.out
            have bk : ∀ j, j ≠ 8 → On (f.setIfInBounds 8 true) j → On f j := fun j hj x => on_back (by omega) x hj
            have fw : ∀ j, On f j → On (f.setIfInBounds 8 true) j := fun j x => (on_put (by omega)).2 (.inr x)
            have fn : On (f.setIfInBounds 8 true) 8 := (on_put (by omega)).2 (.inl rfl)
            exact hKK (upd (upd gv 52 (.bool true)) 58 (.agg #[.int .i64 kd, .slice ai na ci, .slice ac nb cc])) _ (by rw [upd_same e2]; exact ⟨hBx, vals_step (n := 8) (v := .agg #[.int .i64 kd, .slice ai na ci, .slice ac nb cc]) hD (by decide) (by omega) P (fun _ => rfl), CX, CY, RX, RY⟩)
          | 9, _ =>
            cases hio
            have off : ¬ On f 9 := on_off (by omega) hn
            have h2 : On f 2 := he ⟨2, .guard⟩ (by simp) rfl
            have e2 : gv 52 = .bool true := P 2 (by decide) rfl h2
            have d0 : wm.cell? ⟨b2, 0, none⟩ = some (.int .i64 kd2) := CY.at 0 _ rfl
            have d1 : wm.cell? ⟨b2, 1, none⟩ = some (.slice ai2 nc ci2) := CY.at 1 _ rfl
            have d2 : wm.cell? ⟨b2, 2, none⟩ = some (.slice ac2 nd cc2) := CY.at 2 _ rfl
            rw [e2]
            rw [if_pos (by rfl)]
            have HQ := Lib.hid (And.intro P (And.intro CX (And.intro CY (And.intro RX RY))))
            clear P CX CY RX RY
            go_simp
            obtain ⟨P, CX, CY, RX, RY⟩ := HQ.out
            have bk : ∀ j, j ≠ 9 → On (f.setIfInBounds 9 true) j → On f j := fun j hj x => on_back (by omega) x hj
            have fw : ∀ j, On f j → On (f.setIfInBounds 9 true) j := fun j x => (on_put (by omega)).2 (.inr x)
            have fn : On (f.setIfInBounds 9 true) 9 := (on_put (by omega)).2 (.inl rfl)
            exact hKK (upd (upd gv 52 (.bool true)) 59 (.agg #[.int .i64 kd2, .slice ai2 nc ci2, .slice ac2 nd cc2])) _ (by rw [upd_same e2]; exact ⟨hBx, vals_step (n := 9) (v := .agg #[.int .i64 kd2, .slice ai2 nc ci2, .slice ac2 nd cc2]) hD (by decide) (by omega) P (fun _ => rfl), CX, CY, RX, RY⟩)
          | 10, _ =>
            cases hio
            have off : ¬ On f 10 := on_off (by omega) hn
            have h2 : On f 2 := he ⟨2, .guard⟩ (by simp) rfl
            have e2 : gv 52 = .bool true := P 2 (by decide) rfl h2
            have h8 : On f 8 := he ⟨8, .data⟩ (by simp) rfl
            have e8 : gv 58 = .agg #[.int .i64 kd, .slice ai na ci, .slice ac nb cc] := P 8 (by decide) rfl h8
            have h9 : On f 9 := he ⟨9, .data⟩ (by simp) rfl
            have e9 : gv 59 = .agg #[.int .i64 kd2, .slice ai2 nc ci2, .slice ac2 nd cc2] := P 9 (by decide) rfl h9
            have hbm := hBx
            rw [e2, e8, e9]
            rw [if_pos (by rfl)]
            have HQ := Lib.hid (And.intro P (And.intro CX (And.intro CY (And.intro RX RY))))
            clear P CX CY RX RY
            go_simp
            refine (HSA.out _ (HRM.out.below hbm) (HRN.out.below hbm)).mono ?_
            rintro e w6 ⟨rfl, hb⟩
            obtain ⟨P, CX, CY, RX, RY⟩ := HQ.out
            have bk : ∀ j, j ≠ 10 → On (f.setIfInBounds 10 true) j → On f j := fun j hj x => on_back (by omega) x hj
            have fw : ∀ j, On f j → On (f.setIfInBounds 10 true) j := fun j x => (on_put (by omega)).2 (.inr x)
            have fn : On (f.setIfInBounds 10 true) 10 := (on_put (by omega)).2 (.inl rfl)
            exact hKK (upd (upd (upd (upd gv 52 (.bool true)) 58 (.agg #[.int .i64 kd, .slice ai na ci, .slice ac nb cc])) 59 (.agg #[.int .i64 kd2, .slice ai2 nc ci2, .slice ac2 nd cc2])) 60 (.bool true)) _ (by rw [upd_same e2]; rw [upd_same e8]; rw [upd_same e9]; exact ⟨hBx.step hb, vals_step (n := 10) (v := .bool true) hD (by decide) (by omega) P (fun _ => rfl), CX.step hb, CY.step hb, RX.below hb, RY.below hb⟩)
          | 11, _ =>
            cases hio
            have off : ¬ On f 11 := on_off (by omega) hn
            have h2 : On f 2 := he ⟨2, .guard⟩ (by simp) rfl
            have e2 : gv 52 = .bool true := P 2 (by decide) rfl h2
            have h7 : On f 7 := he ⟨7, .data⟩ (by simp) rfl
            have e7 : gv 57 = .bool true := P 7 (by decide) rfl h7
            have h10 : On f 10 := he ⟨10, .data⟩ (by simp) rfl
            have e10 : gv 60 = .bool true := P 10 (by decide) rfl h10
            rw [e2, e7, e10]
            rw [if_pos (by rfl)]
            have HQ := Lib.hid (And.intro P (And.intro CX (And.intro CY (And.intro RX RY))))
            clear P CX CY RX RY
            go_simp
            obtain ⟨P, CX, CY, RX, RY⟩ := HQ.out
            have bk : ∀ j, j ≠ 11 → On (f.setIfInBounds 11 true) j → On f j := fun j hj x => on_back (by omega) x hj
            have fw : ∀ j, On f j → On (f.setIfInBounds 11 true) j := fun j x => (on_put (by omega)).2 (.inr x)
            have fn : On (f.setIfInBounds 11 true) 11 := (on_put (by omega)).2 (.inl rfl)
            exact hKK (upd (upd (upd (upd gv 52 (.bool true)) 57 (.bool true)) 60 (.bool true)) 61 (.bool false)) _ (by rw [upd_same e2]; rw [upd_same e7]; rw [upd_same e10]; exact ⟨hBx, vals_step (n := 11) (v := .bool false) hD (by decide) (by omega) P (fun _ => rfl), CX, CY, RX, RY⟩)
          | 12, _ =>
            cases hio
            have off : ¬ On f 12 := on_off (by omega) hn
            have h2 : On f 2 := he ⟨2, .data⟩ (by simp) rfl
            have e2 : gv 52 = .bool true := P 2 (by decide) rfl h2
            have h11 : On f 11 := he ⟨11, .data⟩ (by simp) rfl
            have e11 : gv 61 = .bool false := P 11 (by decide) rfl h11
            rw [e2, e11]
            have HQ := Lib.hid (And.intro P (And.intro CX (And.intro CY (And.intro RX RY))))
            clear P CX CY RX RY
            go_simp
            obtain ⟨P, CX, CY, RX, RY⟩ := HQ.out
            have bk : ∀ j, j ≠ 12 → On (f.setIfInBounds 12 true) j → On f j := fun j hj x => on_back (by omega) x hj
            have fw : ∀ j, On f j → On (f.setIfInBounds 12 true) j := fun j x => (on_put (by omega)).2 (.inr x)
            have fn : On (f.setIfInBounds 12 true) 12 := (on_put (by omega)).2 (.inl rfl)
            exact hKK (upd (upd (upd gv 52 (.bool true)) 61 (.bool false)) 62 (.bool false)) _ (by rw [upd_same e2]; rw [upd_same e11]; exact ⟨hBx, vals_step (n := 12) (v := .bool false) hD (by decide) (by omega) P (fun _ => rfl), CX, CY, RX, RY⟩)
        · rintro f gv w5 hall hs' ⟨hBx, P, CX, CY, RX, RY⟩
          replace hs' : f.size = 13 := hs'
          have on : ∀ j, j < 13 → On f j := fun j hj => on_all hall hs' j hj
          have e62 : gv 62 = .bool false := P 12 (by decide) rfl (on 12 (by decide))
          rw [e62]
          have HBr := Lib.hid hBx
          have HXr := Lib.hid (And.intro RX HX7.out.2)
          clear P CX CY RX RY hBx hall hs' on hD e62
          obtain ⟨i0, hi0, hz0, hz1, hz2⟩ := info_parts info_u8
          have hlx4 := HLX.out (by first | rfl | trivial)
          obtain ⟨v1, wa, hrun1, hown1, hg1⟩ := run_app (P := Try.prog) (ty := 26) Try.underlying26 hi0 hz0 hz1 hz2 rfl (World.ownsRow_nil w5 w5.heap.size 5 1) HXr.out.1 HXr.out.2 (by omega) (Nat.le_refl _)
          have hba := below_own (Below.refl _ w5) (World.ownsRow_nil w5 w5.heap.size 5 1) hg1 (Nat.le_refl _)
          have hbb : Below wa.heap.size wa (wa.alloc (.cells (Bs [zb]).toArray 5)) := (Below.refl _ _).alloc (Nat.le_refl _) _
          obtain ⟨v2, wc, hrun2, hown2, hg2⟩ := run_app (P := Try.prog) (ty := 26) Try.underlying26 hi0 hz0 hz1 hz2 rfl (ownsRow_below hown1 hbb) ((Cel.new wa 5 (Bs [zb])).rd (by simp)) (fun h => by cases h) (by simp; omega) (Nat.le_trans hba.size hbb.size)
          have hbc := below_own (hba.step hbb) (ownsRow_below hown1 hbb) hg2 (Nat.le_trans hba.size hbb.size)
          rw [List.nil_append, ← List.map_append, Nat.zero_add] at hown2
          have hz2' := fun a n c (h : v2 = .slice a n c) => own_none (h ▸ hown2)
          obtain ⟨a8, c8, rfl, hr8⟩ := Rd.of_own (l := X ++ [zb]) hown2
          have HR8 := Lib.hid (And.intro hr8 (hz2' a8 _ c8 rfl))
          have HRUN1 := Lib.hid hrun1
          have HRUN2 := Lib.hid hrun2
          have HB8 := Lib.hid (HBr.out.step hbc)
          have HX8 := Lib.hid (And.intro (HXr.out.1.below hbc) HXr.out.2)
          have HG8 := Lib.hid (HGE.out wc a8 _ c8 (X ++ [zb]) HR8.out.1 HR8.out.2 (by rw [List.length_singleton]; omega) (HGM.out (by first | rfl | trivial) zb))
          clear hrun1 hown1 hg1 hba hbb hrun2 hown2 hg2 hbc hz2' hr8 hi0 hz0 hz1 hz2
          have tok1 : True := trivial
          go_wp2_with (first
            | (at_builtin; have _t := tok1; refine Lib.wpList_append_run _ rfl _ _ _ _ rfl _ _ rfl rfl _ _ HRUN1.out ?_; clear tok1)
            | (at_builtin; refine Lib.wpList_append_run _ rfl _ _ _ _ rfl _ _ rfl rfl _ _ HRUN2.out ?_))
          refine HG8.out.mono ?_
          rintro e w9 ⟨rfl, hb⟩
          have HB9 := Lib.hid (HB8.out.step hb)
          have HX9 := Lib.hid (And.intro (HX8.out.1.below hb) HX8.out.2)
          clear hb HRUN1 HRUN2 HG8 HX8 HR8
          go_upto_region 11 with fail
          generalize hwn : w9.alloc (.cells _ _) = w10
          have hbn : Below w9.heap.size w9 w10 := by rw [← hwn]; exact (Below.refl _ _).alloc (Nat.le_refl _) _
          obtain ⟨b10, hbb⟩ : ∃ b, b = w9.heap.size := ⟨_, rfl⟩
          have HDb10 := Lib.hid (show Cel w10 b10 25 [.int .i64 0, .slice none 0 0, .slice none 0 0] by rw [← hwn, hbb]; exact Cel.new w9 _ _)
          rw [← hbb]
          have HB10 := Lib.hid (HB9.out.step hbn)
          have HX10 := Lib.hid (And.intro (HX9.out.1.below hbn) HX9.out.2)
          clear hwn hbn hbb
          have hlx63 : lx ≤ 9223372036854775807 := by omega
          by_cases h1 : at_ < 0
          · go_wp2_with fail
            go_ret
            exact ⟨rfl, HB10.out⟩
          by_cases h2 : (lx : Int) ≤ at_
          · have h2' : at_ ≥ (lx : Int) := h2
            go_wp2_with fail
            go_ret
            exact ⟨rfl, HB10.out⟩
          have h2' : ¬ at_ ≥ (lx : Int) := h2
          obtain ⟨k, hk⟩ : ∃ k : Nat, at_ = (k : Int) := ⟨at_.toNat, by omega⟩
          subst hk
          have hklx : k < lx := by omega
          obtain ⟨a', f1, f2, f3, f4⟩ := HX10.out.1.fr HX10.out.2 k (by omega)
          have HX11 := Lib.hid (And.intro (f3 _ HX10.out.1) (show a' = none → c6 = 0 from f4))
          have HG11 := Lib.hid (fun w' h => HGE.out w' a' k c6 (X.take k) h HX11.out.2 (by omega) (HGC.out (by first | rfl | trivial) k hklx))
          clear f3 f4
          go_wp2_with fail
          refine (HG11.out _ HX11.out.1).mono ?_
          rintro e w11 ⟨rfl, hb⟩
          have HB11 := Lib.hid (HB10.out.step hb)
          clear hb f1 f2
          go_upto_region 14 with fail
          generalize hwn : w11.alloc (.cells _ _) = w12
          have hbn : Below w11.heap.size w11 w12 := by rw [← hwn]; exact (Below.refl _ _).alloc (Nat.le_refl _) _
          obtain ⟨b12, hbb⟩ : ∃ b, b = w11.heap.size := ⟨_, rfl⟩
          have HDb12 := Lib.hid (show Cel w12 b12 25 [.int .i64 0, .slice none 0 0, .slice none 0 0] by rw [← hwn, hbb]; exact Cel.new w11 _ _)
          rw [← hbb]
          have HB12 := Lib.hid (HB11.out.step hbn)
          clear hwn hbn hbb
          go_wp2_with fail
          go_ret
          exact ⟨rfl, HB12.out⟩
      · obtain ⟨sx, hsx⟩ : ∃ s : ByteArray, s = ⟨X.toArray⟩ := ⟨_, rfl⟩
        obtain ⟨sy, hsy⟩ : ∃ s : ByteArray, s = ⟨Y.toArray⟩ := ⟨_, rfl⟩
        have hn1 : ¬ sx.data = sy.data := by rw [hsx, hsy]; intro h; exact hXY (by simpa using congrArg Array.toList h)
        have hn2 : (sx.data == sy.data) = false := by simpa using hn1
        have hn3 : ¬ sx = sy := fun h => hn1 (by rw [h])
        have hn5 : (sx.toList == sy.toList) = false := by rw [hsx, hsy, Lib.toList_data, Lib.toList_data]; simpa using hXY
        have HSX := Lib.hid hsx
        have HSY := Lib.hid hsy
        clear hsx hsy
        have HSM := Lib.hid (show same = false by rw [HPL.out (by first | rfl | trivial) (by first | rfl | trivial)]; exact decide_eq_false hXY)
        obtain rfl : same = false := HSM.out
        go_upto_region 8 with fail
        have hD : ∀ j, j < 13 → ∀ n, n < 13 → j ≠ n → dkN [50, 51, 52, 53, 54, 55, 56, 57, 58, 59, 60, 61, 62] j ≠ dkN [50, 51, 52, 53, 54, 55, 56, 57, 58, 59, 60, 61, 62] n := by decide +kernel
        refine region_fun (by kernel_rfl) (by kernel_rfl) (fun gv => #[.agg #[.int .i64 kd, .slice ai na ci, .slice ac nb cc], .agg #[.int .i64 kd2, .slice ai2 nc ci2, .slice ac2 nd cc2], .int .i64 at_, .int .u8 (zb.toNat : Int), .pointer (some ⟨b1, 0, none⟩), .pointer (some ⟨b2, 0, none⟩), gv 6, gv 7, .bool false, .bool true, gv 10, gv 11, .slice a6 lx c6, .int .i64 0, .slice a7 ly c7, .int .i64 0, gv 16, gv 17, gv 18, gv 19, gv 20, gv 21, gv 22, gv 23, gv 24, gv 25, gv 26, gv 27, gv 28, gv 29, gv 30, gv 31, gv 32, gv 33, gv 34, gv 35, gv 36, gv 37, gv 38, gv 39, gv 40, gv 41, gv 42, gv 43, gv 44, gv 45, gv 46, gv 47, gv 48, gv 49, gv 50, gv 51, gv 52, gv 53, gv 54, gv 55, gv 56, gv 57, gv 58, gv 59, gv 60, gv 61, gv 62, gv 63, gv 64, gv 65, gv 66, gv 67, gv 68, gv 69, gv 70, gv 71, gv 72, gv 73, gv 74, gv 75, gv 76, gv 77, gv 78, gv 79, gv 80, gv 81, gv 82, gv 83, gv 84, gv 85, gv 86, gv 87, gv 88, gv 89, gv 90, gv 91, gv 92, gv 93, gv 94]) rfl (fun f gv wx => Below w.heap.size w wx ∧ (∀ j, j < 13 → (fun j => false) j = false → On f j → gv (dkN [50, 51, 52, 53, 54, 55, 56, 57, 58, 59, 60, 61, 62] j) = vkN [.int .i64 0, .bool true, .bool true, .slice a6 lx c6, .string sx, .slice a7 ly c7, .string sy, .bool false, .agg #[.int .i64 kd, .slice ai na ci, .slice ac nb cc], .agg #[.int .i64 kd2, .slice ai2 nc ci2, .slice ac2 nd cc2], .bool false, .bool false, .bool false] j) ∧ (Cel wx b1 25 [.int .i64 kd, .slice ai na ci, .slice ac nb cc]) ∧ (Cel wx b2 25 [.int .i64 kd2, .slice ai2 nc ci2, .slice ac2 nd cc2]) ∧ (Rd wx a6 lx c6 X) ∧ (Rd wx a7 ly c7 Y)) ?_ ?_ ?_
        · have hoff : ∀ j, ¬ On (Array.replicate 13 false) j := by
            intro j hj; simp only [On, Array.getD_eq_getD_getElem?, Array.getElem?_replicate] at hj; split at hj <;> simp at hj
          exact ⟨HB7.out.drew, fun j _ _ x => absurd x (hoff _), HC7.out, HE7.out, HX7.out.1.below (Below.refl _ _).drew, HY7.out.below (Below.refl _ _).drew⟩
        · rintro i' o' f gv wm hio hs' hn he ⟨hBx, P, CX, CY, RX, RY⟩ KK hKK
          have hi' : i' < 13 := (Array.getElem?_eq_some_iff.1 hio).1
          replace hs' : f.size = 13 := hs'
          match i', hi' with
          | 0, _ =>
            cases hio
            have off : ¬ On f 0 := on_off (by omega) hn
            have HQ := Lib.hid (And.intro P (And.intro CX (And.intro CY (And.intro RX RY))))
            clear P CX CY RX RY
            go_simp
            obtain ⟨P, CX, CY, RX, RY⟩ := HQ.out
            have bk : ∀ j, j ≠ 0 → On (f.setIfInBounds 0 true) j → On f j := fun j hj x => on_back (by omega) x hj
            have fw : ∀ j, On f j → On (f.setIfInBounds 0 true) j := fun j x => (on_put (by omega)).2 (.inr x)
            have fn : On (f.setIfInBounds 0 true) 0 := (on_put (by omega)).2 (.inl rfl)
            exact hKK (upd gv 50 (.int .i64 0)) _ (by exact ⟨hBx, vals_step (n := 0) (v := .int .i64 0) hD (by decide) (by omega) P (fun _ => rfl), CX, CY, RX, RY⟩)
          | 1, _ =>
            cases hio
            have off : ¬ On f 1 := on_off (by omega) hn
            have h0 : On f 0 := he ⟨0, .data⟩ (by simp) rfl
            have e0 : gv 50 = .int .i64 0 := P 0 (by decide) rfl h0
            rw [e0]
            have HQ := Lib.hid (And.intro P (And.intro CX (And.intro CY (And.intro RX RY))))
            clear P CX CY RX RY
            go_simp
            obtain ⟨P, CX, CY, RX, RY⟩ := HQ.out
            have bk : ∀ j, j ≠ 1 → On (f.setIfInBounds 1 true) j → On f j := fun j hj x => on_back (by omega) x hj
            have fw : ∀ j, On f j → On (f.setIfInBounds 1 true) j := fun j x => (on_put (by omega)).2 (.inr x)
            have fn : On (f.setIfInBounds 1 true) 1 := (on_put (by omega)).2 (.inl rfl)
            exact hKK (upd (upd gv 50 (.int .i64 0)) 51 (.bool true)) _ (by rw [upd_same e0]; exact ⟨hBx, vals_step (n := 1) (v := .bool true) hD (by decide) (by omega) P (fun _ => rfl), CX, CY, RX, RY⟩)
          | 2, _ =>
            cases hio
            have off : ¬ On f 2 := on_off (by omega) hn
            have h1 : On f 1 := he ⟨1, .data⟩ (by simp) rfl
            have e1 : gv 51 = .bool true := P 1 (by decide) rfl h1
            rw [e1]
            have HQ := Lib.hid (And.intro P (And.intro CX (And.intro CY (And.intro RX RY))))
            clear P CX CY RX RY
            go_simp
            obtain ⟨P, CX, CY, RX, RY⟩ := HQ.out
            have bk : ∀ j, j ≠ 2 → On (f.setIfInBounds 2 true) j → On f j := fun j hj x => on_back (by omega) x hj
            have fw : ∀ j, On f j → On (f.setIfInBounds 2 true) j := fun j x => (on_put (by omega)).2 (.inr x)
            have fn : On (f.setIfInBounds 2 true) 2 := (on_put (by omega)).2 (.inl rfl)
            exact hKK (upd (upd gv 51 (.bool true)) 52 (.bool true)) _ (by rw [upd_same e1]; exact ⟨hBx, vals_step (n := 2) (v := .bool true) hD (by decide) (by omega) P (fun _ => rfl), CX, CY, RX, RY⟩)
          | 3, _ =>
            cases hio
            have off : ¬ On f 3 := on_off (by omega) hn
            have h2 : On f 2 := he ⟨2, .guard⟩ (by simp) rfl
            have e2 : gv 52 = .bool true := P 2 (by decide) rfl h2
            rw [e2]
            rw [if_pos (by rfl)]
            have HQ := Lib.hid (And.intro P (And.intro CX (And.intro CY (And.intro RX RY))))
            clear P CX CY RX RY
            go_simp
            obtain ⟨P, CX, CY, RX, RY⟩ := HQ.out
            have bk : ∀ j, j ≠ 3 → On (f.setIfInBounds 3 true) j → On f j := fun j hj x => on_back (by omega) x hj
            have fw : ∀ j, On f j → On (f.setIfInBounds 3 true) j := fun j x => (on_put (by omega)).2 (.inr x)
            have fn : On (f.setIfInBounds 3 true) 3 := (on_put (by omega)).2 (.inl rfl)
            exact hKK (upd (upd gv 52 (.bool true)) 53 (.slice a6 lx c6)) _ (by rw [upd_same e2]; exact ⟨hBx, vals_step (n := 3) (v := .slice a6 lx c6) hD (by decide) (by omega) P (fun _ => rfl), CX, CY, RX, RY⟩)
          | 4, _ =>
            cases hio
            have off : ¬ On f 4 := on_off (by omega) hn
            have h2 : On f 2 := he ⟨2, .guard⟩ (by simp) rfl
            have e2 : gv 52 = .bool true := P 2 (by decide) rfl h2
            have h3 : On f 3 := he ⟨3, .data⟩ (by simp) rfl
            have e3 : gv 53 = .slice a6 lx c6 := P 3 (by decide) rfl h3
            have d0 : (convert 26 9 (.slice a6 lx c6)).run Try.prog wm = .ok (.string sx) wm := by rw [HSX.out]; exact RX.str (P := Try.prog) 26 5 9 Try.underlying26 Try.underlying5 Try.underlying9
            rw [e2, e3]
            rw [if_pos (by rfl)]
            have HQ := Lib.hid (And.intro P (And.intro CX (And.intro CY (And.intro RX RY))))
            clear P CX CY RX RY
            go_simp
            obtain ⟨P, CX, CY, RX, RY⟩ := HQ.out
            have bk : ∀ j, j ≠ 4 → On (f.setIfInBounds 4 true) j → On f j := fun j hj x => on_back (by omega) x hj
            have fw : ∀ j, On f j → On (f.setIfInBounds 4 true) j := fun j x => (on_put (by omega)).2 (.inr x)
            have fn : On (f.setIfInBounds 4 true) 4 := (on_put (by omega)).2 (.inl rfl)
            exact hKK (upd (upd (upd gv 52 (.bool true)) 53 (.slice a6 lx c6)) 54 (.string sx)) _ (by rw [upd_same e2]; rw [upd_same e3]; exact ⟨hBx, vals_step (n := 4) (v := .string sx) hD (by decide) (by omega) P (fun _ => rfl), CX, CY, RX, RY⟩)
          | 5, _ =>
            cases hio
            have off : ¬ On f 5 := on_off (by omega) hn
            have h2 : On f 2 := he ⟨2, .guard⟩ (by simp) rfl
            have e2 : gv 52 = .bool true := P 2 (by decide) rfl h2
            rw [e2]
            rw [if_pos (by rfl)]
            have HQ := Lib.hid (And.intro P (And.intro CX (And.intro CY (And.intro RX RY))))
            clear P CX CY RX RY
            go_simp
            obtain ⟨P, CX, CY, RX, RY⟩ := HQ.out
            have bk : ∀ j, j ≠ 5 → On (f.setIfInBounds 5 true) j → On f j := fun j hj x => on_back (by omega) x hj
            have fw : ∀ j, On f j → On (f.setIfInBounds 5 true) j := fun j x => (on_put (by omega)).2 (.inr x)
            have fn : On (f.setIfInBounds 5 true) 5 := (on_put (by omega)).2 (.inl rfl)
            exact hKK (upd (upd gv 52 (.bool true)) 55 (.slice a7 ly c7)) _ (by rw [upd_same e2]; exact ⟨hBx, vals_step (n := 5) (v := .slice a7 ly c7) hD (by decide) (by omega) P (fun _ => rfl), CX, CY, RX, RY⟩)
          | 6, _ =>
            cases hio
            have off : ¬ On f 6 := on_off (by omega) hn
            have h2 : On f 2 := he ⟨2, .guard⟩ (by simp) rfl
            have e2 : gv 52 = .bool true := P 2 (by decide) rfl h2
            have h5 : On f 5 := he ⟨5, .data⟩ (by simp) rfl
            have e5 : gv 55 = .slice a7 ly c7 := P 5 (by decide) rfl h5
            have d0 : (convert 26 9 (.slice a7 ly c7)).run Try.prog wm = .ok (.string sy) wm := by rw [HSY.out]; exact RY.str (P := Try.prog) 26 5 9 Try.underlying26 Try.underlying5 Try.underlying9
            rw [e2, e5]
            rw [if_pos (by rfl)]
            have HQ := Lib.hid (And.intro P (And.intro CX (And.intro CY (And.intro RX RY))))
            clear P CX CY RX RY
            go_simp
            obtain ⟨P, CX, CY, RX, RY⟩ := HQ.out
            have bk : ∀ j, j ≠ 6 → On (f.setIfInBounds 6 true) j → On f j := fun j hj x => on_back (by omega) x hj
            have fw : ∀ j, On f j → On (f.setIfInBounds 6 true) j := fun j x => (on_put (by omega)).2 (.inr x)
            have fn : On (f.setIfInBounds 6 true) 6 := (on_put (by omega)).2 (.inl rfl)
            exact hKK (upd (upd (upd gv 52 (.bool true)) 55 (.slice a7 ly c7)) 56 (.string sy)) _ (by rw [upd_same e2]; rw [upd_same e5]; exact ⟨hBx, vals_step (n := 6) (v := .string sy) hD (by decide) (by omega) P (fun _ => rfl), CX, CY, RX, RY⟩)
          | 7, _ =>
            cases hio
            have off : ¬ On f 7 := on_off (by omega) hn
            have h2 : On f 2 := he ⟨2, .guard⟩ (by simp) rfl
            have e2 : gv 52 = .bool true := P 2 (by decide) rfl h2
            have h4 : On f 4 := he ⟨4, .data⟩ (by simp) rfl
            have e4 : gv 54 = .string sx := P 4 (by decide) rfl h4
            have h6 : On f 6 := he ⟨6, .data⟩ (by simp) rfl
            have e6 : gv 56 = .string sy := P 6 (by decide) rfl h6
            rw [e2, e4, e6]
            rw [if_pos (by rfl)]
            have HQ := Lib.hid (And.intro P (And.intro CX (And.intro CY (And.intro RX RY))))
            clear P CX CY RX RY
            go_simp
            obtain ⟨P, CX, CY, RX, RY⟩ := HQ.out
            have bk : ∀ j, j ≠ 7 → On (f.setIfInBounds 7 true) j → On f j := fun j hj x => on_back (by omega) x hj
            have fw : ∀ j, On f j → On (f.setIfInBounds 7 true) j := fun j x => (on_put (by omega)).2 (.inr x)
            have fn : On (f.setIfInBounds 7 true) 7 := (on_put (by omega)).2 (.inl rfl)
            exact hKK (upd (upd (upd (upd gv 52 (.bool true)) 54 (.string sx)) 56 (.string sy)) 57 (.bool false)) _ (by rw [upd_same e2]; rw [upd_same e4]; rw [upd_same e6]; exact ⟨hBx, vals_step (n := 7) (v := .bool false) hD (by decide) (by omega) P (fun _ => rfl), CX, CY, RX, RY⟩)
          | 8, _ =>
            cases hio
            have off : ¬ On f 8 := on_off (by omega) hn
            have h2 : On f 2 := he ⟨2, .guard⟩ (by simp) rfl
            have e2 : gv 52 = .bool true := P 2 (by decide) rfl h2
            have d0 : wm.cell? ⟨b1, 0, none⟩ = some (.int .i64 kd) := CX.at 0 _ rfl
            have d1 : wm.cell? ⟨b1, 1, none⟩ = some (.slice ai na ci) := CX.at 1 _ rfl
            have d2 : wm.cell? ⟨b1, 2, none⟩ = some (.slice ac nb cc) := CX.at 2 _ rfl
            rw [e2]
            rw [if_pos (by rfl)]
            have HQ := Lib.hid (And.intro P (And.intro CX (And.intro CY (And.intro RX RY))))
            clear P CX CY RX RY
            go_simp
            obtain ⟨P, CX, CY, RX, RY⟩ := HQ.out
            have bk : ∀ j, j ≠ 8 → On (f.setIfInBounds 8 true) j → On f j := fun j hj x => on_back (by omega) x hj
            have fw : ∀ j, On f j → On (f.setIfInBounds 8 true) j := fun j x => (on_put (by omega)).2 (.inr x)
            have fn : On (f.setIfInBounds 8 true) 8 := (on_put (by omega)).2 (.inl rfl)
            exact hKK (upd (upd gv 52 (.bool true)) 58 (.agg #[.int .i64 kd, .slice ai na ci, .slice ac nb cc])) _ (by rw [upd_same e2]; exact ⟨hBx, vals_step (n := 8) (v := .agg #[.int .i64 kd, .slice ai na ci, .slice ac nb cc]) hD (by decide) (by omega) P (fun _ => rfl), CX, CY, RX, RY⟩)
          | 9, _ =>
            cases hio
            have off : ¬ On f 9 := on_off (by omega) hn
            have h2 : On f 2 := he ⟨2, .guard⟩ (by simp) rfl
            have e2 : gv 52 = .bool true := P 2 (by decide) rfl h2
            have d0 : wm.cell? ⟨b2, 0, none⟩ = some (.int .i64 kd2) := CY.at 0 _ rfl
            have d1 : wm.cell? ⟨b2, 1, none⟩ = some (.slice ai2 nc ci2) := CY.at 1 _ rfl
            have d2 : wm.cell? ⟨b2, 2, none⟩ = some (.slice ac2 nd cc2) := CY.at 2 _ rfl
            rw [e2]
            rw [if_pos (by rfl)]
            have HQ := Lib.hid (And.intro P (And.intro CX (And.intro CY (And.intro RX RY))))
            clear P CX CY RX RY
            go_simp
            obtain ⟨P, CX, CY, RX, RY⟩ := HQ.out
            have bk : ∀ j, j ≠ 9 → On (f.setIfInBounds 9 true) j → On f j := fun j hj x => on_back (by omega) x hj
            have fw : ∀ j, On f j → On (f.setIfInBounds 9 true) j := fun j x => (on_put (by omega)).2 (.inr x)
            have fn : On (f.setIfInBounds 9 true) 9 := (on_put (by omega)).2 (.inl rfl)
            exact hKK (upd (upd gv 52 (.bool true)) 59 (.agg #[.int .i64 kd2, .slice ai2 nc ci2, .slice ac2 nd cc2])) _ (by rw [upd_same e2]; exact ⟨hBx, vals_step (n := 9) (v := .agg #[.int .i64 kd2, .slice ai2 nc ci2, .slice ac2 nd cc2]) hD (by decide) (by omega) P (fun _ => rfl), CX, CY, RX, RY⟩)
          | 10, _ =>
            cases hio
            have off : ¬ On f 10 := on_off (by omega) hn
            have h2 : On f 2 := he ⟨2, .guard⟩ (by simp) rfl
            have e2 : gv 52 = .bool true := P 2 (by decide) rfl h2
            have h8 : On f 8 := he ⟨8, .data⟩ (by simp) rfl
            have e8 : gv 58 = .agg #[.int .i64 kd, .slice ai na ci, .slice ac nb cc] := P 8 (by decide) rfl h8
            have h9 : On f 9 := he ⟨9, .data⟩ (by simp) rfl
            have e9 : gv 59 = .agg #[.int .i64 kd2, .slice ai2 nc ci2, .slice ac2 nd cc2] := P 9 (by decide) rfl h9
            have hbm := hBx
            rw [e2, e8, e9]
            rw [if_pos (by rfl)]
            have HQ := Lib.hid (And.intro P (And.intro CX (And.intro CY (And.intro RX RY))))
            clear P CX CY RX RY
            go_simp
            refine (HSA.out _ (HRM.out.below hbm) (HRN.out.below hbm)).mono ?_
            rintro e w6 ⟨rfl, hb⟩
            obtain ⟨P, CX, CY, RX, RY⟩ := HQ.out
            have bk : ∀ j, j ≠ 10 → On (f.setIfInBounds 10 true) j → On f j := fun j hj x => on_back (by omega) x hj
            have fw : ∀ j, On f j → On (f.setIfInBounds 10 true) j := fun j x => (on_put (by omega)).2 (.inr x)
            have fn : On (f.setIfInBounds 10 true) 10 := (on_put (by omega)).2 (.inl rfl)
            exact hKK (upd (upd (upd (upd gv 52 (.bool true)) 58 (.agg #[.int .i64 kd, .slice ai na ci, .slice ac nb cc])) 59 (.agg #[.int .i64 kd2, .slice ai2 nc ci2, .slice ac2 nd cc2])) 60 (.bool false)) _ (by rw [upd_same e2]; rw [upd_same e8]; rw [upd_same e9]; exact ⟨hBx.step hb, vals_step (n := 10) (v := .bool false) hD (by decide) (by omega) P (fun _ => rfl), CX.step hb, CY.step hb, RX.below hb, RY.below hb⟩)
          | 11, _ =>
            cases hio
            have off : ¬ On f 11 := on_off (by omega) hn
            have h2 : On f 2 := he ⟨2, .guard⟩ (by simp) rfl
            have e2 : gv 52 = .bool true := P 2 (by decide) rfl h2
            have h7 : On f 7 := he ⟨7, .data⟩ (by simp) rfl
            have e7 : gv 57 = .bool false := P 7 (by decide) rfl h7
            have h10 : On f 10 := he ⟨10, .data⟩ (by simp) rfl
            have e10 : gv 60 = .bool false := P 10 (by decide) rfl h10
            rw [e2, e7, e10]
            rw [if_pos (by rfl)]
            have HQ := Lib.hid (And.intro P (And.intro CX (And.intro CY (And.intro RX RY))))
            clear P CX CY RX RY
            go_simp
            obtain ⟨P, CX, CY, RX, RY⟩ := HQ.out
            have bk : ∀ j, j ≠ 11 → On (f.setIfInBounds 11 true) j → On f j := fun j hj x => on_back (by omega) x hj
            have fw : ∀ j, On f j → On (f.setIfInBounds 11 true) j := fun j x => (on_put (by omega)).2 (.inr x)
            have fn : On (f.setIfInBounds 11 true) 11 := (on_put (by omega)).2 (.inl rfl)
            exact hKK (upd (upd (upd (upd gv 52 (.bool true)) 57 (.bool false)) 60 (.bool false)) 61 (.bool false)) _ (by rw [upd_same e2]; rw [upd_same e7]; rw [upd_same e10]; exact ⟨hBx, vals_step (n := 11) (v := .bool false) hD (by decide) (by omega) P (fun _ => rfl), CX, CY, RX, RY⟩)
          | 12, _ =>
            cases hio
            have off : ¬ On f 12 := on_off (by omega) hn
            have h2 : On f 2 := he ⟨2, .data⟩ (by simp) rfl
            have e2 : gv 52 = .bool true := P 2 (by decide) rfl h2
            have h11 : On f 11 := he ⟨11, .data⟩ (by simp) rfl
            have e11 : gv 61 = .bool false := P 11 (by decide) rfl h11
            rw [e2, e11]
            have HQ := Lib.hid (And.intro P (And.intro CX (And.intro CY (And.intro RX RY))))
            clear P CX CY RX RY
            go_simp
            obtain ⟨P, CX, CY, RX, RY⟩ := HQ.out
            have bk : ∀ j, j ≠ 12 → On (f.setIfInBounds 12 true) j → On f j := fun j hj x => on_back (by omega) x hj
            have fw : ∀ j, On f j → On (f.setIfInBounds 12 true) j := fun j x => (on_put (by omega)).2 (.inr x)
            have fn : On (f.setIfInBounds 12 true) 12 := (on_put (by omega)).2 (.inl rfl)
            exact hKK (upd (upd (upd gv 52 (.bool true)) 61 (.bool false)) 62 (.bool false)) _ (by rw [upd_same e2]; rw [upd_same e11]; exact ⟨hBx, vals_step (n := 12) (v := .bool false) hD (by decide) (by omega) P (fun _ => rfl), CX, CY, RX, RY⟩)
        · rintro f gv w5 hall hs' ⟨hBx, P, CX, CY, RX, RY⟩
          replace hs' : f.size = 13 := hs'
          have on : ∀ j, j < 13 → On f j := fun j hj => on_all hall hs' j hj
          have e62 : gv 62 = .bool false := P 12 (by decide) rfl (on 12 (by decide))
          rw [e62]
          have HBr := Lib.hid hBx
          have HXr := Lib.hid (And.intro RX HX7.out.2)
          clear P CX CY RX RY hBx hall hs' on hD e62
          obtain ⟨i0, hi0, hz0, hz1, hz2⟩ := info_parts info_u8
          have hlx4 := HLX.out (by first | rfl | trivial)
          obtain ⟨v1, wa, hrun1, hown1, hg1⟩ := run_app (P := Try.prog) (ty := 26) Try.underlying26 hi0 hz0 hz1 hz2 rfl (World.ownsRow_nil w5 w5.heap.size 5 1) HXr.out.1 HXr.out.2 (by omega) (Nat.le_refl _)
          have hba := below_own (Below.refl _ w5) (World.ownsRow_nil w5 w5.heap.size 5 1) hg1 (Nat.le_refl _)
          have hbb : Below wa.heap.size wa (wa.alloc (.cells (Bs [zb]).toArray 5)) := (Below.refl _ _).alloc (Nat.le_refl _) _
          obtain ⟨v2, wc, hrun2, hown2, hg2⟩ := run_app (P := Try.prog) (ty := 26) Try.underlying26 hi0 hz0 hz1 hz2 rfl (ownsRow_below hown1 hbb) ((Cel.new wa 5 (Bs [zb])).rd (by simp)) (fun h => by cases h) (by simp; omega) (Nat.le_trans hba.size hbb.size)
          have hbc := below_own (hba.step hbb) (ownsRow_below hown1 hbb) hg2 (Nat.le_trans hba.size hbb.size)
          rw [List.nil_append, ← List.map_append, Nat.zero_add] at hown2
          have hz2' := fun a n c (h : v2 = .slice a n c) => own_none (h ▸ hown2)
          obtain ⟨a8, c8, rfl, hr8⟩ := Rd.of_own (l := X ++ [zb]) hown2
          have HR8 := Lib.hid (And.intro hr8 (hz2' a8 _ c8 rfl))
          have HRUN1 := Lib.hid hrun1
          have HRUN2 := Lib.hid hrun2
          have HB8 := Lib.hid (HBr.out.step hbc)
          have HX8 := Lib.hid (And.intro (HXr.out.1.below hbc) HXr.out.2)
          have HG8 := Lib.hid (HGE.out wc a8 _ c8 (X ++ [zb]) HR8.out.1 HR8.out.2 (by rw [List.length_singleton]; omega) (HGM.out (by first | rfl | trivial) zb))
          clear hrun1 hown1 hg1 hba hbb hrun2 hown2 hg2 hbc hz2' hr8 hi0 hz0 hz1 hz2
          have tok1 : True := trivial
          go_wp2_with (first
            | (at_builtin; have _t := tok1; refine Lib.wpList_append_run _ rfl _ _ _ _ rfl _ _ rfl rfl _ _ HRUN1.out ?_; clear tok1)
            | (at_builtin; refine Lib.wpList_append_run _ rfl _ _ _ _ rfl _ _ rfl rfl _ _ HRUN2.out ?_))
          refine HG8.out.mono ?_
          rintro e w9 ⟨rfl, hb⟩
          have HB9 := Lib.hid (HB8.out.step hb)
          have HX9 := Lib.hid (And.intro (HX8.out.1.below hb) HX8.out.2)
          clear hb HRUN1 HRUN2 HG8 HX8 HR8
          go_upto_region 11 with fail
          generalize hwn : w9.alloc (.cells _ _) = w10
          have hbn : Below w9.heap.size w9 w10 := by rw [← hwn]; exact (Below.refl _ _).alloc (Nat.le_refl _) _
          obtain ⟨b10, hbb⟩ : ∃ b, b = w9.heap.size := ⟨_, rfl⟩
          have HDb10 := Lib.hid (show Cel w10 b10 25 [.int .i64 0, .slice none 0 0, .slice none 0 0] by rw [← hwn, hbb]; exact Cel.new w9 _ _)
          rw [← hbb]
          have HB10 := Lib.hid (HB9.out.step hbn)
          have HX10 := Lib.hid (And.intro (HX9.out.1.below hbn) HX9.out.2)
          clear hwn hbn hbb
          have hlx63 : lx ≤ 9223372036854775807 := by omega
          by_cases h1 : at_ < 0
          · go_wp2_with fail
            go_ret
            exact ⟨rfl, HB10.out⟩
          by_cases h2 : (lx : Int) ≤ at_
          · have h2' : at_ ≥ (lx : Int) := h2
            go_wp2_with fail
            go_ret
            exact ⟨rfl, HB10.out⟩
          have h2' : ¬ at_ ≥ (lx : Int) := h2
          obtain ⟨k, hk⟩ : ∃ k : Nat, at_ = (k : Int) := ⟨at_.toNat, by omega⟩
          subst hk
          have hklx : k < lx := by omega
          obtain ⟨a', f1, f2, f3, f4⟩ := HX10.out.1.fr HX10.out.2 k (by omega)
          have HX11 := Lib.hid (And.intro (f3 _ HX10.out.1) (show a' = none → c6 = 0 from f4))
          have HG11 := Lib.hid (fun w' h => HGE.out w' a' k c6 (X.take k) h HX11.out.2 (by omega) (HGC.out (by first | rfl | trivial) k hklx))
          clear f3 f4
          go_wp2_with fail
          refine (HG11.out _ HX11.out.1).mono ?_
          rintro e w11 ⟨rfl, hb⟩
          have HB11 := Lib.hid (HB10.out.step hb)
          clear hb f1 f2
          go_upto_region 14 with fail
          generalize hwn : w11.alloc (.cells _ _) = w12
          have hbn : Below w11.heap.size w11 w12 := by rw [← hwn]; exact (Below.refl _ _).alloc (Nat.le_refl _) _
          obtain ⟨b12, hbb⟩ : ∃ b, b = w11.heap.size := ⟨_, rfl⟩
          have HDb12 := Lib.hid (show Cel w12 b12 25 [.int .i64 0, .slice none 0 0, .slice none 0 0] by rw [← hwn, hbb]; exact Cel.new w11 _ _)
          rw [← hbb]
          have HB12 := Lib.hid (HB11.out.step hbn)
          clear hwn hbn hbb
          go_wp2_with fail
          go_ret
          exact ⟨rfl, HB12.out⟩
end Go.Proofs.Ytofadpodlaakbaa
