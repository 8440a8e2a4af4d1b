/- The statements EncMost, EncBack and EncOnly, walked out of the contracts of what they call. -/
import Derived.Test.YtdckonfcdflmdaaEncLaws
namespace Go.Proofs.Ytdckonfcdflmdaa
open Go.ChangeShapes Go.WideShapes Go.ChangeAt Go.RowKit
set_option linter.unusedVariables false

theorem own_none {w : World} {base n c : Nat} {e : TypeId} {a : Option Addr} {xs : List Value} (h : w.ownsRow base e 1 (.slice a n c) n xs) : a = none → c = 0 := by
  intro ha
  subst ha
  rcases h.2 with ⟨h, _⟩ | ⟨g, cap, cur, h, _⟩
  · cases h; rfl
  · cases h
theorem text_list (l : List UInt8) (w : World) (h : l.length ≤ 140737488351232) : Calls Try.prog 17 #[.string ⟨l.toArray⟩] w (OwnB (txtL l) w) :=
  text_any ⟨l.toArray⟩ w (by show l.toArray.size ≤ _; simpa using h)

theorem getL_txt (a r : List UInt8) (ha : a.length < 18446744073709551616) : getL (txtL a ++ r) = (a.length, (numL a.length).length) := by
  unfold txtL; rw [List.append_assoc]; exact getL_put _ ha _
theorem cut_txt_is (a r : List UInt8) (most : Int) (ha : a.length < 18446744073709551616) : cutIs (txtL a ++ r) most = decide ((a.length : Int) ≤ most) := by
  unfold cutIs
  rw [getL_txt a r ha, Bool.eq_iff_iff, decide_eq_true_eq, decide_eq_true_eq]
  have := numL_pos a.length
  have hl : (txtL a ++ r).length = (numL a.length).length + a.length + r.length := by unfold txtL; simp; omega
  rw [hl]; simp only; omega
theorem cut_txt_T (a r : List UInt8) (most : Int) (ha : a.length < 18446744073709551616) (h : (a.length : Int) ≤ most) : cutT (txtL a ++ r) most = a := by
  unfold cutT; rw [cut_txt_is a r most ha, if_pos (decide_eq_true h), getL_txt a r ha]
  unfold txtL; simp
theorem cut_txt_R (a r : List UInt8) (most : Int) (ha : a.length < 18446744073709551616) (h : (a.length : Int) ≤ most) : cutR (txtL a ++ r) most = r := by
  unfold cutR; rw [cut_txt_is a r most ha, if_pos (decide_eq_true h), getL_txt a r ha]
  unfold txtL; simp
theorem cut_txt_no (a r : List UInt8) (most : Int) (ha : a.length < 18446744073709551616) (h : ¬ (a.length : Int) ≤ most) : cutT (txtL a ++ r) most = [] ∧ cutR (txtL a ++ r) most = [] := by
  unfold cutT cutR; rw [cut_txt_is a r most ha, decide_eq_false h]; simp
theorem numL_inj {N M : Nat} (hN : N < 18446744073709551616) (hM : M < 18446744073709551616) (h : numL N = numL M) : N = M := by
  have h1 := getL_put N hN []
  have h2 := getL_put M hM []
  rw [h, h2] at h1
  exact (congrArg Prod.fst h1).symm
theorem txtL_inj {a b : List UInt8} (ha : a.length < 18446744073709551616) (hb : b.length < 18446744073709551616) (h : txtL a = txtL b) : a = b := by
  have h1 := cut_txt_T a [] 18446744073709551616 ha (by omega)
  have h2 := cut_txt_T b [] 18446744073709551616 hb (by omega)
  rw [h, h2] at h1
  exact h1.symm
theorem getL_front (N : Nat) : getL ((numL N).take ((numL N).length - 1)) = (0, 0) := by
  refine getL_no _ fun i h1 h2 => ?_
  rw [List.length_take] at h1
  rw [getD_take _ _ _ (by omega)]
  have := numL_bytes (N + 1) N (by omega) i (by omega)
  omega

set_option maxRecDepth 100000 in
set_option maxHeartbeats 2000000 in
theorem encMost_walk (la lb : List UInt8) (most : Int) (m0 : -9223372036854775808 ≤ most) (m1 : most ≤ 9223372036854775807) (ha : la.length ≤ 9223372036854775807) (hb : lb.length ≤ 9223372036854775807) (w : World) :
    Calls Try.prog 8 #[.string ⟨la.toArray⟩, .string ⟨lb.toArray⟩, .int .i64 most] w fun e w' => e = .returned (.bool true) ∧ Below w.heap.size w w' := by
  obtain ⟨i0, hi, hz0, hz1, hz2⟩ := info_parts info_u8
  have hsa : (ByteArray.mk la.toArray).size = la.length := by show la.toArray.size = _; simp
  have hsb : (ByteArray.mk lb.toArray).size = lb.length := by show lb.toArray.size = _; simp
  have htl := toList_bytes
  by_cases hla : 300 < la.length
  · have hl2 : 300 < (la.length : Int) := by omega
    go_enter Try.func8, Try.ntmps8
    go_wp2_with fail
    refine (awake_any _).mono ?_
    rintro e v1 ⟨rfl, hb1⟩
    go_wp2_with fail
    go_ret
    exact ⟨rfl, hb1⟩
  by_cases hlb : 300 < lb.length
  · have hl2 : 300 < (lb.length : Int) := by omega
    have hl1 : (la.length : Int) ≤ 300 := by omega
    go_enter Try.func8, Try.ntmps8
    go_wp2_with fail
    refine (awake_any _).mono ?_
    rintro e v1 ⟨rfl, hb1⟩
    go_wp2_with fail
    go_ret
    exact ⟨rfl, hb1⟩
  have hna := numL_le10 la.length (by omega)
  have hnb := numL_le10 lb.length (by omega)
  have hta : (txtL la).length ≤ 310 := by unfold txtL; simp; omega
  have htb : (txtL lb).length ≤ 310 := by unfold txtL; simp; omega
  have HI := Lib.hid (cut_txt_is la (txtL lb) most (by omega))
  have HI2 := Lib.hid (cut_txt_is lb [] 300 (by omega))
  have HT2 := Lib.hid (cut_txt_T lb [] 300 (by omega) (by omega))
  have HR2 := Lib.hid (cut_txt_R lb [] 300 (by omega) (by omega))
  have hl1 : (la.length : Int) ≤ 300 := by omega
  have hl2 : (lb.length : Int) ≤ 300 := by omega
  clear hna hnb
  by_cases hm : (la.length : Int) ≤ most
  · have HT := Lib.hid (cut_txt_T la (txtL lb) most (by omega) hm)
    have HR := Lib.hid (cut_txt_R la (txtL lb) most (by omega) hm)
    have hd : decide ((la.length : Int) ≤ most) = true := decide_eq_true hm
    have hd2 : decide ((lb.length : Int) ≤ 300) = true := decide_eq_true hl2
    go_enter Try.func8, Try.ntmps8
    go_wp2_with fail
    refine (awake_any _).mono ?_
    rintro e v1 ⟨rfl, hb1⟩
    go_wp2_with fail
    refine (text_list la _ (by omega)).mono ?_
    rintro e v2 ⟨u2, rfl, hown2, hb2⟩
    go_wp2_with fail
    refine (text_list lb _ (by omega)).mono ?_
    rintro e v3 ⟨u3, rfl, hown3, hb3⟩
    obtain ⟨a3, c3, rfl, hr3⟩ := Rd.of_own hown3
    have hac3 : a3 = none → c3 = 0 := own_none hown3
    obtain ⟨u4, v4, hrun, hown4, hgr⟩ := run_app (P := Try.prog) (ty := 24) Try.underlying24 hi hz0 hz1 hz2 rfl (ownsRow_mono (ownsRow_below hown2 hb3) (Below.step hb1 (Below.refl _ v1)).size) hr3 hac3 (by omega) (Below.step (Below.step hb1 hb2) hb3).size
    have hb4 := below_own (Below.step (Below.step hb1 hb2) hb3) (ownsRow_mono (ownsRow_below hown2 hb3) hb1.size) hgr (Below.step (Below.step hb1 hb2) hb3).size
    rw [← List.map_append] at hown4
    have HRUN := Lib.hid hrun
    clear hrun hgr hown2 hown3 hr3 hac3 hb1 hb2 hb3
    go_wp2_with (at_builtin; refine Lib.wpList_append_run _ rfl _ _ _ _ rfl _ _ rfl rfl _ _ HRUN.out ?_)
    obtain ⟨a4, c4, rfl, hr4⟩ := Rd.of_own (by rw [← List.length_append] at hown4; exact hown4)
    refine (cut_any _ _ _ _ most _ hr4 (by simp; omega) m0 m1).mono ?_
    rintro e v5 ⟨u5, rfl, hown5, hb5⟩
    rw [HT.out, HI.out, hd]
    rw [HR.out] at hown5
    obtain ⟨a5, c5, rfl, hr5⟩ := Rd.of_own hown5
    have hr5' : Rd v5 a5 (txtL lb).length c5 (txtL lb ++ []) := by simpa using hr5
    have hbx := hb4.trans (hb5.mono hb4.size)
    clear hr4 hown4 hown5 HRUN hr5 hb4 hb5
    go_wp2_with fail
    refine (cut_any _ _ _ _ 300 _ hr5' (by omega) (by decide) (by decide)).mono ?_
    rintro e v6 ⟨u6, rfl, hown6, hb6⟩
    rw [HT2.out, HI2.out, hd2]
    rw [HR2.out] at hown6
    obtain ⟨a6, c6, rfl, hr6⟩ := Rd.of_own hown6
    clear hr5' hown6 hr6
    go_wp2
    go_ret
    exact ⟨rfl, hbx.trans (hb6.mono hbx.size)⟩
  · have HT := Lib.hid (cut_txt_no la (txtL lb) most (by omega) hm)
    have hd : decide ((la.length : Int) ≤ most) = false := decide_eq_false hm
    go_enter Try.func8, Try.ntmps8
    go_wp2_with fail
    refine (awake_any _).mono ?_
    rintro e v1 ⟨rfl, hb1⟩
    go_wp2_with fail
    refine (text_list la _ (by omega)).mono ?_
    rintro e v2 ⟨u2, rfl, hown2, hb2⟩
    go_wp2_with fail
    refine (text_list lb _ (by omega)).mono ?_
    rintro e v3 ⟨u3, rfl, hown3, hb3⟩
    obtain ⟨a3, c3, rfl, hr3⟩ := Rd.of_own hown3
    have hac3 : a3 = none → c3 = 0 := own_none hown3
    obtain ⟨u4, v4, hrun, hown4, hgr⟩ := run_app (P := Try.prog) (ty := 24) Try.underlying24 hi hz0 hz1 hz2 rfl (ownsRow_mono (ownsRow_below hown2 hb3) (Below.step hb1 (Below.refl _ v1)).size) hr3 hac3 (by omega) (Below.step (Below.step hb1 hb2) hb3).size
    have hb4 := below_own (Below.step (Below.step hb1 hb2) hb3) (ownsRow_mono (ownsRow_below hown2 hb3) hb1.size) hgr (Below.step (Below.step hb1 hb2) hb3).size
    rw [← List.map_append] at hown4
    have HRUN := Lib.hid hrun
    clear hrun hgr hown2 hown3 hr3 hac3 hb1 hb2 hb3
    go_wp2_with (at_builtin; refine Lib.wpList_append_run _ rfl _ _ _ _ rfl _ _ rfl rfl _ _ HRUN.out ?_)
    obtain ⟨a4, c4, rfl, hr4⟩ := Rd.of_own (by rw [← List.length_append] at hown4; exact hown4)
    refine (cut_any _ _ _ _ most _ hr4 (by simp; omega) m0 m1).mono ?_
    rintro e v5 ⟨u5, rfl, hown5, hb5⟩
    rw [HT.out.1, HI.out, hd]
    rw [HT.out.2] at hown5
    obtain ⟨a5, c5, rfl, hr5⟩ := Rd.of_own hown5
    have hbx := hb4.trans (hb5.mono hb4.size)
    clear hr4 hown4 hown5 HRUN hr5 hb4 hb5
    go_wp2
    go_ret
    exact ⟨rfl, hbx⟩
end Go.Proofs.Ytdckonfcdflmdaa
