/- The statement EncBack, walked out of the contracts of what it calls. -/
import Derived.Test.YtdckonfcdflmdaaEncLaws4
import Derived.Test.YtdckonfcdflmdaaRg
namespace Go.Proofs.Ytdckonfcdflmdaa
open Go.ChangeShapes Go.WideShapes Go.ChangeAt Go.RowKit
set_option linter.unusedVariables false

/-- 'append(append([]byte(nil), x...), b...)': two runs, each in the world that the one ahead of it leaves. -/
theorem run_app2 {w : World} {i0 : TypeInfo} {z0 : Value} (hi : Try.prog.info? 5 = some i0) (hz0 : i0.zero = some z0) (hz1 : i0.size = 1) (hz2 : i0.bytes = 1) (hzs : z0.cells.size = 1)
    {a m c : _} {l : List UInt8} (hr : Rd w a m c l) (hac : a = none → c = 0) {a' m' c' : _} {l' : List UInt8} (hr' : Rd w a' m' c' l') (hac' : a' = none → c' = 0) (hm : m + m' ≤ 1000) :
    ∃ v1 w1 v2 w2, (Builtin.append_ #[24, 24] 24 #[.slice none 0 0, .slice a m c]).run Try.prog w = .ok v1 w1 ∧
      (Builtin.append_ #[24, 24] 24 #[v1, .slice a' m' c']).run Try.prog w1 = .ok v2 w2 ∧
      w2.ownsRow w.heap.size 5 1 v2 (m + m') ((l ++ l').map B) ∧ Below w.heap.size w w2 := by
  obtain ⟨v1, w1, h1, o1, g1⟩ := run_app (P := Try.prog) (ty := 24) Try.underlying24 hi hz0 hz1 hz2 hzs (World.ownsRow_nil w w.heap.size 5 1) hr hac (by omega) (Nat.le_refl _)
  have b1 := below_own (Below.refl _ w) (World.ownsRow_nil w w.heap.size 5 1) g1 (Nat.le_refl _)
  obtain ⟨v2, w2, h2, o2, g2⟩ := run_app (P := Try.prog) (ty := 24) Try.underlying24 hi hz0 hz1 hz2 hzs o1 (hr'.below b1) hac' (by omega) b1.size
  refine ⟨v1, w1, v2, w2, h1, h2, ?_, below_own b1 o1 g2 b1.size⟩
  rw [List.map_append]
  simpa using o2

set_option maxRecDepth 100000 in
set_option maxHeartbeats 4000000 in
theorem encBack_walk (N : Nat) (ls : List UInt8) (a2 : Option Addr) (n2 c2 : Nat) (lb : List UInt8) (hN : N < 18446744073709551616) (hs : ls.length ≤ 9223372036854775807) (w : World) (hr : Rd w a2 n2 c2 lb) (hac : a2 = none → c2 = 0) :
    Calls Try.prog 5 #[.int .u64 (N : Int), .string ⟨ls.toArray⟩, .slice a2 n2 c2] w fun e w' => e = .returned (.bool true) ∧ Below w.heap.size w w' := by
  obtain ⟨i0, hi, hz0, hz1, hz2⟩ := info_parts info_u8
  have hss : (ByteArray.mk ls.toArray).size = ls.length := by show ls.toArray.size = _; simp
  have htl := toList_bytes
  have hn2 : n2 ≤ 9223372036854775807 := Nat.le_trans hr.le hr.cap
  by_cases hls : 300 < ls.length
  · have hl2 : 300 < (ls.length : Int) := by omega
    clear hr hi hz0 hz1 hz2
    go_enter Try.func5, Try.ntmps5
    go_wp2_with fail
    refine (awake_any _).mono ?_
    rintro e v1 ⟨rfl, hb1⟩
    go_wp2_with fail
    go_ret
    exact ⟨rfl, hb1⟩
  by_cases hlb : 300 < n2
  · have hl2 : 300 < (n2 : Int) := by omega
    have hl1 : ¬ 300 < (ls.length : Int) := by omega
    clear hr hi hz0 hz1 hz2
    go_enter Try.func5, Try.ntmps5
    go_wp2_with fail
    refine (awake_any _).mono ?_
    rintro e v1 ⟨rfl, hb1⟩
    go_wp2_with fail
    go_ret
    exact ⟨rfl, hb1⟩
  have hl1 : ¬ 300 < (ls.length : Int) := by omega
  have hl2 : ¬ 300 < (n2 : Int) := by omega
  have hlen := hr.len
  have hna := numL_le10 ls.length (by omega)
  have hnn := numL_le10 N hN
  have hta : (txtL ls).length ≤ 310 := by unfold txtL; simp; omega
  have HG := Lib.hid (getL_put N hN lb)
  have HI := Lib.hid (show cutIs (txtL ls ++ lb) 300 = true by rw [cut_txt_is ls lb 300 (by omega)]; exact decide_eq_true (by omega))
  have HT := Lib.hid (cut_txt_T ls lb 300 (by omega) (by omega))
  have HR := Lib.hid (cut_txt_R ls lb 300 (by omega) (by omega))
  obtain ⟨g1, g2, hg⟩ : ∃ g1 g2, getL lb = (g1, g2) := ⟨_, _, rfl⟩
  have hg2 : g2 ≤ n2 := by have := getL_le lb; rw [hg] at this; omega
  have hg3 : g2 ≤ 10 := by have := getL_le10 lb; rw [hg] at this; exact this
  have HGB := Lib.hid hg
  have HGG := Lib.hid (fun h : g2 ≠ 0 => getL_got hg h)
  clear hg hna
  have d1 : ¬ (g2 : Int) < 0 := by omega
  have d2 : ¬ (n2 : Int) < (g2 : Int) := by omega
  have d3 : ¬ (10 : Int) < (g2 : Int) := by omega
  have D := Lib.hid (show (¬ (g2 : Int) < 0) ∧ (¬ (n2 : Int) < (g2 : Int)) ∧ (¬ (10 : Int) < (g2 : Int)) from ⟨d1, d2, d3⟩)
  clear d1 d2 d3
  go_enter Try.func5, Try.ntmps5
  go_wp2_with fail
  refine (awake_any _).mono ?_
  rintro e v1 ⟨rfl, hb1⟩
  go_wp2_with fail
  refine (num_any N hN _).mono ?_
  rintro e v2 ⟨u2, rfl, hown2, hb2⟩
  obtain ⟨a3, c3, rfl, hr3⟩ := Rd.of_own hown2
  have hac3 : a3 = none → c3 = 0 := own_none hown2
  have hb12 := Below.step hb1 hb2
  obtain ⟨x1, y1, x2, y2, hrun1, hrun2, hown4, hb4⟩ := run_app2 hi hz0 hz1 hz2 rfl hr3 hac3 (hr.below hb12) hac (by omega)
  rw [show (numL N).length + n2 = (numL N ++ lb).length by rw [List.length_append, hlen]] at hown4
  have HRUN1 := Lib.hid hrun1
  have HRUN2 := Lib.hid hrun2
  have HB4 := Lib.hid (Below.step hb12 hb4)
  have HR4 := Lib.hid (hr.below (Below.step hb12 hb4))
  clear hrun1 hrun2 hb1 hb2 hb12 hb4 hown2 hr3 hac3
  have tok1 : True := trivial
  go_wp2_with (first
    | (at_builtin; have _t := tok1; refine Lib.wpList_append_run _ rfl _ _ _ _ rfl _ _ rfl rfl _ _ HRUN1.out ?_; clear tok1)
    | (at_builtin; refine Lib.wpList_append_run _ rfl _ _ _ _ rfl _ _ rfl rfl _ _ HRUN2.out ?_))
  obtain ⟨a4, c4, rfl, hr4⟩ := Rd.of_own hown4
  refine (get_any _ _ _ _ _ hr4 (by simp; omega)).mono ?_
  rintro e v5 ⟨rfl, rfl⟩
  rw [HG.out]
  clear HRUN1 HRUN2 hr4 hown4 HG
  go_wp2_with fail
  refine (text_list ls _ (by omega)).mono ?_
  rintro e v6 ⟨u6, rfl, hown6, hb6⟩
  obtain ⟨a6, c6, rfl, hr6⟩ := Rd.of_own hown6
  have hac6 : a6 = none → c6 = 0 := own_none hown6
  obtain ⟨x3, y3, x4, y4, hrun1, hrun2, hown7, hb7⟩ := run_app2 hi hz0 hz1 hz2 rfl hr6 hac6 (HR4.out.below hb6) hac (by omega)
  rw [show (txtL ls).length + n2 = (txtL ls ++ lb).length by rw [List.length_append, hlen]] at hown7
  have HRUN1 := Lib.hid hrun1
  have HRUN2 := Lib.hid hrun2
  have HB7 := Lib.hid (Below.step HB4.out (Below.step hb6 hb7))
  have HR7 := Lib.hid (HR4.out.below (Below.step hb6 hb7))
  clear hrun1 hrun2 hb6 hb7 hown6 hr6 hac6 HB4 HR4
  have tok1 : True := trivial
  go_wp2_with (first
    | (at_builtin; have _t := tok1; refine Lib.wpList_append_run _ rfl _ _ _ _ rfl _ _ rfl rfl _ _ HRUN1.out ?_; clear tok1)
    | (at_builtin; refine Lib.wpList_append_run _ rfl _ _ _ _ rfl _ _ rfl rfl _ _ HRUN2.out ?_))
  obtain ⟨a7, c7, rfl, hr7⟩ := Rd.of_own hown7
  refine (cut_any _ _ _ _ 300 _ hr7 (by simp; omega) (by decide) (by decide)).mono ?_
  rintro e v8 ⟨u8, rfl, hown8, hb8⟩
  rw [HT.out, HI.out]
  rw [HR.out] at hown8
  obtain ⟨a8, c8, rfl, hr8⟩ := Rd.of_own hown8

  have hrb := HR7.out.below hb8
  have hsr : (convert 24 9 (.slice a8 lb.length c8)).run Try.prog v8 = .ok (.string ⟨lb.toArray⟩) v8 := hr8.str (P := Try.prog) 24 5 9 Try.underlying24 Try.underlying5 Try.underlying9
  have hsb : (convert 24 9 (.slice a2 n2 c2)).run Try.prog v8 = .ok (.string ⟨lb.toArray⟩) v8 := hrb.str (P := Try.prog) 24 5 9 Try.underlying24 Try.underlying5 Try.underlying9
  have hsrd : (convert 24 9 (.slice a8 lb.length c8)).run Try.prog v8.drew = .ok (.string ⟨lb.toArray⟩) v8.drew := (hr8.below ((Below.refl _ v8).drew)).str (P := Try.prog) 24 5 9 Try.underlying24 Try.underlying5 Try.underlying9
  have hsbd : (convert 24 9 (.slice a2 n2 c2)).run Try.prog v8.drew = .ok (.string ⟨lb.toArray⟩) v8.drew := (hrb.below ((Below.refl _ v8).drew)).str (P := Try.prog) 24 5 9 Try.underlying24 Try.underlying5 Try.underlying9
  have HB8 := Lib.hid (Below.step HB7.out hb8)
  have HRB := Lib.hid hrb
  clear HRUN1 HRUN2 hr7 hown7 hown8 hr8 hrb HT HI HR HR7 HB7 hb8
  clear hta hnn hlen hl1 hl2 hi hz0 hz1 hz2 hlb hls hss
  go_wp2_with fail
  clear hsr hsb hsrd hsbd
  refine (get_any a2 n2 c2 lb _ (by first | exact HRB.out | exact HRB.out.below ((Below.refl _ _).drew)) (by omega)).mono ?_
  rintro e v9 ⟨rfl, rfl⟩
  rw [HGB.out]
  obtain ⟨d1, d2, d3⟩ := D.out
  by_cases hz : g2 = 0
  · subst hz
    clear D HGG
    go_wp2_with fail
    go_quiet (fail)
    go_wp2
    go_ret
    exact ⟨rfl, below_drewN HB8.out _⟩
  · obtain ⟨t1, t2, t3, t4⟩ := HGG.out hz
    have hz' : ((g2 : Int) == 0) = false := by rw [beq_eq_false_iff_ne]; omega
    rcases HRB.out.cells with h0 | ⟨b, off, rfl, _⟩
    · omega
    have hc := HRB.out.le
    have hrf := (HRB.out.below ((Below.refl _ v8).drew)).front g2 hg2
    obtain ⟨lf, hlf⟩ : ∃ lf, lf = lb.take g2 := ⟨_, rfl⟩
    have CG := Lib.hid (fun w => num_any g1 t3 w)
    rw [t1, ← hlf] at CG
    rw [← hlf] at hrf
    have hsf : (convert 24 9 (.slice (some ⟨b, off, none⟩) g2 c2)).run Try.prog v8.drew = .ok (.string ⟨lf.toArray⟩) v8.drew := hrf.str (P := Try.prog) 24 5 9 Try.underlying24 Try.underlying5 Try.underlying9
    have HF := Lib.hid hrf
    have j1 : (g2 : Int) ≤ (c2 : Int) := by omega
    clear t1 t2 t3 t4 HGG D HGB hac hrf hs hr hc hN hlf
    go_wp2_with fail
    clear d1 d2 d3 hg2 hg3 hn2
    refine wp_region_any (by kernel_rfl) ?_
    try (change wpAny _ _ _ _ _ _ _ (World.drew _))
    refine take_at 0 90 (v := ?_) rfl rfl (by kernel_rfl) (by kernel_rfl) (by kernel_rfl) (fun _ _ _ h => h) (Or.inl ⟨by rfl, ?_⟩) ?_
    rotate_left
    · (intro w; go_simp; all_goals (with_reducible rfl))
    simp only [List.setIfInBounds_toArray, List.set_cons_zero, List.set_cons_succ]
    refine take_at 1 91 (v := ?_) rfl rfl (by kernel_rfl) (by kernel_rfl) (by kernel_rfl) (fun _ _ _ h => h) (Or.inl ⟨by rfl, ?_⟩) ?_
    rotate_left
    · (intro w; go_simp; all_goals (with_reducible rfl))
    simp only [List.setIfInBounds_toArray, List.set_cons_zero, List.set_cons_succ]
    refine take_at 2 92 (v := ?_) rfl rfl (by kernel_rfl) (by kernel_rfl) (by kernel_rfl) (fun _ _ _ h => h) (Or.inl ⟨by rfl, ?_⟩) ?_
    rotate_left
    · (intro w; go_simp; all_goals (with_reducible rfl))
    simp only [List.setIfInBounds_toArray, List.set_cons_zero, List.set_cons_succ]
    refine take_at 3 93 (v := ?_) rfl rfl (by kernel_rfl) (by kernel_rfl) (by kernel_rfl) (fun _ _ _ h => h) (Or.inl ⟨by rfl, ?_⟩) ?_
    rotate_left
    · (intro w; go_simp; all_goals (with_reducible rfl))
    simp only [List.setIfInBounds_toArray, List.set_cons_zero, List.set_cons_succ]
    refine take_at 6 96 (v := ?_) rfl rfl (by kernel_rfl) (by kernel_rfl) (by kernel_rfl) (fun _ _ _ h => h) (Or.inl ⟨by rfl, ?_⟩) ?_
    rotate_left
    · (intro w; go_simp; all_goals (with_reducible rfl))
    simp only [List.setIfInBounds_toArray, List.set_cons_zero, List.set_cons_succ]
    refine take_at 7 97 (v := ?_) rfl rfl (by kernel_rfl) (by kernel_rfl) (by kernel_rfl) (fun _ _ _ h => h) (Or.inl ⟨by rfl, ?_⟩) ?_
    rotate_left
    · (intro w; go_simp; all_goals (with_reducible rfl))
    simp only [List.setIfInBounds_toArray, List.set_cons_zero, List.set_cons_succ]
    refine take_at 8 98 (v := ?_) rfl rfl (by kernel_rfl) (by kernel_rfl) (by kernel_rfl) (fun _ _ _ h => h) (Or.inl ⟨by rfl, ?_⟩) ?_
    rotate_left
    · (intro w; go_simp; all_goals (with_reducible rfl))
    simp only [List.setIfInBounds_toArray, List.set_cons_zero, List.set_cons_succ]
    refine wpAny_ready (rs := [4, 9]) (by kernel_rfl) (by simp) ?_
    refine AllReady.cons rfl (fun K hK => ?_) ?_
    · go_simp
      go_wp2_with ((go_at_call 11; refine (CG.out _).mono ?_; rintro e v10 ⟨u10, rfl, hown10, hb10⟩; have hs10 := str_own hown10; have hsf2 : (convert 24 9 (.slice (some ⟨b, off, none⟩) g2 c2)).run Try.prog v10 = .ok (.string ⟨lf.toArray⟩) v10 := (HF.out.below hb10).str (P := Try.prog) 24 5 9 Try.underlying24 Try.underlying5 Try.underlying9))
      first | (refine hK _ _ ?_; clear hK K) | skip
      try simp only [List.setIfInBounds_toArray, List.set_cons_zero, List.set_cons_succ]
      refine wpAny_ready (rs := [5, 9]) (by kernel_rfl) (by simp) ?_
      refine AllReady.cons rfl (fun K hK => ?_) ?_
      · go_simp
        first | (refine hK _ _ ?_; clear hK K) | skip
        try simp only [List.setIfInBounds_toArray, List.set_cons_zero, List.set_cons_succ]
        refine wpAny_ready (rs := [9]) (by kernel_rfl) (by simp) ?_
        refine AllReady.cons rfl (fun K hK => ?_) ?_
        · go_simp
          first | (refine hK _ _ ?_; clear hK K) | skip
          try simp only [List.setIfInBounds_toArray, List.set_cons_zero, List.set_cons_succ]
          refine take_at 10 100 (v := ?_) rfl rfl (by kernel_rfl) (by kernel_rfl) (by kernel_rfl) (fun _ _ _ h => h) (Or.inl ⟨by rfl, ?_⟩) ?_
          rotate_left
          · (intro w; go_simp; all_goals (with_reducible rfl))
          simp only [List.setIfInBounds_toArray, List.set_cons_zero, List.set_cons_succ]
          refine take_at 11 101 (v := ?_) rfl rfl (by kernel_rfl) (by kernel_rfl) (by kernel_rfl) (fun _ _ _ h => h) (Or.inl ⟨by rfl, ?_⟩) ?_
          rotate_left
          · (intro w; go_simp; all_goals (with_reducible rfl))
          simp only [List.setIfInBounds_toArray, List.set_cons_zero, List.set_cons_succ]
          refine take_at 12 6 (v := ?_) rfl rfl (by kernel_rfl) (by kernel_rfl) (by kernel_rfl) (fun _ _ _ h => h) (Or.inl ⟨by rfl, ?_⟩) ?_
          rotate_left
          · (intro w; go_simp; all_goals (with_reducible rfl))
          simp only [List.setIfInBounds_toArray, List.set_cons_zero, List.set_cons_succ]
          refine wpAny_done (by kernel_rfl) ?_ _
          go_wp2
          go_ret
          exact ⟨rfl, Below.step HB8.out.drew hb10⟩
        exact AllReady.nil
      refine AllReady.cons rfl (fun K hK => ?_) ?_
      · go_simp
        first | (refine hK _ _ ?_; clear hK K) | skip
        try simp only [List.setIfInBounds_toArray, List.set_cons_zero, List.set_cons_succ]
        refine wpAny_ready (rs := [5]) (by kernel_rfl) (by simp) ?_
        refine AllReady.cons rfl (fun K hK => ?_) ?_
        · go_simp
          first | (refine hK _ _ ?_; clear hK K) | skip
          try simp only [List.setIfInBounds_toArray, List.set_cons_zero, List.set_cons_succ]
          refine take_at 10 100 (v := ?_) rfl rfl (by kernel_rfl) (by kernel_rfl) (by kernel_rfl) (fun _ _ _ h => h) (Or.inl ⟨by rfl, ?_⟩) ?_
          rotate_left
          · (intro w; go_simp; all_goals (with_reducible rfl))
          simp only [List.setIfInBounds_toArray, List.set_cons_zero, List.set_cons_succ]
          refine take_at 11 101 (v := ?_) rfl rfl (by kernel_rfl) (by kernel_rfl) (by kernel_rfl) (fun _ _ _ h => h) (Or.inl ⟨by rfl, ?_⟩) ?_
          rotate_left
          · (intro w; go_simp; all_goals (with_reducible rfl))
          simp only [List.setIfInBounds_toArray, List.set_cons_zero, List.set_cons_succ]
          refine take_at 12 6 (v := ?_) rfl rfl (by kernel_rfl) (by kernel_rfl) (by kernel_rfl) (fun _ _ _ h => h) (Or.inl ⟨by rfl, ?_⟩) ?_
          rotate_left
          · (intro w; go_simp; all_goals (with_reducible rfl))
          simp only [List.setIfInBounds_toArray, List.set_cons_zero, List.set_cons_succ]
          refine wpAny_done (by kernel_rfl) ?_ _
          go_wp2
          go_ret
          exact ⟨rfl, Below.step HB8.out.drew hb10⟩
        exact AllReady.nil
      exact AllReady.nil
    refine AllReady.cons rfl (fun K hK => ?_) ?_
    · go_simp
      first | (refine hK _ _ ?_; clear hK K) | skip
      try simp only [List.setIfInBounds_toArray, List.set_cons_zero, List.set_cons_succ]
      refine wpAny_ready (rs := [4]) (by kernel_rfl) (by simp) ?_
      refine AllReady.cons rfl (fun K hK => ?_) ?_
      · go_simp
        go_wp2_with ((go_at_call 11; refine (CG.out _).mono ?_; rintro e v10 ⟨u10, rfl, hown10, hb10⟩; have hs10 := str_own hown10; have hsf2 : (convert 24 9 (.slice (some ⟨b, off, none⟩) g2 c2)).run Try.prog v10 = .ok (.string ⟨lf.toArray⟩) v10 := (HF.out.below hb10).str (P := Try.prog) 24 5 9 Try.underlying24 Try.underlying5 Try.underlying9))
        first | (refine hK _ _ ?_; clear hK K) | skip
        try simp only [List.setIfInBounds_toArray, List.set_cons_zero, List.set_cons_succ]
        refine wpAny_ready (rs := [5]) (by kernel_rfl) (by simp) ?_
        refine AllReady.cons rfl (fun K hK => ?_) ?_
        · go_simp
          first | (refine hK _ _ ?_; clear hK K) | skip
          try simp only [List.setIfInBounds_toArray, List.set_cons_zero, List.set_cons_succ]
          refine take_at 10 100 (v := ?_) rfl rfl (by kernel_rfl) (by kernel_rfl) (by kernel_rfl) (fun _ _ _ h => h) (Or.inl ⟨by rfl, ?_⟩) ?_
          rotate_left
          · (intro w; go_simp; all_goals (with_reducible rfl))
          simp only [List.setIfInBounds_toArray, List.set_cons_zero, List.set_cons_succ]
          refine take_at 11 101 (v := ?_) rfl rfl (by kernel_rfl) (by kernel_rfl) (by kernel_rfl) (fun _ _ _ h => h) (Or.inl ⟨by rfl, ?_⟩) ?_
          rotate_left
          · (intro w; go_simp; all_goals (with_reducible rfl))
          simp only [List.setIfInBounds_toArray, List.set_cons_zero, List.set_cons_succ]
          refine take_at 12 6 (v := ?_) rfl rfl (by kernel_rfl) (by kernel_rfl) (by kernel_rfl) (fun _ _ _ h => h) (Or.inl ⟨by rfl, ?_⟩) ?_
          rotate_left
          · (intro w; go_simp; all_goals (with_reducible rfl))
          simp only [List.setIfInBounds_toArray, List.set_cons_zero, List.set_cons_succ]
          refine wpAny_done (by kernel_rfl) ?_ _
          go_wp2
          go_ret
          exact ⟨rfl, Below.step HB8.out.drew hb10⟩
        exact AllReady.nil
      exact AllReady.nil
    exact AllReady.nil
end Go.Proofs.Ytdckonfcdflmdaa
