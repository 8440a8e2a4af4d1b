/- The statement MsgBack, walked out of the contracts of what it calls. -/
import Derived.Test.YtofadpodlaakbaaMsgAwake
namespace Go.Proofs.Ytofadpodlaakbaa
open Go.ChangeShapes Go.WideShapes Go.ChangeAt Go.RowKit
set_option linter.unusedVariables false
set_option linter.unusedSimpArgs false

theorem putM_len {m : Msg} (h : mayM m = true) (h32 : all32M m) : (putM m).length ≤ 4000 := by
  have hk : m.kind.toNat ≤ 2 ∧ m.ids.length ≤ 16 ∧ m.cms.length ≤ 6 ∧ ∀ c ∈ m.cms, mayC c = true := by
    rcases mayM_kind h with ⟨g1, g2, g3, g4⟩ | ⟨g1, g2, g3, g4⟩
    · exact ⟨by omega, g2, by rw [g4]; decide, fun c hc => by rw [g4] at hc; cases hc⟩
    · exact ⟨by omega, by rw [g2]; decide, g3, fun c hc => (g4 c hc).1⟩
  obtain ⟨k1, k2, k3, k4⟩ := hk
  have h1 := numL_le10 m.kind.toNat (by omega)
  have h2 := numL_le10 (m.ids.length + m.cms.length) (by omega)
  have h3 := flat_len _ h32.1
  have h4 := flat_le (m.cms.map oneC) 450 (fun x hx => by
    obtain ⟨y, hy, rfl⟩ := List.mem_map.1 hx
    exact oneC_len (k4 y hy) (h32.2 y hy))
  rw [List.length_map] at h4
  unfold putM
  simp only [List.length_append]
  omega
theorem mgot_got {l : List UInt8} {m : Msg} (h : getM l = some m) : mayM m = true ∧ putM m = l := ⟨(getM_got h).1, (getM_got h).2.1⟩

set_option maxRecDepth 100000 in
set_option maxHeartbeats 16000000 in
theorem msgBack_walk (m : Msg) (ai : Option Addr) (ci : Nat) (ac : Option Addr) (cc : Nat) (a1 : Option Addr) (n1 c1 : Nat) (l : List UInt8) (w : World) (hr : MsgR w m ai ci ac cc) (hrd : Rd w a1 n1 c1 l) (hac : a1 = none → c1 = 0) :
    Calls Try.prog 3 #[m.val ai ci ac cc, .slice a1 n1 c1] w fun e w' => e = .returned (.bool true) ∧ Below w.heap.size w w' := by
  have HFE := Lib.hid (fun w' h => fewm_any m ai ci ac cc w' h)
  have HPU := Lib.hid (fun w' h => mput_any m ai ci ac cc w' h)
  have HSA := Lib.hid (fun w' ai2 ci2 ac2 cc2 h h' => msame_any m m ai ci ac cc ai2 ci2 ac2 cc2 w' h h')
  rw [show decide (m = m) = true from decide_eq_true rfl] at HSA
  have HRM := Lib.hid hr
  have HR := Lib.hid (And.intro hrd hac)
  have hn163 : n1 ≤ 9223372036854775807 := Nat.le_trans hrd.le hrd.cap
  unfold MPutP at HPU
  obtain ⟨few, hfew⟩ : ∃ b, b = fewM m := ⟨_, rfl⟩
  obtain ⟨may, hmay⟩ : ∃ b, b = mayM m := ⟨_, rfl⟩
  rw [← hfew] at HFE
  rw [← hmay] at HPU
  obtain ⟨X, hX⟩ : ∃ X, X = putM m := ⟨_, rfl⟩
  rw [← hX] at HPU
  obtain ⟨lx, hlx⟩ : ∃ l, l = X.length := ⟨_, rfl⟩
  rw [← hlx] at HPU
  have HGX := Lib.hid (fun w' a' c' (hm : may = true) (h : Rd w' a' lx c' X) (hz : a' = none → c' = 0) => show Calls Try.prog 10 #[.slice a' lx c'] w' (fun e w'' => ∃ ai ci ac cc, e = .returned (.tuple #[m.val ai ci ac cc, .int .i64 0]) ∧ MsgR w'' m ai ci ac cc ∧ Below w'.heap.size w' w'') by
    have hmm : mayM m = true := by rw [← hmay]; exact hm
    have hle := putM_len hmm hr.all32
    refine (mget_any a' lx c' X w' h hz (by rw [hlx, hX]; omega)).mono fun e w'' hp => ?_
    unfold MGetP at hp
    rw [hX, getM_put m hmm hr.all32] at hp
    exact hp)
  have HG2 := Lib.hid (fun w' h hb => mget_any a1 n1 c1 l w' h HR.out.2 hb)
  unfold MGetP at HG2
  unfold Msg.val Msg.cs at HFE HPU HSA HGX ⊢
  obtain ⟨kd, h_kd⟩ : ∃ x, x = m.kind := ⟨_, rfl⟩
  try rw [← h_kd] at HFE
  try rw [← h_kd] at HPU
  try rw [← h_kd] at HSA
  try rw [← h_kd] at HGX
  try rw [← h_kd] at ⊢
  obtain ⟨na, h_na⟩ : ∃ x, x = m.ids.length := ⟨_, rfl⟩
  try rw [← h_na] at HFE
  try rw [← h_na] at HPU
  try rw [← h_na] at HSA
  try rw [← h_na] at HGX
  try rw [← h_na] at ⊢
  obtain ⟨nb, h_nb⟩ : ∃ x, x = m.cms.length := ⟨_, rfl⟩
  try rw [← h_nb] at HFE
  try rw [← h_nb] at HPU
  try rw [← h_nb] at HSA
  try rw [← h_nb] at HGX
  try rw [← h_nb] at ⊢
  clear h_kd h_na h_nb
  clear hr hrd hac hfew hmay hX hlx
  have HB0 := Lib.hid (Below.refl w.heap.size w)
  go_enter Try.func3, Try.ntmps3
  go_upto_region 1 with fail
  generalize hwn : w.alloc (.cells _ _) = w1
  have hbn : Below w.heap.size w w1 := by rw [← hwn]; exact (Below.refl _ _).alloc (Nat.le_refl _) _
  obtain ⟨b1, hbb⟩ : ∃ b, b = w.heap.size := ⟨_, rfl⟩
  have HDb1 := Lib.hid (show Cel w1 b1 25 [.int .i64 kd, .slice ai na ci, .slice ac nb cc] by rw [← hwn, hbb]; exact Cel.new w _ _)
  rw [← hbb]
  have HB1 := Lib.hid (HB0.out.step hbn)
  clear hwn hbn hbb
  go_wp2_with fail
  refine (awake18 _).mono ?_
  rintro e w2 ⟨rfl, hb⟩
  have HC2 := Lib.hid (HDb1.out.step hb)
  have HB2 := Lib.hid (HB1.out.step hb)
  clear hb
  have p0 : w2.cell? ⟨b1, 0, none⟩ = some (.int .i64 kd) := HC2.out.at 0 _ rfl
  have p1 : w2.cell? ⟨b1, 1, none⟩ = some (.slice ai na ci) := HC2.out.at 1 _ rfl
  have p2 : w2.cell? ⟨b1, 2, none⟩ = some (.slice ac nb cc) := HC2.out.at 2 _ rfl
  go_wp2_with fail
  refine (HFE.out _ (HRM.out.below HB2.out)).mono ?_
  rintro e w3 ⟨rfl, hb⟩
  clear p0 p1 p2
  have HC3 := Lib.hid (HC2.out.step hb)
  have HB3 := Lib.hid (HB2.out.step hb)
  clear hb
  have p0 : w3.cell? ⟨b1, 0, none⟩ = some (.int .i64 kd) := HC3.out.at 0 _ rfl
  have p1 : w3.cell? ⟨b1, 1, none⟩ = some (.slice ai na ci) := HC3.out.at 1 _ rfl
  have p2 : w3.cell? ⟨b1, 2, none⟩ = some (.slice ac nb cc) := HC3.out.at 2 _ rfl
  cases few with
  | false =>
    go_wp2_with fail
    go_ret
    exact ⟨rfl, HB3.out⟩
  | true =>
  by_cases hn : (n1 : Int) ≤ 1500
  case neg =>
    have hn2 : 1500 < (n1 : Int) := by omega
    go_wp2_with fail
    go_ret
    exact ⟨rfl, HB3.out⟩
  have hn2 : ¬ 1500 < (n1 : Int) := by omega
  cases may with
  | false =>
    simp only [Bool.false_eq_true, if_false] at HPU
    go_wp2_with fail
    refine (HPU.out _ (HRM.out.below HB3.out)).mono ?_
    rintro e w4 ⟨rfl, hb⟩
    clear p0 p1 p2
    have HB4 := Lib.hid (HB3.out.step hb)
    clear hb
    cases hgo : getM l with
    | none =>
      have HG := Lib.hid (show Calls Try.prog 10 #[.slice a1 n1 c1] w4 (fun e w'' => e = .returned (.tuple #[.agg #[.int .i64 0, .slice none 0 0, .slice none 0 0], .int .i64 2]) ∧ Below w4.heap.size w4 w'') by
        have h1 := HG2.out w4 (HR.out.1.below HB4.out) (by omega)
        rw [hgo] at h1
        exact h1)
      clear hgo
      go_wp2_with fail
      refine (HG.out).mono ?_
      rintro e w8 ⟨rfl, hb⟩
      have HB8 := Lib.hid (HB4.out.step hb)
      clear hb
      go_upto_region 11 with fail
      generalize hwn : w8.alloc (.cells _ _) = w9
      have hbn : Below w8.heap.size w8 w9 := by rw [← hwn]; exact (Below.refl _ _).alloc (Nat.le_refl _) _
      obtain ⟨b9, hbb⟩ : ∃ b, b = w8.heap.size := ⟨_, rfl⟩
      have HDb9 := Lib.hid (show Cel w9 b9 25 [.int .i64 0, .slice none 0 0, .slice none 0 0] by rw [← hwn, hbb]; exact Cel.new w8 _ _)
      rw [← hbb]
      have HB9 := Lib.hid (HB8.out.step hbn)
      clear hwn hbn hbb
      have q0 : w9.cell? ⟨b9, 0, none⟩ = some (.int .i64 0) := HDb9.out.at 0 _ rfl
      have q1 : w9.cell? ⟨b9, 1, none⟩ = some (.slice none 0 0) := HDb9.out.at 1 _ rfl
      have q2 : w9.cell? ⟨b9, 2, none⟩ = some (.slice none 0 0) := HDb9.out.at 2 _ rfl
      go_wp2_with fail
      go_ret
      exact ⟨rfl, HB9.out⟩
    | some m2 =>
      obtain ⟨hm2, hp2⟩ := mgot_got hgo
      have hg32 := (getM_got hgo).2.2
      have HG := Lib.hid (show Calls Try.prog 10 #[.slice a1 n1 c1] w4 (fun e w'' => ∃ ai ci ac cc, e = .returned (.tuple #[m2.val ai ci ac cc, .int .i64 0]) ∧ MsgR w'' m2 ai ci ac cc ∧ Below w4.heap.size w4 w'') by
        have h1 := HG2.out w4 (HR.out.1.below HB4.out) (by omega)
        rw [hgo] at h1
        exact h1)
      have HP2 := Lib.hid (fun w' ai ci ac cc (h : MsgR w' m2 ai ci ac cc) => show Calls Try.prog 9 #[m2.val ai ci ac cc] w' (fun e w'' => ∃ a c, e = .returned (.tuple #[.slice a n1 c, .int .i64 0]) ∧ Rd w'' a n1 c l ∧ Below w'.heap.size w' w'') by
        refine (mput_any m2 ai ci ac cc w' h).mono fun e w'' hp => ?_
        unfold MPutP at hp
        rw [if_pos hm2, hp2, HR.out.1.len] at hp
        obtain ⟨a, c, h1, h2, _, h3⟩ := hp
        exact ⟨a, c, h1, h2, h3⟩)
      have HY2 := Lib.hid (fun w' ai ci ac cc (h : MsgR w' m2 ai ci ac cc) => show Calls Try.prog 12 #[m2.val ai ci ac cc] w' (fun e w'' => e = .returned (.bool true) ∧ Below w'.heap.size w' w'') from (mmay_any m2 ai ci ac cc w' h).mono fun e w'' h => by rw [hm2] at h; exact h)
      clear hgo hm2 hp2 hg32
      unfold Msg.val Msg.cs at HG HP2 HY2
      obtain ⟨kd2, h_kd2⟩ : ∃ x, x = m2.kind := ⟨_, rfl⟩
      try rw [← h_kd2] at HG
      try rw [← h_kd2] at HP2
      try rw [← h_kd2] at HY2
      obtain ⟨nc, h_nc⟩ : ∃ x, x = m2.ids.length := ⟨_, rfl⟩
      try rw [← h_nc] at HG
      try rw [← h_nc] at HP2
      try rw [← h_nc] at HY2
      obtain ⟨nd, h_nd⟩ : ∃ x, x = m2.cms.length := ⟨_, rfl⟩
      try rw [← h_nd] at HG
      try rw [← h_nd] at HP2
      try rw [← h_nd] at HY2
      clear h_kd2 h_nc h_nd
      go_wp2_with fail
      refine (HG.out).mono ?_
      rintro e w8 ⟨ai8, ci8, ac8, cc8, rfl, hm8, hb⟩
      have HM8 := Lib.hid hm8
      clear hm8
      have HB8 := Lib.hid (HB4.out.step hb)
      clear hb
      go_upto_region 13 with fail
      generalize hwn : w8.alloc (.cells _ _) = w9
      have hbn : Below w8.heap.size w8 w9 := by rw [← hwn]; exact (Below.refl _ _).alloc (Nat.le_refl _) _
      obtain ⟨b9, hbb⟩ : ∃ b, b = w8.heap.size := ⟨_, rfl⟩
      have HDb9 := Lib.hid (show Cel w9 b9 25 [.int .i64 kd2, .slice ai8 nc ci8, .slice ac8 nd cc8] by rw [← hwn, hbb]; exact Cel.new w8 _ _)
      rw [← hbb]
      have HM9 := Lib.hid (HM8.out.below hbn)
      have HB9 := Lib.hid (HB8.out.step hbn)
      clear hwn hbn hbb
      have q0 : w9.cell? ⟨b9, 0, none⟩ = some (.int .i64 kd2) := HDb9.out.at 0 _ rfl
      have q1 : w9.cell? ⟨b9, 1, none⟩ = some (.slice ai8 nc ci8) := HDb9.out.at 1 _ rfl
      have q2 : w9.cell? ⟨b9, 2, none⟩ = some (.slice ac8 nd cc8) := HDb9.out.at 2 _ rfl
      go_wp2_with fail
      refine (HP2.out _ _ _ _ _ HM9.out).mono ?_
      rintro e w10 ⟨a10, c10, rfl, hr10, hb⟩
      clear q0 q1 q2
      have HX10 := Lib.hid hr10
      clear hr10
      have HM10 := Lib.hid (HM9.out.below hb)
      have HK10 := Lib.hid (HDb9.out.step hb)
      have HB10 := Lib.hid (HB9.out.step hb)
      clear hb
      have q0 : w10.cell? ⟨b9, 0, none⟩ = some (.int .i64 kd2) := HK10.out.at 0 _ rfl
      have q1 : w10.cell? ⟨b9, 1, none⟩ = some (.slice ai8 nc ci8) := HK10.out.at 1 _ rfl
      have q2 : w10.cell? ⟨b9, 2, none⟩ = some (.slice ac8 nd cc8) := HK10.out.at 2 _ rfl
      go_wp2_with fail
      refine (HY2.out _ _ _ _ _ HM10.out).mono ?_
      rintro e w11 ⟨rfl, hb⟩
      have HB11 := Lib.hid (HB10.out.step hb)
      obtain ⟨sx, hsx⟩ : ∃ s : ByteArray, s = ⟨l.toArray⟩ := ⟨_, rfl⟩
      have hcx : (convert 26 9 (.slice a10 n1 c10)).run Try.prog w11 = .ok (.string sx) w11 := by rw [hsx]; exact (HX10.out.below hb).str (P := Try.prog) 26 5 9 Try.underlying26 Try.underlying5 Try.underlying9
      have hcy : (convert 26 9 (.slice a1 n1 c1)).run Try.prog w11 = .ok (.string sx) w11 := by rw [hsx]; exact (HR.out.1.below HB11.out).str (P := Try.prog) 26 5 9 Try.underlying26 Try.underlying5 Try.underlying9
      clear hb hsx q0 q1 q2
      go_wp2_with fail
      go_ret
      exact ⟨by first | rfl | simp, HB11.out⟩
  | true =>
    simp only [if_true] at HPU
    go_wp2_with fail
    refine (HPU.out _ (HRM.out.below HB3.out)).mono ?_
    rintro e w4 ⟨a4, c4, rfl, hr4, hz4, hb⟩
    clear p0 p1 p2
    have HX4 := Lib.hid (And.intro hr4 hz4)
    clear hr4 hz4
    have HC4 := Lib.hid (HC3.out.step hb)
    have HB4 := Lib.hid (HB3.out.step hb)
    clear hb
    go_wp2_with fail
    refine (HGX.out _ _ _ (by first | rfl | trivial) HX4.out.1 HX4.out.2).mono ?_
    rintro e w5 ⟨ai5, ci5, ac5, cc5, rfl, hm5, hb⟩
    have HM5 := Lib.hid hm5
    clear hm5
    have HC5 := Lib.hid (HC4.out.step hb)
    have HB5 := Lib.hid (HB4.out.step hb)
    clear hb
    go_upto_region 8 with fail
    generalize hwn : w5.alloc (.cells _ _) = w6
    have hbn : Below w5.heap.size w5 w6 := by rw [← hwn]; exact (Below.refl _ _).alloc (Nat.le_refl _) _
    obtain ⟨b6, hbb⟩ : ∃ b, b = w5.heap.size := ⟨_, rfl⟩
    have HDb6 := Lib.hid (show Cel w6 b6 25 [.int .i64 kd, .slice ai5 na ci5, .slice ac5 nb cc5] by rw [← hwn, hbb]; exact Cel.new w5 _ _)
    rw [← hbb]
    have HM6 := Lib.hid (HM5.out.below hbn)
    have HC6 := Lib.hid (HC5.out.step hbn)
    have HB6 := Lib.hid (HB5.out.step hbn)
    clear hwn hbn hbb
    have p0 : w6.cell? ⟨b1, 0, none⟩ = some (.int .i64 kd) := HC6.out.at 0 _ rfl
    have p1 : w6.cell? ⟨b1, 1, none⟩ = some (.slice ai na ci) := HC6.out.at 1 _ rfl
    have p2 : w6.cell? ⟨b1, 2, none⟩ = some (.slice ac nb cc) := HC6.out.at 2 _ rfl
    have q0 : w6.cell? ⟨b6, 0, none⟩ = some (.int .i64 kd) := HDb6.out.at 0 _ rfl
    have q1 : w6.cell? ⟨b6, 1, none⟩ = some (.slice ai5 na ci5) := HDb6.out.at 1 _ rfl
    have q2 : w6.cell? ⟨b6, 2, none⟩ = some (.slice ac5 nb cc5) := HDb6.out.at 2 _ rfl
    go_wp2_with fail
    refine (HSA.out _ _ _ _ _ (HRM.out.below HB6.out) HM6.out).mono ?_
    rintro e w7 ⟨rfl, hb⟩
    clear p0 p1 p2 q0 q1 q2
    have HB7 := Lib.hid (HB6.out.step hb)
    clear hb
    go_upto_region 10 with fail
    cases hgo : getM l with
    | none =>
      have HG := Lib.hid (show Calls Try.prog 10 #[.slice a1 n1 c1] w7 (fun e w'' => e = .returned (.tuple #[.agg #[.int .i64 0, .slice none 0 0, .slice none 0 0], .int .i64 2]) ∧ Below w7.heap.size w7 w'') by
        have h1 := HG2.out w7 (HR.out.1.below HB7.out) (by omega)
        rw [hgo] at h1
        exact h1)
      clear hgo
      go_wp2_with fail
      refine (HG.out).mono ?_
      rintro e w8 ⟨rfl, hb⟩
      have HB8 := Lib.hid (HB7.out.step hb)
      clear hb
      go_upto_region 11 with fail
      generalize hwn : w8.alloc (.cells _ _) = w9
      have hbn : Below w8.heap.size w8 w9 := by rw [← hwn]; exact (Below.refl _ _).alloc (Nat.le_refl _) _
      obtain ⟨b9, hbb⟩ : ∃ b, b = w8.heap.size := ⟨_, rfl⟩
      have HDb9 := Lib.hid (show Cel w9 b9 25 [.int .i64 0, .slice none 0 0, .slice none 0 0] by rw [← hwn, hbb]; exact Cel.new w8 _ _)
      rw [← hbb]
      have HB9 := Lib.hid (HB8.out.step hbn)
      clear hwn hbn hbb
      have q0 : w9.cell? ⟨b9, 0, none⟩ = some (.int .i64 0) := HDb9.out.at 0 _ rfl
      have q1 : w9.cell? ⟨b9, 1, none⟩ = some (.slice none 0 0) := HDb9.out.at 1 _ rfl
      have q2 : w9.cell? ⟨b9, 2, none⟩ = some (.slice none 0 0) := HDb9.out.at 2 _ rfl
      go_wp2_with fail
      go_ret
      exact ⟨rfl, HB9.out⟩
    | some m2 =>
      obtain ⟨hm2, hp2⟩ := mgot_got hgo
      have hg32 := (getM_got hgo).2.2
      have HG := Lib.hid (show Calls Try.prog 10 #[.slice a1 n1 c1] w7 (fun e w'' => ∃ ai ci ac cc, e = .returned (.tuple #[m2.val ai ci ac cc, .int .i64 0]) ∧ MsgR w'' m2 ai ci ac cc ∧ Below w7.heap.size w7 w'') by
        have h1 := HG2.out w7 (HR.out.1.below HB7.out) (by omega)
        rw [hgo] at h1
        exact h1)
      have HP2 := Lib.hid (fun w' ai ci ac cc (h : MsgR w' m2 ai ci ac cc) => show Calls Try.prog 9 #[m2.val ai ci ac cc] w' (fun e w'' => ∃ a c, e = .returned (.tuple #[.slice a n1 c, .int .i64 0]) ∧ Rd w'' a n1 c l ∧ Below w'.heap.size w' w'') by
        refine (mput_any m2 ai ci ac cc w' h).mono fun e w'' hp => ?_
        unfold MPutP at hp
        rw [if_pos hm2, hp2, HR.out.1.len] at hp
        obtain ⟨a, c, h1, h2, _, h3⟩ := hp
        exact ⟨a, c, h1, h2, h3⟩)
      have HY2 := Lib.hid (fun w' ai ci ac cc (h : MsgR w' m2 ai ci ac cc) => show Calls Try.prog 12 #[m2.val ai ci ac cc] w' (fun e w'' => e = .returned (.bool true) ∧ Below w'.heap.size w' w'') from (mmay_any m2 ai ci ac cc w' h).mono fun e w'' h => by rw [hm2] at h; exact h)
      clear hgo hm2 hp2 hg32
      unfold Msg.val Msg.cs at HG HP2 HY2
      obtain ⟨kd2, h_kd2⟩ : ∃ x, x = m2.kind := ⟨_, rfl⟩
      try rw [← h_kd2] at HG
      try rw [← h_kd2] at HP2
      try rw [← h_kd2] at HY2
      obtain ⟨nc, h_nc⟩ : ∃ x, x = m2.ids.length := ⟨_, rfl⟩
      try rw [← h_nc] at HG
      try rw [← h_nc] at HP2
      try rw [← h_nc] at HY2
      obtain ⟨nd, h_nd⟩ : ∃ x, x = m2.cms.length := ⟨_, rfl⟩
      try rw [← h_nd] at HG
      try rw [← h_nd] at HP2
      try rw [← h_nd] at HY2
      clear h_kd2 h_nc h_nd
      go_wp2_with fail
      refine (HG.out).mono ?_
      rintro e w8 ⟨ai8, ci8, ac8, cc8, rfl, hm8, hb⟩
      have HM8 := Lib.hid hm8
      clear hm8
      have HB8 := Lib.hid (HB7.out.step hb)
      clear hb
      go_upto_region 13 with fail
      generalize hwn : w8.alloc (.cells _ _) = w9
      have hbn : Below w8.heap.size w8 w9 := by rw [← hwn]; exact (Below.refl _ _).alloc (Nat.le_refl _) _
      obtain ⟨b9, hbb⟩ : ∃ b, b = w8.heap.size := ⟨_, rfl⟩
      have HDb9 := Lib.hid (show Cel w9 b9 25 [.int .i64 kd2, .slice ai8 nc ci8, .slice ac8 nd cc8] by rw [← hwn, hbb]; exact Cel.new w8 _ _)
      rw [← hbb]
      have HM9 := Lib.hid (HM8.out.below hbn)
      have HB9 := Lib.hid (HB8.out.step hbn)
      clear hwn hbn hbb
      have q0 : w9.cell? ⟨b9, 0, none⟩ = some (.int .i64 kd2) := HDb9.out.at 0 _ rfl
      have q1 : w9.cell? ⟨b9, 1, none⟩ = some (.slice ai8 nc ci8) := HDb9.out.at 1 _ rfl
      have q2 : w9.cell? ⟨b9, 2, none⟩ = some (.slice ac8 nd cc8) := HDb9.out.at 2 _ rfl
      go_wp2_with fail
      refine (HP2.out _ _ _ _ _ HM9.out).mono ?_
      rintro e w10 ⟨a10, c10, rfl, hr10, hb⟩
      clear q0 q1 q2
      have HX10 := Lib.hid hr10
      clear hr10
      have HM10 := Lib.hid (HM9.out.below hb)
      have HK10 := Lib.hid (HDb9.out.step hb)
      have HB10 := Lib.hid (HB9.out.step hb)
      clear hb
      have q0 : w10.cell? ⟨b9, 0, none⟩ = some (.int .i64 kd2) := HK10.out.at 0 _ rfl
      have q1 : w10.cell? ⟨b9, 1, none⟩ = some (.slice ai8 nc ci8) := HK10.out.at 1 _ rfl
      have q2 : w10.cell? ⟨b9, 2, none⟩ = some (.slice ac8 nd cc8) := HK10.out.at 2 _ rfl
      go_wp2_with fail
      refine (HY2.out _ _ _ _ _ HM10.out).mono ?_
      rintro e w11 ⟨rfl, hb⟩
      have HB11 := Lib.hid (HB10.out.step hb)
      obtain ⟨sx, hsx⟩ : ∃ s : ByteArray, s = ⟨l.toArray⟩ := ⟨_, rfl⟩
      have hcx : (convert 26 9 (.slice a10 n1 c10)).run Try.prog w11 = .ok (.string sx) w11 := by rw [hsx]; exact (HX10.out.below hb).str (P := Try.prog) 26 5 9 Try.underlying26 Try.underlying5 Try.underlying9
      have hcy : (convert 26 9 (.slice a1 n1 c1)).run Try.prog w11 = .ok (.string sx) w11 := by rw [hsx]; exact (HR.out.1.below HB11.out).str (P := Try.prog) 26 5 9 Try.underlying26 Try.underlying5 Try.underlying9
      clear hb hsx q0 q1 q2
      go_wp2_with fail
      go_ret
      exact ⟨by first | rfl | simp, HB11.out⟩
end Go.Proofs.Ytofadpodlaakbaa
