/- The statement MsgPuts, walked out of the contracts of what it calls. -/
import Derived.Test.YtofadpodlaakbaaGreatMsgAwake
import Derived.Test.YtofadpodlaakbaaGreatMsgRefPut
namespace Go.Proofs.YtofadpodlaakbaaGreat
open Go.ChangeShapes Go.WideShapes Go.ChangeAt Go.RowKit
set_option linter.unusedVariables false
set_option linter.unusedSimpArgs false

set_option maxRecDepth 100000 in
set_option maxHeartbeats 16000000 in
theorem msgPuts_walk (m n : Msg) (ai : Option Addr) (ci : Nat) (ac : Option Addr) (cc : Nat) (ai2 : Option Addr) (ci2 : Nat) (ac2 : Option Addr) (cc2 : Nat) (w : World) (hr : MsgR w m ai ci ac cc) (hr2 : MsgR w n ai2 ci2 ac2 cc2) :
    Calls Tryz.prog 3 #[m.val ai ci ac cc, n.val ai2 ci2 ac2 cc2] w fun e w' => e = .returned (.bool true) ∧ Below w.heap.size w w' := by
  have HFE := Lib.hid (fun w' h => fewm_any m ai ci ac cc w' h)
  have HFE2 := Lib.hid (fun w' h => fewm_any n ai2 ci2 ac2 cc2 w' h)
  have HMA := Lib.hid (fun w' h => mmay_any m ai ci ac cc w' h)
  have HMR := Lib.hid (fun w' h => mmay_ref m ai ci ac cc w' h)
  have HSA := Lib.hid (fun w' h h' => msame_any m n ai ci ac cc ai2 ci2 ac2 cc2 w' h h')
  have HSR := Lib.hid (fun w' h h' => msame_ref m n ai ci ac cc ai2 ci2 ac2 cc2 w' h h')
  have HRM := Lib.hid hr
  have HRN := Lib.hid hr2
  obtain ⟨X, hX⟩ : ∃ X, X = if mayM m = true then putM m else [] := ⟨_, rfl⟩
  obtain ⟨er, her⟩ : ∃ x : Int, x = if mayM m = true then 0 else 1 := ⟨_, rfl⟩
  have HPU := Lib.hid (fun w' (h : MsgR w' m ai ci ac cc) => show Calls Tryz.prog 7 #[m.val ai ci ac cc] w' (fun e w'' => ∃ a' c', e = .returned (.tuple #[.slice a' X.length c', .int .i64 er]) ∧ Rd w'' a' X.length c' X ∧ Below w'.heap.size w' w'') by
    refine (mput_any m ai ci ac cc w' h).mono fun e w'' hp => ?_
    unfold MPutP at hp
    cases hm : mayM m with
    | true =>
      rw [hm, if_pos rfl] at hp
      obtain ⟨a', c', h1, h2, _, h3⟩ := hp
      rw [hX, her, hm]
      exact ⟨a', c', h1, h2, h3⟩
    | false =>
      rw [hm, if_neg (by decide)] at hp
      rw [hX, her, hm]
      exact ⟨none, 0, hp.1, Rd.nil w'', hp.2⟩)
  have HPR := Lib.hid (fun w' (h : MsgR w' m ai ci ac cc) => show Calls Tryz.prog 8 #[m.val ai ci ac cc] w' (fun e w'' => ∃ a' c', e = .returned (.tuple #[.slice a' X.length c', .int .i64 er]) ∧ Rd w'' a' X.length c' X ∧ Below w'.heap.size w' w'') by
    refine (mput_ref m ai ci ac cc w' h).mono fun e w'' hp => ?_
    unfold MPutP at hp
    cases hm : mayM m with
    | true =>
      rw [hm, if_pos rfl] at hp
      obtain ⟨a', c', h1, h2, _, h3⟩ := hp
      rw [hX, her, hm]
      exact ⟨a', c', h1, h2, h3⟩
    | false =>
      rw [hm, if_neg (by decide)] at hp
      rw [hX, her, hm]
      exact ⟨none, 0, hp.1, Rd.nil w'', hp.2⟩)
  obtain ⟨few, hfew⟩ : ∃ b, b = fewM m := ⟨_, rfl⟩
  obtain ⟨few2, hfew2⟩ : ∃ b, b = fewM n := ⟨_, rfl⟩
  obtain ⟨may, hmay⟩ : ∃ b, b = mayM m := ⟨_, rfl⟩
  obtain ⟨same, hsame⟩ : ∃ b, b = decide (m = n) := ⟨_, rfl⟩
  rw [← hfew] at HFE
  rw [← hfew2] at HFE2
  rw [← hmay] at HMA HMR
  rw [← hsame] at HSA HSR
  obtain ⟨lx, hlx⟩ : ∃ l, l = X.length := ⟨_, rfl⟩
  rw [← hlx] at HPU HPR
  unfold Msg.val Msg.cs at HFE HMA HMR HPU HPR HSA HSR ⊢
  obtain ⟨kd, h_kd⟩ : ∃ x, x = m.kind := ⟨_, rfl⟩
  try rw [← h_kd] at HFE
  try rw [← h_kd] at HMA
  try rw [← h_kd] at HMR
  try rw [← h_kd] at HPU
  try rw [← h_kd] at HPR
  try rw [← h_kd] at HSA
  try rw [← h_kd] at HSR
  try rw [← h_kd] at ⊢
  obtain ⟨na, h_na⟩ : ∃ x, x = m.ids.length := ⟨_, rfl⟩
  try rw [← h_na] at HFE
  try rw [← h_na] at HMA
  try rw [← h_na] at HMR
  try rw [← h_na] at HPU
  try rw [← h_na] at HPR
  try rw [← h_na] at HSA
  try rw [← h_na] at HSR
  try rw [← h_na] at ⊢
  obtain ⟨nb, h_nb⟩ : ∃ x, x = m.cms.length := ⟨_, rfl⟩
  try rw [← h_nb] at HFE
  try rw [← h_nb] at HMA
  try rw [← h_nb] at HMR
  try rw [← h_nb] at HPU
  try rw [← h_nb] at HPR
  try rw [← h_nb] at HSA
  try rw [← h_nb] at HSR
  try rw [← h_nb] at ⊢
  clear h_kd h_na h_nb
  unfold Msg.val Msg.cs at HFE2
  obtain ⟨kd2, h_kd2⟩ : ∃ x, x = n.kind := ⟨_, rfl⟩
  try rw [← h_kd2] at HFE2
  try rw [← h_kd2] at HSA
  try rw [← h_kd2] at HSR
  try rw [← h_kd2] at ⊢
  obtain ⟨nc, h_nc⟩ : ∃ x, x = n.ids.length := ⟨_, rfl⟩
  try rw [← h_nc] at HFE2
  try rw [← h_nc] at HSA
  try rw [← h_nc] at HSR
  try rw [← h_nc] at ⊢
  obtain ⟨nd, h_nd⟩ : ∃ x, x = n.cms.length := ⟨_, rfl⟩
  try rw [← h_nd] at HFE2
  try rw [← h_nd] at HSA
  try rw [← h_nd] at HSR
  try rw [← h_nd] at ⊢
  clear h_kd2 h_nc h_nd
  clear hr hr2 hfew hfew2 hmay hsame hX her hlx
  go_enter Tryz.func3, Tryz.ntmps3
  go_upto_region 1 with fail
  obtain ⟨w1, hw1⟩ : ∃ w1, w1 = w.alloc (.cells ([.int .i64 kd, .slice ai na ci, .slice ac nb cc] : List Value).toArray 25) := ⟨_, rfl⟩
  obtain ⟨w2, hw2⟩ : ∃ w2, w2 = w1.alloc (.cells ([.int .i64 kd2, .slice ai2 nc ci2, .slice ac2 nd cc2] : List Value).toArray 25) := ⟨_, rfl⟩
  have z1 : w1.heap.size = w.heap.size + 1 := by rw [hw1]; exact size_alloc' _ _
  have b01 : Below w.heap.size w w1 := by rw [hw1]; exact (Below.refl _ _).alloc (Nat.le_refl _) _
  have b12 : Below w1.heap.size w1 w2 := by rw [hw2]; exact (Below.refl _ _).alloc (Nat.le_refl _) _
  have c1 : Cel w1 w.heap.size 25 [.int .i64 kd, .slice ai na ci, .slice ac nb cc] := by rw [hw1]; exact Cel.new w _ _
  have c2 : Cel w2 (w.heap.size + 1) 25 [.int .i64 kd2, .slice ai2 nc ci2, .slice ac2 nd cc2] := by rw [hw2, ← z1]; exact Cel.new w1 _ _
  generalize hwg : World.alloc (World.alloc w _) _ = wG
  obtain rfl : w2 = wG := by rw [← hwg, hw2, hw1]
  obtain ⟨b1, hb1⟩ : ∃ b, b = w.heap.size := ⟨_, rfl⟩
  obtain ⟨b2, hb2⟩ : ∃ b, b = w.heap.size + 1 := ⟨_, rfl⟩
  rw [← hb2] at c2 ⊢
  rw [← hb1] at c1 ⊢
  have HC2 := Lib.hid (c1.step b12)
  have HE2 := Lib.hid c2
  have HB2 := Lib.hid (b01.step b12)
  clear hwg hw1 hw2 z1 b01 b12 c1 c2 hb1 hb2
  go_wp2_with fail
  refine (awake18 _).mono ?_
  rintro e w3 ⟨rfl, hb⟩
  have HC3 := Lib.hid (HC2.out.step hb)
  have HE3 := Lib.hid (HE2.out.step hb)
  have HB3 := Lib.hid (HB2.out.step hb)
  clear hb
  have p0 : w3.cell? ⟨b1, 0, none⟩ = some (.int .i64 kd) := HC3.out.at 0 _ rfl
  have p1 : w3.cell? ⟨b1, 1, none⟩ = some (.slice ai na ci) := HC3.out.at 1 _ rfl
  have p2 : w3.cell? ⟨b1, 2, none⟩ = some (.slice ac nb cc) := HC3.out.at 2 _ rfl
  have q0 : w3.cell? ⟨b2, 0, none⟩ = some (.int .i64 kd2) := HE3.out.at 0 _ rfl
  have q1 : w3.cell? ⟨b2, 1, none⟩ = some (.slice ai2 nc ci2) := HE3.out.at 1 _ rfl
  have q2 : w3.cell? ⟨b2, 2, none⟩ = some (.slice ac2 nd cc2) := HE3.out.at 2 _ rfl
  go_wp2_with fail
  refine (HFE.out _ (HRM.out.below HB3.out)).mono ?_
  rintro e w4 ⟨rfl, hb⟩
  clear p0 p1 p2 q0 q1 q2
  have HC4 := Lib.hid (HC3.out.step hb)
  have HE4 := Lib.hid (HE3.out.step hb)
  have HB4 := Lib.hid (HB3.out.step hb)
  clear hb
  have p0 : w4.cell? ⟨b1, 0, none⟩ = some (.int .i64 kd) := HC4.out.at 0 _ rfl
  have p1 : w4.cell? ⟨b1, 1, none⟩ = some (.slice ai na ci) := HC4.out.at 1 _ rfl
  have p2 : w4.cell? ⟨b1, 2, none⟩ = some (.slice ac nb cc) := HC4.out.at 2 _ rfl
  have q0 : w4.cell? ⟨b2, 0, none⟩ = some (.int .i64 kd2) := HE4.out.at 0 _ rfl
  have q1 : w4.cell? ⟨b2, 1, none⟩ = some (.slice ai2 nc ci2) := HE4.out.at 1 _ rfl
  have q2 : w4.cell? ⟨b2, 2, none⟩ = some (.slice ac2 nd cc2) := HE4.out.at 2 _ rfl
  go_wp2_with fail
  refine (HFE2.out _ (HRN.out.below HB4.out)).mono ?_
  rintro e w5 ⟨rfl, hb⟩
  clear p0 p1 p2 q0 q1 q2
  have HC5 := Lib.hid (HC4.out.step hb)
  have HE5 := Lib.hid (HE4.out.step hb)
  have HB5 := Lib.hid (HB4.out.step hb)
  clear hb
  have p0 : w5.cell? ⟨b1, 0, none⟩ = some (.int .i64 kd) := HC5.out.at 0 _ rfl
  have p1 : w5.cell? ⟨b1, 1, none⟩ = some (.slice ai na ci) := HC5.out.at 1 _ rfl
  have p2 : w5.cell? ⟨b1, 2, none⟩ = some (.slice ac nb cc) := HC5.out.at 2 _ rfl
  have q0 : w5.cell? ⟨b2, 0, none⟩ = some (.int .i64 kd2) := HE5.out.at 0 _ rfl
  have q1 : w5.cell? ⟨b2, 1, none⟩ = some (.slice ai2 nc ci2) := HE5.out.at 1 _ rfl
  have q2 : w5.cell? ⟨b2, 2, none⟩ = some (.slice ac2 nd cc2) := HE5.out.at 2 _ rfl
  cases few with
  | false =>
    go_wp2_with fail
    go_ret
    exact ⟨rfl, HB5.out⟩
  | true =>
  cases few2 with
  | false =>
    go_wp2_with fail
    go_ret
    exact ⟨rfl, HB5.out⟩
  | true =>
  go_wp2_with fail
  refine (HPU.out _ (HRM.out.below HB5.out)).mono ?_
  rintro e w6 ⟨a6, c6, rfl, hr6, hb⟩
  clear p0 p1 p2 q0 q1 q2
  have HX6 := Lib.hid hr6
  clear hr6
  have HC6 := Lib.hid (HC5.out.step hb)
  have HE6 := Lib.hid (HE5.out.step hb)
  have HB6 := Lib.hid (HB5.out.step hb)
  clear hb
  have p0 : w6.cell? ⟨b1, 0, none⟩ = some (.int .i64 kd) := HC6.out.at 0 _ rfl
  have p1 : w6.cell? ⟨b1, 1, none⟩ = some (.slice ai na ci) := HC6.out.at 1 _ rfl
  have p2 : w6.cell? ⟨b1, 2, none⟩ = some (.slice ac nb cc) := HC6.out.at 2 _ rfl
  have q0 : w6.cell? ⟨b2, 0, none⟩ = some (.int .i64 kd2) := HE6.out.at 0 _ rfl
  have q1 : w6.cell? ⟨b2, 1, none⟩ = some (.slice ai2 nc ci2) := HE6.out.at 1 _ rfl
  have q2 : w6.cell? ⟨b2, 2, none⟩ = some (.slice ac2 nd cc2) := HE6.out.at 2 _ rfl
  go_wp2_with fail
  refine (HPR.out _ (HRM.out.below HB6.out)).mono ?_
  rintro e w7 ⟨a7, c7, rfl, hr7, hb⟩
  clear p0 p1 p2 q0 q1 q2
  have HX7 := Lib.hid (HX6.out.below hb)
  have HY7 := Lib.hid hr7
  clear hr7
  have HC7 := Lib.hid (HC6.out.step hb)
  have HE7 := Lib.hid (HE6.out.step hb)
  have HB7 := Lib.hid (HB6.out.step hb)
  clear hb
  have p0 : w7.cell? ⟨b1, 0, none⟩ = some (.int .i64 kd) := HC7.out.at 0 _ rfl
  have p1 : w7.cell? ⟨b1, 1, none⟩ = some (.slice ai na ci) := HC7.out.at 1 _ rfl
  have p2 : w7.cell? ⟨b1, 2, none⟩ = some (.slice ac nb cc) := HC7.out.at 2 _ rfl
  have q0 : w7.cell? ⟨b2, 0, none⟩ = some (.int .i64 kd2) := HE7.out.at 0 _ rfl
  have q1 : w7.cell? ⟨b2, 1, none⟩ = some (.slice ai2 nc ci2) := HE7.out.at 1 _ rfl
  have q2 : w7.cell? ⟨b2, 2, none⟩ = some (.slice ac2 nd cc2) := HE7.out.at 2 _ rfl
  go_wp2_with fail
  refine (HMR.out _ (HRM.out.below HB7.out)).mono ?_
  rintro e w8 ⟨rfl, hb⟩
  clear p0 p1 p2 q0 q1 q2
  have HC8 := Lib.hid (HC7.out.step hb)
  have HE8 := Lib.hid (HE7.out.step hb)
  have HB8 := Lib.hid (HB7.out.step hb)
  have HX8 := Lib.hid (HX7.out.below hb)
  have HY8 := Lib.hid (HY7.out.below hb)
  clear hb
  have p0 : w8.cell? ⟨b1, 0, none⟩ = some (.int .i64 kd) := HC8.out.at 0 _ rfl
  have p1 : w8.cell? ⟨b1, 1, none⟩ = some (.slice ai na ci) := HC8.out.at 1 _ rfl
  have p2 : w8.cell? ⟨b1, 2, none⟩ = some (.slice ac nb cc) := HC8.out.at 2 _ rfl
  have q0 : w8.cell? ⟨b2, 0, none⟩ = some (.int .i64 kd2) := HE8.out.at 0 _ rfl
  have q1 : w8.cell? ⟨b2, 1, none⟩ = some (.slice ai2 nc ci2) := HE8.out.at 1 _ rfl
  have q2 : w8.cell? ⟨b2, 2, none⟩ = some (.slice ac2 nd cc2) := HE8.out.at 2 _ rfl
  go_wp2_with fail
  refine (HSR.out _ (HRM.out.below HB8.out) (HRN.out.below HB8.out)).mono ?_
  rintro e w9 ⟨rfl, hb⟩
  clear p0 p1 p2 q0 q1 q2
  have HC9 := Lib.hid (HC8.out.step hb)
  have HE9 := Lib.hid (HE8.out.step hb)
  have HB9 := Lib.hid (HB8.out.step hb)
  have HX9 := Lib.hid (HX8.out.below hb)
  have HY9 := Lib.hid (HY8.out.below hb)
  clear hb
  have p0 : w9.cell? ⟨b1, 0, none⟩ = some (.int .i64 kd) := HC9.out.at 0 _ rfl
  have p1 : w9.cell? ⟨b1, 1, none⟩ = some (.slice ai na ci) := HC9.out.at 1 _ rfl
  have p2 : w9.cell? ⟨b1, 2, none⟩ = some (.slice ac nb cc) := HC9.out.at 2 _ rfl
  have q0 : w9.cell? ⟨b2, 0, none⟩ = some (.int .i64 kd2) := HE9.out.at 0 _ rfl
  have q1 : w9.cell? ⟨b2, 1, none⟩ = some (.slice ai2 nc ci2) := HE9.out.at 1 _ rfl
  have q2 : w9.cell? ⟨b2, 2, none⟩ = some (.slice ac2 nd cc2) := HE9.out.at 2 _ rfl
  obtain ⟨sx, hsx⟩ : ∃ s : ByteArray, s = ⟨X.toArray⟩ := ⟨_, rfl⟩
  have hcx : (convert 28 9 (.slice a6 lx c6)).run Tryz.prog w9 = .ok (.string sx) w9 := by rw [hsx]; exact HX9.out.str (P := Tryz.prog) 28 5 9 Tryz.underlying28 Tryz.underlying5 Tryz.underlying9
  have hcy : (convert 28 9 (.slice a7 lx c7)).run Tryz.prog w9 = .ok (.string sx) w9 := by rw [hsx]; exact HY9.out.str (P := Tryz.prog) 28 5 9 Tryz.underlying28 Tryz.underlying5 Tryz.underlying9
  clear hsx
  go_wp2_with fail
  refine (HMA.out _ (HRM.out.below HB9.out)).mono ?_
  rintro e w10 ⟨rfl, hb⟩
  have HC10 := Lib.hid (HC9.out.step hb)
  have HE10 := Lib.hid (HE9.out.step hb)
  have HB10 := Lib.hid (HB9.out.step hb)
  clear hb hcx hcy p0 p1 p2 q0 q1 q2
  have p0 : w10.cell? ⟨b1, 0, none⟩ = some (.int .i64 kd) := HC10.out.at 0 _ rfl
  have p1 : w10.cell? ⟨b1, 1, none⟩ = some (.slice ai na ci) := HC10.out.at 1 _ rfl
  have p2 : w10.cell? ⟨b1, 2, none⟩ = some (.slice ac nb cc) := HC10.out.at 2 _ rfl
  have q0 : w10.cell? ⟨b2, 0, none⟩ = some (.int .i64 kd2) := HE10.out.at 0 _ rfl
  have q1 : w10.cell? ⟨b2, 1, none⟩ = some (.slice ai2 nc ci2) := HE10.out.at 1 _ rfl
  have q2 : w10.cell? ⟨b2, 2, none⟩ = some (.slice ac2 nd cc2) := HE10.out.at 2 _ rfl
  go_wp2_with fail
  refine (HSA.out _ (HRM.out.below HB10.out) (HRN.out.below HB10.out)).mono ?_
  rintro e w11 ⟨rfl, hb⟩
  clear p0 p1 p2 q0 q1 q2
  have HB11 := Lib.hid (HB10.out.step hb)
  clear hb
  go_wp2_with fail
  go_ret
  exact ⟨by first | rfl | simp, HB11.out⟩
end Go.Proofs.YtofadpodlaakbaaGreat
