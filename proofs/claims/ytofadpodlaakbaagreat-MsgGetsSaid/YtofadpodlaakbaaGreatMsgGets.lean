/- The statement MsgGets, walked out of the contracts of what it calls. -/
import Derived.Test.YtofadpodlaakbaaGreatMsgAwake
import Derived.Test.YtofadpodlaakbaaGreatMsgRefGet
namespace Go.Proofs.YtofadpodlaakbaaGreat
open Go.ChangeShapes Go.WideShapes Go.ChangeAt Go.RowKit
set_option linter.unusedVariables false
set_option linter.unusedSimpArgs false
set_option maxRecDepth 100000 in
set_option maxHeartbeats 16000000 in
theorem msgGets_walk (a : Option Addr) (n0 c : Nat) (l : List UInt8) (w : World) (hr : Rd w a n0 c l) (hac : a = none → c = 0) : Calls Tryz.prog 4 #[.slice a n0 c] w fun e w' => e = .returned (.bool true) ∧ Below w.heap.size w w' := by
 have HR := Lib.hid hr
 have hn63 : n0 ≤ 9223372036854775807 := Nat.le_trans hr.le hr.cap
 obtain ⟨M, hM⟩ : ∃ M : Msg, M = (match getM l with | none => m0M | some p => p) := ⟨_, rfl⟩
 obtain ⟨er, her⟩ : ∃ x : Int, x = (match getM l with | none => 2 | some p => 0) := ⟨_, rfl⟩
 have HGA := Lib.hid (fun w' (h : Rd w' a n0 c l) (hb : n0 ≤ 100000) => show Calls Tryz.prog 13 #[.slice a n0 c] w' (fun e w'' => ∃ ai ci ac cc, e = .returned (.tuple #[M.val ai ci ac cc, .int .i64 er]) ∧ MsgR w'' M ai ci ac cc ∧ Below w'.heap.size w' w'') by
  refine (mget_any a n0 c l w' h hac hb).mono fun e w'' hp => ?_
  unfold MGetP at hp
  cases hg : getM l with
  | none =>
   rw [hg] at hp hM her
   simp only at hp hM her
   subst hM her
   exact ⟨none, 0, none, 0, hp.1, m0_read w'', hp.2⟩
  | some p =>
   rw [hg] at hp hM her
   simp only at hp hM her
   subst hM her
   exact hp)
 have HGB := Lib.hid (fun w' (h : Rd w' a n0 c l) (hb : n0 ≤ 1500) => show Calls Tryz.prog 14 #[.slice a n0 c] w' (fun e w'' => ∃ ai ci ac cc, e = .returned (.tuple #[M.val ai ci ac cc, .int .i64 er]) ∧ MsgR w'' M ai ci ac cc ∧ Below w'.heap.size w' w'') by
  refine (mget_ref a n0 c l w' h hac hb).mono fun e w'' hp => ?_
  unfold MGetP at hp
  cases hg : getM l with
  | none =>
   rw [hg] at hp hM her
   simp only at hp hM her
   subst hM her
   exact ⟨none, 0, none, 0, hp.1, m0_read w'', hp.2⟩
  | some p =>
   rw [hg] at hp hM her
   simp only at hp hM her
   subst hM her
   exact hp)
 have HSA := Lib.hid (fun w' a1 a2 a3 a4 b1 b2 b3 b4 h h' => msame_ref M M a1 a2 a3 a4 b1 b2 b3 b4 w' h h')
 rw [show decide (M = M) = true from decide_eq_true rfl] at HSA
 unfold Msg.val Msg.cs at HGA HGB HSA
 obtain ⟨kd, h_kd⟩ : ∃ x, x = M.kind := ⟨_, rfl⟩
 try rw [← h_kd] at HGA
 try rw [← h_kd] at HGB
 try rw [← h_kd] at HSA
 obtain ⟨na, h_na⟩ : ∃ x, x = M.ids.length := ⟨_, rfl⟩
 try rw [← h_na] at HGA
 try rw [← h_na] at HGB
 try rw [← h_na] at HSA
 obtain ⟨nb, h_nb⟩ : ∃ x, x = M.cms.length := ⟨_, rfl⟩
 try rw [← h_nb] at HGA
 try rw [← h_nb] at HGB
 try rw [← h_nb] at HSA
 clear h_kd h_na h_nb
 clear hr hac hM her
 go_enter Tryz.func4, Tryz.ntmps4
 go_wp2_with fail
 refine (awake18 _).mono ?_
 rintro e w1 ⟨rfl, hb⟩
 have HB1 := Lib.hid hb
 clear hb
 by_cases hn : (n0 : Int) ≤ 1500
 case neg =>
  have hn2 : 1500 < (n0 : Int) := by omega
  go_wp2_with fail
  go_ret
  exact ⟨rfl, HB1.out⟩
 have hn2 : ¬ 1500 < (n0 : Int) := by omega
 go_wp2_with fail
 refine (HGA.out _ (HR.out.below HB1.out) (by omega)).mono ?_
 rintro e w2 ⟨ai, ci, ac, cc, rfl, hm, hb⟩
 have HM2 := Lib.hid hm
 have HB2 := Lib.hid (HB1.out.step hb)
 clear hm hb
 go_upto_region 5 with fail
 generalize hwn : w2.alloc (.cells _ _) = w3
 have hbn : Below w2.heap.size w2 w3 := by rw [← hwn]; exact (Below.refl _ _).alloc (Nat.le_refl _) _
 obtain ⟨b1, hbb⟩ : ∃ b, b = w2.heap.size := ⟨_, rfl⟩
 have HDb1 := Lib.hid (show Cel w3 b1 25 [.int .i64 kd, .slice ai na ci, .slice ac nb cc] by rw [← hwn, hbb]; exact Cel.new w2 _ _)
 rw [← hbb]
 have HM3 := Lib.hid (HM2.out.below hbn)
 have HB3 := Lib.hid (HB2.out.step hbn)
 clear hwn hbn hbb
 go_wp2_with fail
 refine (HGB.out _ (HR.out.below HB3.out) (by omega)).mono ?_
 rintro e w4 ⟨ai2, ci2, ac2, cc2, rfl, hm, hb⟩
 have HN4 := Lib.hid hm
 have HM4 := Lib.hid (HM3.out.below hb)
 have HD4 := Lib.hid (HDb1.out.step hb)
 have HB4 := Lib.hid (HB3.out.step hb)
 clear hm hb HDb1
 go_upto_region 6 with fail
 generalize hwn : w4.alloc (.cells _ _) = w5
 have hbn : Below w4.heap.size w4 w5 := by rw [← hwn]; exact (Below.refl _ _).alloc (Nat.le_refl _) _
 obtain ⟨b2, hbb⟩ : ∃ b, b = w4.heap.size := ⟨_, rfl⟩
 have HDb2 := Lib.hid (show Cel w5 b2 25 [.int .i64 kd, .slice ai2 na ci2, .slice ac2 nb cc2] by rw [← hwn, hbb]; exact Cel.new w4 _ _)
 rw [← hbb]
 have HM5 := Lib.hid (HM4.out.below hbn)
 have HN5 := Lib.hid (HN4.out.below hbn)
 have HD5 := Lib.hid (HD4.out.step hbn)
 have HB5 := Lib.hid (HB4.out.step hbn)
 clear hwn hbn hbb
 have p0 : w5.cell? ⟨b1, 0, none⟩ = some (.int .i64 kd) := HD5.out.at 0 _ rfl
 have p1 : w5.cell? ⟨b1, 1, none⟩ = some (.slice ai na ci) := HD5.out.at 1 _ rfl
 have p2 : w5.cell? ⟨b1, 2, none⟩ = some (.slice ac nb cc) := HD5.out.at 2 _ rfl
 have q0 : w5.cell? ⟨b2, 0, none⟩ = some (.int .i64 kd) := HDb2.out.at 0 _ rfl
 have q1 : w5.cell? ⟨b2, 1, none⟩ = some (.slice ai2 na ci2) := HDb2.out.at 1 _ rfl
 have q2 : w5.cell? ⟨b2, 2, none⟩ = some (.slice ac2 nb cc2) := HDb2.out.at 2 _ rfl
 go_wp2_with fail
 refine (HSA.out _ _ _ _ _ _ _ _ _ HM5.out HN5.out).mono ?_
 rintro e w6 ⟨rfl, hb⟩
 have HB6 := Lib.hid (HB5.out.step hb)
 clear hb p0 p1 p2 q0 q1 q2
 go_wp2_with fail
 go_ret
 exact ⟨by first | rfl | simp, HB6.out⟩
end Go.Proofs.YtofadpodlaakbaaGreat
