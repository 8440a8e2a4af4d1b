/- The statement CommitGets, walked out of the contracts of what it calls. -/
import Derived.Test.YtdefdccbcnpodaaCmAwake
import Derived.Test.YtdefdccbcnpodaaCmRefGet
namespace Go.Proofs.Ytdefdccbcnpodaa
open Go.ChangeShapes Go.WideShapes Go.ChangeAt Go.RowKit
set_option linter.unusedVariables false
set_option linter.unusedSimpArgs false

theorem noC_read (w : World) : CmR w noC none 0 := ⟨Ids.nil w, Nat.zero_le _, Nat.zero_le _⟩

set_option maxRecDepth 100000 in
set_option maxHeartbeats 16000000 in
theorem commitGets_walk (a : Option Addr) (n0 c : Nat) (l : List UInt8) (w : World) (hr : Rd w a n0 c l) (hac : a = none → c = 0) : Calls Try.prog 4 #[.slice a n0 c] w fun e w' => e = .returned (.bool true) ∧ Below w.heap.size w w' := by
  have HR := Lib.hid hr
  have hn63 : n0 ≤ 9223372036854775807 := Nat.le_trans hr.le hr.cap
  obtain ⟨C, hC⟩ : ∃ C : Cmt, C = (match getC l with | none => noC | some p => p.1) := ⟨_, rfl⟩
  obtain ⟨R, hR⟩ : ∃ R : List UInt8, R = (match getC l with | none => [] | some p => p.2) := ⟨_, rfl⟩
  obtain ⟨er, her⟩ : ∃ x : Int, x = (match getC l with | none => 2 | some p => 0) := ⟨_, rfl⟩
  have HGA := Lib.hid (fun w' (h : Rd w' a n0 c l) (hb : n0 ≤ 100000) => show Calls Try.prog 21 #[.slice a n0 c] w' (fun e w'' => ∃ av cv ar cr, e = .returned (.tuple #[C.val av cv, .slice ar R.length cr, .int .i64 er]) ∧ CmR w'' C av cv ∧ Rd w'' ar R.length cr R ∧ Below w'.heap.size w' w'') by
    refine (cget_any a n0 c l w' h hac hb).mono fun e w'' hp => ?_
    unfold CGetP at hp
    cases hg : getC l with
    | none =>
      rw [hg] at hp hC hR her
      simp only at hp hC hR her
      subst hC hR her
      exact ⟨none, 0, none, 0, hp.1, noC_read w'', Rd.nil w'', hp.2⟩
    | some p =>
      obtain ⟨cc, r⟩ := p
      rw [hg] at hp hC hR her
      simp only at hp hC hR her
      subst hC hR her
      obtain ⟨a1, a2, a3, a4, h1, h2, h3, _, h4⟩ := hp
      exact ⟨a1, a2, a3, a4, h1, h2, h3, h4⟩)
  have HGB := Lib.hid (fun w' (h : Rd w' a n0 c l) (hb : n0 ≤ 2000) => show Calls Try.prog 22 #[.slice a n0 c] w' (fun e w'' => ∃ av cv ar cr, e = .returned (.tuple #[C.val av cv, .slice ar R.length cr, .int .i64 er]) ∧ CmR w'' C av cv ∧ Rd w'' ar R.length cr R ∧ Below w'.heap.size w' w'') by
    refine (cget_ref a n0 c l w' h hac hb).mono fun e w'' hp => ?_
    unfold CGetP at hp
    cases hg : getC l with
    | none =>
      rw [hg] at hp hC hR her
      simp only at hp hC hR her
      subst hC hR her
      exact ⟨none, 0, none, 0, hp.1, noC_read w'', Rd.nil w'', hp.2⟩
    | some p =>
      obtain ⟨cc, r⟩ := p
      rw [hg] at hp hC hR her
      simp only at hp hC hR her
      subst hC hR her
      obtain ⟨a1, a2, a3, a4, h1, h2, h3, _, h4⟩ := hp
      exact ⟨a1, a2, a3, a4, h1, h2, h3, h4⟩)
  have HSA := Lib.hid (fun w' a1 a2 a3 a4 h h' => csame_ref C C a1 a2 a3 a4 w' h h')
  rw [show decide (C = C) = true from decide_eq_true rfl] at HSA
  obtain ⟨lx, hlx⟩ : ∃ x, x = R.length := ⟨_, rfl⟩
  rw [← hlx] at HGA HGB
  unfold Cmt.val Cmt.cs at HGA HGB HSA
  obtain ⟨n, hn⟩ : ∃ x, x = C.par.length := ⟨_, rfl⟩
  obtain ⟨node, hnode⟩ : ∃ x, x = C.node := ⟨_, rfl⟩
  obtain ⟨seq, hseq⟩ : ∃ x, x = C.seq := ⟨_, rfl⟩
  obtain ⟨gen, hgen⟩ : ∃ x, x = C.gen := ⟨_, rfl⟩
  obtain ⟨kind, hkind⟩ : ∃ x, x = C.op.kind := ⟨_, rfl⟩
  obtain ⟨num, hnum⟩ : ∃ x, x = C.op.num := ⟨_, rfl⟩
  obtain ⟨s1, hs1⟩ : ∃ s : ByteArray, s = ⟨C.op.key.toArray⟩ := ⟨_, rfl⟩
  obtain ⟨s2, hs2⟩ : ∃ s : ByteArray, s = ⟨C.op.elem.toArray⟩ := ⟨_, rfl⟩
  try rw [← hn] at HGA
  try rw [← hnode] at HGA
  try rw [← hseq] at HGA
  try rw [← hgen] at HGA
  try rw [← hkind] at HGA
  try rw [← hnum] at HGA
  try rw [← hs1] at HGA
  try rw [← hs2] at HGA
  try rw [← hn] at HGB
  try rw [← hnode] at HGB
  try rw [← hseq] at HGB
  try rw [← hgen] at HGB
  try rw [← hkind] at HGB
  try rw [← hnum] at HGB
  try rw [← hs1] at HGB
  try rw [← hs2] at HGB
  try rw [← hn] at HSA
  try rw [← hnode] at HSA
  try rw [← hseq] at HSA
  try rw [← hgen] at HSA
  try rw [← hkind] at HSA
  try rw [← hnum] at HSA
  try rw [← hs1] at HSA
  try rw [← hs2] at HSA
  clear hr hac hC hR her hlx hn hnode hseq hgen hkind hnum hs1 hs2
  go_enter Try.func4, Try.ntmps4
  go_wp2_with fail
  refine (awake10 _).mono ?_
  rintro e w1 ⟨rfl, hb⟩
  have HB1 := Lib.hid hb
  clear hb
  by_cases hn : (n0 : Int) ≤ 1000
  case neg =>
    have hn2 : 1000 < (n0 : Int) := by omega
    go_wp2_with fail
    go_ret
    exact ⟨rfl, HB1.out⟩
  have hn2 : ¬ 1000 < (n0 : Int) := by omega
  go_wp2_with fail
  refine (HGA.out _ (HR.out.below HB1.out) (by omega)).mono ?_
  rintro e w2 ⟨av, cv, ar, cr, rfl, hcm, hrd, hb⟩
  have HM2 := Lib.hid hcm
  have HX2 := Lib.hid hrd
  have HB2 := Lib.hid (HB1.out.step hb)
  clear hcm hrd hb
  go_upto_region 5 with fail
  generalize hwn : w2.alloc (.cells _ _) = w3
  have hbn : Below w2.heap.size w2 w3 := by rw [← hwn]; exact (Below.refl _ _).alloc (Nat.le_refl _) _
  obtain ⟨b1, hbb⟩ : ∃ b, b = w2.heap.size := ⟨_, rfl⟩
  have HDb1 := Lib.hid (show Cel w3 b1 28 [.int .i64 node, .int .i64 seq, .int .i64 gen, .slice av n cv, .int .i64 kind, .string s1, .string s2, .int .i64 num] by rw [← hwn, hbb]; exact Cel.new w2 _ _)
  have HM3 := Lib.hid (HM2.out.below hbn)
  have HX3 := Lib.hid (HX2.out.below hbn)
  have HB3 := Lib.hid (HB2.out.step hbn)
  rw [← hbb]
  clear hwn hbn hbb
  go_wp2_with fail
  refine (HGB.out _ (HR.out.below HB3.out) (by omega)).mono ?_
  rintro e w4 ⟨av2, cv2, ar2, cr2, rfl, hcm, hrd, hb⟩
  have HN4 := Lib.hid hcm
  have HY4 := Lib.hid hrd
  have HM4 := Lib.hid (HM3.out.below hb)
  have HX4 := Lib.hid (HX3.out.below hb)
  have HD4 := Lib.hid (HDb1.out.step hb)
  have HB4 := Lib.hid (HB3.out.step hb)
  clear hcm hrd hb HDb1
  go_upto_region 6 with fail
  generalize hwn : w4.alloc (.cells _ _) = w5
  have hbn : Below w4.heap.size w4 w5 := by rw [← hwn]; exact (Below.refl _ _).alloc (Nat.le_refl _) _
  obtain ⟨b2, hbb⟩ : ∃ b, b = w4.heap.size := ⟨_, rfl⟩
  have HDb2 := Lib.hid (show Cel w5 b2 28 [.int .i64 node, .int .i64 seq, .int .i64 gen, .slice av2 n cv2, .int .i64 kind, .string s1, .string s2, .int .i64 num] by rw [← hwn, hbb]; exact Cel.new w4 _ _)
  have HM5 := Lib.hid (HM4.out.below hbn)
  have HX5 := Lib.hid (HX4.out.below hbn)
  have HN5 := Lib.hid (HN4.out.below hbn)
  have HY5 := Lib.hid (HY4.out.below hbn)
  have HD5 := Lib.hid (HD4.out.step hbn)
  have HB5 := Lib.hid (HB4.out.step hbn)
  rw [← hbb]
  clear hwn hbn hbb
  have p0 : w5.cell? ⟨b1, 0, none⟩ = some (.int .i64 node) := HD5.out.at 0 _ rfl
  have p1 : w5.cell? ⟨b1, 1, none⟩ = some (.int .i64 seq) := HD5.out.at 1 _ rfl
  have p2 : w5.cell? ⟨b1, 2, none⟩ = some (.int .i64 gen) := HD5.out.at 2 _ rfl
  have p3 : w5.cell? ⟨b1, 3, none⟩ = some (.slice av n cv) := HD5.out.at 3 _ rfl
  have p4 : w5.cell? ⟨b1, 4, none⟩ = some (.int .i64 kind) := HD5.out.at 4 _ rfl
  have p5 : w5.cell? ⟨b1, 5, none⟩ = some (.string s1) := HD5.out.at 5 _ rfl
  have p6 : w5.cell? ⟨b1, 6, none⟩ = some (.string s2) := HD5.out.at 6 _ rfl
  have p7 : w5.cell? ⟨b1, 7, none⟩ = some (.int .i64 num) := HD5.out.at 7 _ rfl
  have q0 : w5.cell? ⟨b2, 0, none⟩ = some (.int .i64 node) := HDb2.out.at 0 _ rfl
  have q1 : w5.cell? ⟨b2, 1, none⟩ = some (.int .i64 seq) := HDb2.out.at 1 _ rfl
  have q2 : w5.cell? ⟨b2, 2, none⟩ = some (.int .i64 gen) := HDb2.out.at 2 _ rfl
  have q3 : w5.cell? ⟨b2, 3, none⟩ = some (.slice av2 n cv2) := HDb2.out.at 3 _ rfl
  have q4 : w5.cell? ⟨b2, 4, none⟩ = some (.int .i64 kind) := HDb2.out.at 4 _ rfl
  have q5 : w5.cell? ⟨b2, 5, none⟩ = some (.string s1) := HDb2.out.at 5 _ rfl
  have q6 : w5.cell? ⟨b2, 6, none⟩ = some (.string s2) := HDb2.out.at 6 _ rfl
  have q7 : w5.cell? ⟨b2, 7, none⟩ = some (.int .i64 num) := HDb2.out.at 7 _ rfl
  go_wp2_with fail
  refine (HSA.out _ _ _ _ _ HM5.out HN5.out).mono ?_
  rintro e w6 ⟨rfl, hb⟩
  have HB6 := Lib.hid (HB5.out.step hb)
  obtain ⟨sx, hsx⟩ : ∃ s : ByteArray, s = ⟨R.toArray⟩ := ⟨_, rfl⟩
  have hcx : (convert 31 9 (.slice ar lx cr)).run Try.prog w6 = .ok (.string sx) w6 := by rw [hsx]; exact (HX5.out.below hb).str (P := Try.prog) 31 5 9 Try.underlying31 Try.underlying5 Try.underlying9
  have hcy : (convert 31 9 (.slice ar2 lx cr2)).run Try.prog w6 = .ok (.string sx) w6 := by rw [hsx]; exact (HY5.out.below hb).str (P := Try.prog) 31 5 9 Try.underlying31 Try.underlying5 Try.underlying9
  clear hb hsx p0 p1 p2 p3 p4 p5 p6 p7 q0 q1 q2 q3 q4 q5 q6 q7
  go_wp2_with fail
  go_ret
  exact ⟨by first | rfl | simp, HB6.out⟩
end Go.Proofs.Ytdefdccbcnpodaa
