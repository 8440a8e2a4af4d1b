/- The walks of Same, of the layer msg, and of the laws' Few. -/
import Derived.Test.YtofadpodlaakbaaGreatMsgMay
namespace Go.Proofs.YtofadpodlaakbaaGreat
open Go.ChangeShapes Go.WideShapes Go.ChangeAt Go.RowKit
set_option linter.unusedVariables false
set_option linter.unusedSimpArgs false
theorem eq_getD {l l2 : List Cmt} (h : l.length = l2.length) (hj : ∀ j, j < l.length → l.getD j noC = l2.getD j noC) : l = l2 := by
 refine List.ext_getElem h (fun j h1 h2 => ?_)
 have := hj j h1
 rw [List.getD_eq_getElem?_getD, List.getD_eq_getElem?_getD, List.getElem?_eq_getElem h1, List.getElem?_eq_getElem h2] at this
 exact this
def sameV : Value := .func (.func 39) #[] #[]
set_option maxRecDepth 100000 in
set_option maxHeartbeats 8000000 in
theorem eqfunc_any (a a2 : Option Addr) (n n2 c c2 : Nat) (l l2 : List Cmt) (w : World) (hr : Cms w a n c l) (hr2 : Cms w a2 n2 c2 l2) : Calls Tryz.prog 38 #[.slice a n c, .slice a2 n2 c2, sameV] w fun e w' => e = .returned (.bool (decide (l = l2))) ∧ Below w.heap.size w w' := by
 have HR := Lib.hid hr
 have HR2 := Lib.hid hr2
 have hn63 : n ≤ 9223372036854775807 := Nat.le_trans hr.le hr.cap
 have hn263 : n2 ≤ 9223372036854775807 := Nat.le_trans hr2.le hr2.cap
 have HL := Lib.hid (And.intro hr.len hr2.len)
 clear hr hr2
 unfold sameV
 by_cases hnn : n = n2
 case neg =>
  have HF := Lib.hid (show decide (l = l2) = false from decide_eq_false (fun h => hnn (by rw [← HL.out.1, ← HL.out.2, h])))
  have hne : ¬ (n : Int) = (n2 : Int) := by omega
  go_enter Tryz.func38, Tryz.ntmps38
  go_wp2_with fail
  go_ret
  exact ⟨retb HF.out.symm, Below.refl _ _⟩
 subst hnn
 go_enter Tryz.func38, Tryz.ntmps38
 go_wp2_with fail
 go_loopw [17] (fun v17 wr => ∃ i : Nat, i ≤ n ∧ v17 = .int .i64 (i : Int) ∧ Hid (∀ j, j < i → l.getD j noC = l2.getD j noC) ∧ Hid (Below w.heap.size w wr)) (fun v17 _ => n - (intOf v17).toNat)
 case atStart => exact ⟨0, Nat.zero_le _, rfl, Lib.hid (fun j hj => by omega), Lib.hid (Below.refl _ _)⟩
 case round =>
  obtain ⟨i, hi, rfl, hA, hB⟩ := hrel
  by_cases hlt : i < n
  ·have hlt' : (i : Int) < (n : Int) := by omega
   have hi0 : (0 : Int) ≤ (i : Int) := by omega
   rcases HR.out.cells with h0 | ⟨b, off, rfl, hc⟩
   ·omega
   rcases HR2.out.cells with h0 | ⟨b', off', rfl, hc'⟩
   ·omega
   obtain ⟨pa, pc, hrg, hcm⟩ := hc i hlt
   obtain ⟨pa2, pc2, hrg', hcm'⟩ := hc' i hlt
   obtain ⟨x, hx⟩ : ∃ x, x = l.getD i noC := ⟨_, rfl⟩
   obtain ⟨y, hy⟩ : ∃ x, x = l2.getD i noC := ⟨_, rfl⟩
   rw [← hx] at hrg hcm
   rw [← hy] at hrg' hcm'
   have HX := Lib.hid (And.intro hx hy)
   have HCM := Lib.hid (And.intro (hcm.below hB.out) (hcm'.below hB.out))
   have hrg2 := rng_below hrg hB.out
   have hrg3 := rng_below hrg' hB.out
   have q0 : wr.cell? ⟨b, off + i * 8, none⟩ = some (.int .i64 x.node) := hrg2 0 _ rfl
   have q1 : wr.cell? ⟨b, off + i * 8 + 1, none⟩ = some (.int .i64 x.seq) := hrg2 1 _ rfl
   have q2 : wr.cell? ⟨b, off + i * 8 + 2, none⟩ = some (.int .i64 x.gen) := hrg2 2 _ rfl
   have q3 : wr.cell? ⟨b, off + i * 8 + 3, none⟩ = some (.slice pa x.par.length pc) := hrg2 3 _ rfl
   have q4 : wr.cell? ⟨b, off + i * 8 + 4, none⟩ = some (.int .i64 x.op.kind) := hrg2 4 _ rfl
   have q5 : wr.cell? ⟨b, off + i * 8 + 5, none⟩ = some (.string ⟨x.op.key.toArray⟩) := hrg2 5 _ rfl
   have q6 : wr.cell? ⟨b, off + i * 8 + 6, none⟩ = some (.string ⟨x.op.elem.toArray⟩) := hrg2 6 _ rfl
   have q7 : wr.cell? ⟨b, off + i * 8 + 7, none⟩ = some (.int .i64 x.op.num) := hrg2 7 _ rfl
   have HRY := Lib.hid (show wr.rangeAt b' (off' + i * 8) [.int .i64 y.node, .int .i64 y.seq, .int .i64 y.gen, .slice pa2 y.par.length pc2, .int .i64 y.op.kind, .string ⟨y.op.key.toArray⟩, .string ⟨y.op.elem.toArray⟩, .int .i64 y.op.num] from hrg3)
   obtain ⟨sm, hsm⟩ : ∃ b, b = decide (x = y) := ⟨_, rfl⟩
   have HSA := Lib.hid (fun w' h h' => csame_any x y pa pa2 pc pc2 w' h h')
   rw [← hsm] at HSA
   have HSM := Lib.hid hsm
   unfold Cmt.val Cmt.cs at HSA
   clear hc hc' hx hy hcm hcm' hrg hrg' hrg2 hrg3 hsm
   generalize hg_xnode : x.node = node_x at HSA q0 q1 q2 q3 q4 q5 q6 q7
   generalize hg_xseq : x.seq = seq_x at HSA q0 q1 q2 q3 q4 q5 q6 q7
   generalize hg_xgen : x.gen = gen_x at HSA q0 q1 q2 q3 q4 q5 q6 q7
   generalize hg_xnp : x.par.length = np_x at HSA q0 q1 q2 q3 q4 q5 q6 q7
   generalize hg_xkd : x.op.kind = kd_x at HSA q0 q1 q2 q3 q4 q5 q6 q7
   generalize hg_xs1 : (⟨x.op.key.toArray⟩ : ByteArray) = s1_x at HSA q0 q1 q2 q3 q4 q5 q6 q7
   generalize hg_xs2 : (⟨x.op.elem.toArray⟩ : ByteArray) = s2_x at HSA q0 q1 q2 q3 q4 q5 q6 q7
   generalize hg_xnum : x.op.num = num_x at HSA q0 q1 q2 q3 q4 q5 q6 q7
   clear hg_xnode hg_xseq hg_xgen hg_xnp hg_xkd hg_xs1 hg_xs2 hg_xnum
   generalize hg_ynode : y.node = node_y at HSA HRY
   generalize hg_yseq : y.seq = seq_y at HSA HRY
   generalize hg_ygen : y.gen = gen_y at HSA HRY
   generalize hg_ynp : y.par.length = np_y at HSA HRY
   generalize hg_ykd : y.op.kind = kd_y at HSA HRY
   generalize hg_ys1 : (⟨y.op.key.toArray⟩ : ByteArray) = s1_y at HSA HRY
   generalize hg_ys2 : (⟨y.op.elem.toArray⟩ : ByteArray) = s2_y at HSA HRY
   generalize hg_ynum : y.op.num = num_y at HSA HRY
   clear hg_ynode hg_yseq hg_ygen hg_ynp hg_ykd hg_ys1 hg_ys2 hg_ynum
   go_upto_region 6 with fail
   generalize hw1 : wr.alloc (.cells _ _) = w1
   have b01 : Below wr.heap.size wr w1 := by rw [← hw1]; exact (Below.refl _ _).alloc (Nat.le_refl _) _
   obtain ⟨b1, hb1⟩ : ∃ b, b = wr.heap.size := ⟨_, rfl⟩
   have c1 : Cel w1 b1 41 [.int .i64 node_x, .int .i64 seq_x, .int .i64 gen_x, .slice pa np_x pc, .int .i64 kd_x, .string s1_x, .string s2_x, .int .i64 num_x] := by rw [← hw1, hb1]; exact Cel.new wr _ _
   rw [← hb1]
   have HC1 := Lib.hid c1
   have HB1 := Lib.hid (hB.out.step b01)
   have HCM1 := Lib.hid (And.intro (HCM.out.1.below b01) (HCM.out.2.below b01))
   have hry := rng_below HRY.out b01
   clear hw1 b01 hb1 c1 HRY q0 q1 q2 q3 q4 q5 q6 q7
   have r0 : w1.cell? ⟨b', off' + i * 8, none⟩ = some (.int .i64 node_y) := hry 0 _ rfl
   have r1 : w1.cell? ⟨b', off' + i * 8 + 1, none⟩ = some (.int .i64 seq_y) := hry 1 _ rfl
   have r2 : w1.cell? ⟨b', off' + i * 8 + 2, none⟩ = some (.int .i64 gen_y) := hry 2 _ rfl
   have r3 : w1.cell? ⟨b', off' + i * 8 + 3, none⟩ = some (.slice pa2 np_y pc2) := hry 3 _ rfl
   have r4 : w1.cell? ⟨b', off' + i * 8 + 4, none⟩ = some (.int .i64 kd_y) := hry 4 _ rfl
   have r5 : w1.cell? ⟨b', off' + i * 8 + 5, none⟩ = some (.string s1_y) := hry 5 _ rfl
   have r6 : w1.cell? ⟨b', off' + i * 8 + 6, none⟩ = some (.string s2_y) := hry 6 _ rfl
   have r7 : w1.cell? ⟨b', off' + i * 8 + 7, none⟩ = some (.int .i64 num_y) := hry 7 _ rfl
   clear hry
   go_upto_region 7 with fail
   generalize hw2 : w1.alloc (.cells _ _) = w2
   have b12 : Below w1.heap.size w1 w2 := by rw [← hw2]; exact (Below.refl _ _).alloc (Nat.le_refl _) _
   obtain ⟨b2, hb2⟩ : ∃ b, b = w1.heap.size := ⟨_, rfl⟩
   have c2 : Cel w2 b2 41 [.int .i64 node_y, .int .i64 seq_y, .int .i64 gen_y, .slice pa2 np_y pc2, .int .i64 kd_y, .string s1_y, .string s2_y, .int .i64 num_y] := by rw [← hw2, hb2]; exact Cel.new w1 _ _
   rw [← hb2]
   have HC2 := Lib.hid (HC1.out.step b12)
   have HE2 := Lib.hid c2
   have HB2 := Lib.hid (HB1.out.step b12)
   have HCM2 := Lib.hid (And.intro (HCM1.out.1.below b12) (HCM1.out.2.below b12))
   clear hw2 b12 hb2 c2 r0 r1 r2 r3 r4 r5 r6 r7
   have p0 : w2.cell? ⟨b1, 0, none⟩ = some (.int .i64 node_x) := HC2.out.at 0 _ rfl
   have p1 : w2.cell? ⟨b1, 1, none⟩ = some (.int .i64 seq_x) := HC2.out.at 1 _ rfl
   have p2 : w2.cell? ⟨b1, 2, none⟩ = some (.int .i64 gen_x) := HC2.out.at 2 _ rfl
   have p3 : w2.cell? ⟨b1, 3, none⟩ = some (.slice pa np_x pc) := HC2.out.at 3 _ rfl
   have p4 : w2.cell? ⟨b1, 4, none⟩ = some (.int .i64 kd_x) := HC2.out.at 4 _ rfl
   have p5 : w2.cell? ⟨b1, 5, none⟩ = some (.string s1_x) := HC2.out.at 5 _ rfl
   have p6 : w2.cell? ⟨b1, 6, none⟩ = some (.string s2_x) := HC2.out.at 6 _ rfl
   have p7 : w2.cell? ⟨b1, 7, none⟩ = some (.int .i64 num_x) := HC2.out.at 7 _ rfl
   have q0 : w2.cell? ⟨b2, 0, none⟩ = some (.int .i64 node_y) := HE2.out.at 0 _ rfl
   have q1 : w2.cell? ⟨b2, 1, none⟩ = some (.int .i64 seq_y) := HE2.out.at 1 _ rfl
   have q2 : w2.cell? ⟨b2, 2, none⟩ = some (.int .i64 gen_y) := HE2.out.at 2 _ rfl
   have q3 : w2.cell? ⟨b2, 3, none⟩ = some (.slice pa2 np_y pc2) := HE2.out.at 3 _ rfl
   have q4 : w2.cell? ⟨b2, 4, none⟩ = some (.int .i64 kd_y) := HE2.out.at 4 _ rfl
   have q5 : w2.cell? ⟨b2, 5, none⟩ = some (.string s1_y) := HE2.out.at 5 _ rfl
   have q6 : w2.cell? ⟨b2, 6, none⟩ = some (.string s2_y) := HE2.out.at 6 _ rfl
   have q7 : w2.cell? ⟨b2, 7, none⟩ = some (.int .i64 num_y) := HE2.out.at 7 _ rfl
   go_wp2_with fail
   refine (HSA.out _ HCM2.out.1 HCM2.out.2).mono ?_
   rintro e w3 ⟨rfl, hb⟩
   have HB3 := Lib.hid (HB2.out.step hb)
   clear hb p0 p1 p2 p3 p4 p5 p6 p7 q0 q1 q2 q3 q4 q5 q6 q7
   cases sm with
   | false =>
    have HF := Lib.hid (show decide (l = l2) = false from decide_eq_false (fun h => by
     have h2 := HSM.out
     rw [HX.out.1, HX.out.2, h, decide_eq_true rfl] at h2
     cases h2))
    go_wp2_with fail
    go_ret
    exact ⟨retb HF.out.symm, HB3.out⟩
   | true =>
    go_wp2_with fail
    refine ⟨⟨i + 1, by omega, by go_num, Lib.hid (fun j hj => ?_), HB3⟩, ?_⟩
    ·by_cases e : j = i
     ·rw [e, ← HX.out.1, ← HX.out.2]; exact of_decide_eq_true HSM.out.symm
     ·exact hA.out j (by omega)
    ·simp [intOf]; omega
  ·have hlt' : ¬ (i : Int) < (n : Int) := by omega
   have HF := Lib.hid (show decide (l = l2) = true from decide_eq_true (eq_getD (by rw [HL.out.1, HL.out.2]) (fun j hj => hA.out j (by have := HL.out.1; omega))))
   go_wp2_with fail
   go_ret
   exact ⟨retb HF.out.symm, hB.out⟩
theorem msg_parts (m m2 : Msg) : decide (m = m2) = (decide (m.kind = m2.kind) && decide (m.ids = m2.ids) && decide (m.cms = m2.cms)) := by
 obtain ⟨k, i, c⟩ := m
 obtain ⟨k2, i2, c2⟩ := m2
 simp [Bool.decide_and, Bool.and_assoc]
set_option maxRecDepth 100000 in
set_option maxHeartbeats 8000000 in
theorem msame_any (m m2 : Msg) (ai : Option Addr) (ci : Nat) (ac : Option Addr) (cc : Nat) (ai2 : Option Addr) (ci2 : Nat) (ac2 : Option Addr) (cc2 : Nat) (w : World) (hr : MsgR w m ai ci ac cc) (hr2 : MsgR w m2 ai2 ci2 ac2 cc2) : Calls Tryz.prog 12 #[m.val ai ci ac cc, m2.val ai2 ci2 ac2 cc2] w fun e w' => e = .returned (.bool (decide (m = m2))) ∧ Below w.heap.size w w' := by
 have HZ := Lib.hid (msg_parts m m2)
 have HR := Lib.hid (And.intro hr hr2)
 have HSI := Lib.hid (fun w' h h' => sameids_any ai ai2 m.ids.length m2.ids.length ci ci2 m.ids m2.ids w' h h')
 have HEQ := Lib.hid (fun w' h h' => eqfunc_any ac ac2 m.cms.length m2.cms.length cc cc2 m.cms m2.cms w' h h')
 unfold sameV at HEQ
 obtain ⟨Z, hZ⟩ : ∃ Z, Z = decide (m = m2) := ⟨_, rfl⟩
 obtain ⟨q, hq⟩ : ∃ q, q = decide (m.ids = m2.ids) := ⟨_, rfl⟩
 obtain ⟨r, hr_⟩ : ∃ q, q = decide (m.cms = m2.cms) := ⟨_, rfl⟩
 rw [← hZ, ← hq, ← hr_] at HZ
 rw [← hq] at HSI
 rw [← hr_] at HEQ
 rw [← hZ]
 unfold Msg.val Msg.cs
 obtain ⟨kind, hk⟩ : ∃ x, x = m.kind := ⟨_, rfl⟩
 obtain ⟨kind2, hk2⟩ : ∃ x, x = m2.kind := ⟨_, rfl⟩
 obtain ⟨n1, hn1⟩ : ∃ x, x = m.ids.length := ⟨_, rfl⟩
 obtain ⟨n2, hn2⟩ : ∃ x, x = m.cms.length := ⟨_, rfl⟩
 obtain ⟨n12, hn12⟩ : ∃ x, x = m2.ids.length := ⟨_, rfl⟩
 obtain ⟨n22, hn22⟩ : ∃ x, x = m2.cms.length := ⟨_, rfl⟩
 have HI := Lib.hid (And.intro hr.ids (And.intro hr2.ids (And.intro hr.cms hr2.cms)))
 rw [← hn1, ← hn12, ← hn2, ← hn22] at HI
 rw [← hk, ← hk2] at HZ
 rw [← hn1, ← hn12] at HSI
 rw [← hn2, ← hn22] at HEQ
 rw [← hk, ← hk2, ← hn1, ← hn12, ← hn2, ← hn22]
 clear hr hr2 HR hZ hq hr_ hk hk2 hn1 hn2 hn12 hn22
 go_enter Tryz.func12, Tryz.ntmps12
 go_upto_region 1 with fail
 obtain ⟨w1, hw1⟩ : ∃ w1, w1 = w.alloc (.cells ([.int .i64 kind, .slice ai n1 ci, .slice ac n2 cc] : List Value).toArray 25) := ⟨_, rfl⟩
 obtain ⟨w2, hw2⟩ : ∃ w2, w2 = w1.alloc (.cells ([.int .i64 kind2, .slice ai2 n12 ci2, .slice ac2 n22 cc2] : List Value).toArray 25) := ⟨_, rfl⟩
 have z1 : w1.heap.size = w.heap.size + 1 := by rw [hw1]; exact size_alloc' _ _
 have b01 : Below w.heap.size w w1 := by rw [hw1]; exact (Below.refl _ _).alloc (Nat.le_refl _) _
 have b12 : Below w1.heap.size w1 w2 := by rw [hw2]; exact (Below.refl _ _).alloc (Nat.le_refl _) _
 have c1 : Cel w1 w.heap.size 25 [.int .i64 kind, .slice ai n1 ci, .slice ac n2 cc] := by rw [hw1]; exact Cel.new w _ _
 have c2 : Cel w2 (w.heap.size + 1) 25 [.int .i64 kind2, .slice ai2 n12 ci2, .slice ac2 n22 cc2] := by rw [hw2, ← z1]; exact Cel.new w1 _ _
 generalize hwg : World.alloc (World.alloc w _) _ = wG
 obtain rfl : w2 = wG := by rw [← hwg, hw2, hw1]
 obtain ⟨b1, hb1⟩ : ∃ b, b = w.heap.size := ⟨_, rfl⟩
 obtain ⟨b2, hb2⟩ : ∃ b, b = w.heap.size + 1 := ⟨_, rfl⟩
 rw [← hb2] at c2 ⊢
 rw [← hb1] at c1 ⊢
 have HC2 := Lib.hid (c1.step b12)
 have HE2 := Lib.hid c2
 have HB2 := Lib.hid (b01.step b12)
 clear hwg hw1 hw2 z1 b01 b12 c1 c2 hb1 hb2
 have p0 : w2.cell? ⟨b1, 0, none⟩ = some (.int .i64 kind) := HC2.out.at 0 _ rfl
 have p1 : w2.cell? ⟨b1, 1, none⟩ = some (.slice ai n1 ci) := HC2.out.at 1 _ rfl
 have q0 : w2.cell? ⟨b2, 0, none⟩ = some (.int .i64 kind2) := HE2.out.at 0 _ rfl
 have q1 : w2.cell? ⟨b2, 1, none⟩ = some (.slice ai2 n12 ci2) := HE2.out.at 1 _ rfl
 by_cases hk : kind = kind2
 case neg =>
  have HF := Lib.hid (show Z = false by rw [HZ.out, decide_eq_false hk]; rfl)
  go_wp2_with fail
  go_ret
  exact ⟨retb HF.out.symm, HB2.out⟩
 subst hk
 rw [decide_eq_true rfl] at HZ
 go_wp2_with fail
 refine (HSI.out _ (HI.out.1.below HB2.out) (HI.out.2.1.below HB2.out)).mono ?_
 rintro e w3 ⟨rfl, hb⟩
 have HC3 := Lib.hid (HC2.out.step hb)
 have HE3 := Lib.hid (HE2.out.step hb)
 have HB3 := Lib.hid (HB2.out.step hb)
 clear hb p0 p1 q0 q1
 cases q with
 | false =>
  have HF := Lib.hid (show Z = false by rw [HZ.out]; rfl)
  go_wp2_with fail
  go_ret
  exact ⟨retb HF.out.symm, HB3.out⟩
 | true =>
  have HF := Lib.hid (show Z = r by rw [HZ.out]; rfl)
  have p2 : w3.cell? ⟨b1, 2, none⟩ = some (.slice ac n2 cc) := HC3.out.at 2 _ rfl
  have q2 : w3.cell? ⟨b2, 2, none⟩ = some (.slice ac2 n22 cc2) := HE3.out.at 2 _ rfl
  go_wp2_with fail
  refine (HEQ.out _ (HI.out.2.2.1.below HB3.out) (HI.out.2.2.2.below HB3.out)).mono ?_
  rintro e w4 ⟨rfl, hb⟩
  have HB4 := Lib.hid (HB3.out.step hb)
  clear hb p2 q2
  go_wp2_with fail
  go_ret
  exact ⟨retb HF.out.symm, HB4.out⟩
/-! ### Few -/
end Go.Proofs.YtofadpodlaakbaaGreat
