/- The walks of Merge and Same, of the layer commit; the example's commit, and what is few. -/
import Derived.Test.YtofadpodlaakbaaGreatCmMay
namespace Go.Proofs.YtofadpodlaakbaaGreat
open Go.ChangeShapes Go.WideShapes Go.ChangeAt Go.RowKit
set_option linter.unusedVariables false
set_option linter.unusedSimpArgs false
theorem cmt_parts (c d : Cmt) : decide (c = d) = (decide (c.node = d.node) && decide (c.seq = d.seq) && decide (c.gen = d.gen) && decide (c.op.kind = d.op.kind) && decide (ByteArray.toList ⟨c.op.key.toArray⟩ = ByteArray.toList ⟨d.op.key.toArray⟩) && decide (ByteArray.toList ⟨c.op.elem.toArray⟩ = ByteArray.toList ⟨d.op.elem.toArray⟩) && decide (c.op.num = d.op.num) && decide (c.par = d.par)) := by
 obtain ⟨node, seq, gen, par, ⟨kind, key, elem, num⟩⟩ := c
 obtain ⟨node2, seq2, gen2, par2, ⟨kind2, key2, elem2, num2⟩⟩ := d
 rw [Bool.eq_iff_iff]
 simp only [toList_bytes, decide_eq_true_eq, Bool.and_eq_true, Cmt.mk.injEq, Opn.mk.injEq]
 constructor
 ·rintro ⟨h1, h2, h3, h4, h5, h6, h7, h8⟩
  exact ⟨⟨⟨⟨⟨⟨⟨h1, h2⟩, h3⟩, h5⟩, h6⟩, h7⟩, h8⟩, h4⟩
 ·rintro ⟨⟨⟨⟨⟨⟨⟨h1, h2⟩, h3⟩, h5⟩, h6⟩, h7⟩, h8⟩, h4⟩
  exact ⟨h1, h2, h3, h4, h5, h6, h7, h8⟩
set_option maxRecDepth 100000 in
set_option maxHeartbeats 2000000 in
theorem cmerge_any (c : Cmt) (a : Option Addr) (cap : Nat) (w : World) (hr : CmR w c a cap) : Calls Tryz.prog 35 #[c.val a cap] w fun e w' => e = .returned (.bool (mergeC c)) ∧ Below w.heap.size w w' := by
 have HMAY := Lib.hid (fun w' h => cmay_any c a cap w' h)
 obtain ⟨m, hm⟩ : ∃ m, m = mayC c := ⟨_, rfl⟩
 rw [← hm] at HMAY
 have HM := Lib.hid (show mergeC c = (decide (c.node = -1) && m) by rw [hm]; rfl)
 have HR := Lib.hid hr
 clear hm
 obtain ⟨node, seq, gen, par, op⟩ := c
 obtain ⟨kind, key, elem, num⟩ := op
 obtain ⟨n, hn⟩ : ∃ n, n = par.length := ⟨_, rfl⟩
 have hids := hr.ids
 simp only at hids
 rw [← hn] at hids
 have hn63 : n ≤ 9223372036854775807 := Nat.le_trans hids.le hids.cap
 unfold Cmt.val Cmt.cs at HMAY ⊢
 simp only at HMAY HM
 rw [← hn] at HMAY
 show Calls Tryz.prog 35 #[.agg #[.int .i64 node, .int .i64 seq, .int .i64 gen, .slice a par.length cap, .int .i64 kind, .string ⟨key.toArray⟩, .string ⟨elem.toArray⟩, .int .i64 num]] w _
 rw [← hn]
 obtain ⟨s1, hs1⟩ : ∃ s : ByteArray, s = ⟨key.toArray⟩ := ⟨_, rfl⟩
 obtain ⟨s2, hs2⟩ : ∃ s : ByteArray, s = ⟨elem.toArray⟩ := ⟨_, rfl⟩
 rw [← hs1, ← hs2] at HMAY ⊢
 clear hr hids hs1 hs2 hn
 go_enter Tryz.func35, Tryz.ntmps35
 go_upto_region 1 with fail
 obtain ⟨b1, hb1⟩ : ∃ b1, b1 = w.heap.size := ⟨_, rfl⟩
 have hC0 := Cel.new w 41 [.int .i64 node, .int .i64 seq, .int .i64 gen, .slice a n cap, .int .i64 kind, .string s1, .string s2, .int .i64 num]
 rw [← hb1] at hC0 ⊢
 generalize hw1 : w.alloc (.cells _ _) = w1
 have HC1 := Lib.hid (show Cel w1 b1 41 [.int .i64 node, .int .i64 seq, .int .i64 gen, .slice a n cap, .int .i64 kind, .string s1, .string s2, .int .i64 num] by rw [← hw1]; exact hC0)
 have HB1 := Lib.hid (show Below w.heap.size w w1 by rw [← hw1]; exact (Below.refl _ _).alloc (Nat.le_refl _) _)
 clear hC0 hw1 hb1
 have p0 : w1.cell? ⟨b1, 0, none⟩ = some (.int .i64 node) := HC1.out.at 0 _ rfl
 have p1 : w1.cell? ⟨b1, 1, none⟩ = some (.int .i64 seq) := HC1.out.at 1 _ rfl
 have p2 : w1.cell? ⟨b1, 2, none⟩ = some (.int .i64 gen) := HC1.out.at 2 _ rfl
 have p3 : w1.cell? ⟨b1, 3, none⟩ = some (.slice a n cap) := HC1.out.at 3 _ rfl
 have p4 : w1.cell? ⟨b1, 4, none⟩ = some (.int .i64 kind) := HC1.out.at 4 _ rfl
 have p5 : w1.cell? ⟨b1, 5, none⟩ = some (.string s1) := HC1.out.at 5 _ rfl
 have p6 : w1.cell? ⟨b1, 6, none⟩ = some (.string s2) := HC1.out.at 6 _ rfl
 have p7 : w1.cell? ⟨b1, 7, none⟩ = some (.int .i64 num) := HC1.out.at 7 _ rfl
 by_cases hm : node = -1
 ·have hm' : (node == -1) = true := by simpa using hm
  have HZ := Lib.hid (HM.out.trans (show _ = m by rw [decide_eq_true hm]; rfl))
  clear hm
  go_wp2_with fail
  refine (HMAY.out _ (HR.out.below HB1.out)).mono ?_
  rintro e w2 ⟨rfl, hb⟩
  have HB2 := Lib.hid (HB1.out.step hb)
  clear hb
  go_wp2_with fail
  go_ret
  exact ⟨retb HZ.out.symm, HB2.out⟩
 ·have hm' : (node == -1) = false := by simpa using hm
  have HZ := Lib.hid (HM.out.trans (show _ = false by rw [decide_eq_false hm]; rfl))
  clear hm
  go_wp2_with fail
  go_ret
  exact ⟨retb HZ.out.symm, HB1.out⟩
set_option maxRecDepth 100000 in
set_option maxHeartbeats 8000000 in
theorem csame_any (c d : Cmt) (a a2 : Option Addr) (cap cap2 : Nat) (w : World) (hr : CmR w c a cap) (hr2 : CmR w d a2 cap2) : Calls Tryz.prog 39 #[c.val a cap, d.val a2 cap2] w fun e w' => e = .returned (.bool (decide (c = d))) ∧ Below w.heap.size w w' := by
 have HZ0 := Lib.hid (cmt_parts c d)
 obtain ⟨n, hn⟩ : ∃ n, n = c.par.length := ⟨_, rfl⟩
 obtain ⟨n2, hn2⟩ : ∃ n2, n2 = d.par.length := ⟨_, rfl⟩
 have hids := hr.ids
 have hids2 := hr2.ids
 rw [← hn] at hids
 rw [← hn2] at hids2
 have HSI := Lib.hid (fun w' (h : Below w.heap.size w w') => sameids_any a a2 n n2 cap cap2 c.par d.par w' (hids.below h) (hids2.below h))
 obtain ⟨q, hq⟩ : ∃ q, q = decide (c.par = d.par) := ⟨_, rfl⟩
 rw [← hq] at HZ0 HSI
 unfold Cmt.val Cmt.cs
 rw [← hn, ← hn2]
 obtain ⟨Z, hZ⟩ : ∃ Z, Z = decide (c = d) := ⟨_, rfl⟩
 rw [← hZ] at HZ0 ⊢
 clear hq hn hn2 hids hids2 hr hr2 hZ
 obtain ⟨node, seq, gen, par, ⟨kind, key, elem, num⟩⟩ := c
 obtain ⟨node2, seq2, gen2, par2, ⟨kind2, key2, elem2, num2⟩⟩ := d
 simp only at HZ0 HSI ⊢
 obtain ⟨s1, hs1⟩ : ∃ s : ByteArray, s = ⟨key.toArray⟩ := ⟨_, rfl⟩
 obtain ⟨s2, hs2⟩ : ∃ s : ByteArray, s = ⟨elem.toArray⟩ := ⟨_, rfl⟩
 obtain ⟨s12, hs12⟩ : ∃ s : ByteArray, s = ⟨key2.toArray⟩ := ⟨_, rfl⟩
 obtain ⟨s22, hs22⟩ : ∃ s : ByteArray, s = ⟨elem2.toArray⟩ := ⟨_, rfl⟩
 rw [← hs1, ← hs2, ← hs12, ← hs22] at HZ0 ⊢
 clear hs1 hs2 hs12 hs22
 go_enter Tryz.func39, Tryz.ntmps39
 go_upto_region 1 with fail
 obtain ⟨b1, hb1⟩ : ∃ b1, b1 = w.heap.size := ⟨_, rfl⟩
 obtain ⟨w1, hw1⟩ : ∃ w1, w1 = w.alloc (.cells ([.int .i64 node, .int .i64 seq, .int .i64 gen, .slice a n cap, .int .i64 kind, .string s1, .string s2, .int .i64 num] : List Value).toArray 41) := ⟨_, rfl⟩
 obtain ⟨w2, hw2⟩ : ∃ w2, w2 = w1.alloc (.cells ([.int .i64 node2, .int .i64 seq2, .int .i64 gen2, .slice a2 n2 cap2, .int .i64 kind2, .string s12, .string s22, .int .i64 num2] : List Value).toArray 41) := ⟨_, rfl⟩
 have hs : w1.heap.size = w.heap.size + 1 := by rw [hw1]; exact size_alloc' _ _
 have hb01 : Below w.heap.size w w1 := by rw [hw1]; exact (Below.refl _ _).alloc (Nat.le_refl _) _
 have hb12 : Below w1.heap.size w1 w2 := by rw [hw2]; exact (Below.refl _ _).alloc (Nat.le_refl _) _
 have hc1 : Cel w1 b1 41 [.int .i64 node, .int .i64 seq, .int .i64 gen, .slice a n cap, .int .i64 kind, .string s1, .string s2, .int .i64 num] := by rw [hw1, hb1]; exact Cel.new w _ _
 have hc2 : Cel w2 (w.heap.size + 1) 41 [.int .i64 node2, .int .i64 seq2, .int .i64 gen2, .slice a2 n2 cap2, .int .i64 kind2, .string s12, .string s22, .int .i64 num2] := by rw [hw2, ← hs]; exact Cel.new w1 _ _
 rw [hw1] at hw2
 have hw2' : (w.alloc (.cells #[.int .i64 node, .int .i64 seq, .int .i64 gen, .slice a n cap, .int .i64 kind, .string s1, .string s2, .int .i64 num] 41)).alloc (.cells #[.int .i64 node2, .int .i64 seq2, .int .i64 gen2, .slice a2 n2 cap2, .int .i64 kind2, .string s12, .string s22, .int .i64 num2] 41) = w2 := hw2.symm
 rw [hw2', ← hb1]
 obtain ⟨b2, hb2⟩ : ∃ b2, b2 = b1 + 1 := ⟨_, rfl⟩
 rw [← hb1, ← hb2] at hc2
 rw [← hb2]
 have HC1 := Lib.hid (hc1.step hb12)
 have HC2 := Lib.hid hc2
 have HB2 := Lib.hid (hb01.step hb12)
 clear hb1 hb2 hw1 hw2 hw2' hs hb01 hb12 hc1 hc2
 have p0 : w2.cell? ⟨b1, 0, none⟩ = some (.int .i64 node) := HC1.out.at 0 _ rfl
 have p1 : w2.cell? ⟨b1, 1, none⟩ = some (.int .i64 seq) := HC1.out.at 1 _ rfl
 have p2 : w2.cell? ⟨b1, 2, none⟩ = some (.int .i64 gen) := HC1.out.at 2 _ rfl
 have p3 : w2.cell? ⟨b1, 3, none⟩ = some (.slice a n cap) := HC1.out.at 3 _ rfl
 have p4 : w2.cell? ⟨b1, 4, none⟩ = some (.int .i64 kind) := HC1.out.at 4 _ rfl
 have p5 : w2.cell? ⟨b1, 5, none⟩ = some (.string s1) := HC1.out.at 5 _ rfl
 have p6 : w2.cell? ⟨b1, 6, none⟩ = some (.string s2) := HC1.out.at 6 _ rfl
 have p7 : w2.cell? ⟨b1, 7, none⟩ = some (.int .i64 num) := HC1.out.at 7 _ rfl
 have q0 : w2.cell? ⟨b2, 0, none⟩ = some (.int .i64 node2) := HC2.out.at 0 _ rfl
 have q1 : w2.cell? ⟨b2, 1, none⟩ = some (.int .i64 seq2) := HC2.out.at 1 _ rfl
 have q2 : w2.cell? ⟨b2, 2, none⟩ = some (.int .i64 gen2) := HC2.out.at 2 _ rfl
 have q3 : w2.cell? ⟨b2, 3, none⟩ = some (.slice a2 n2 cap2) := HC2.out.at 3 _ rfl
 have q4 : w2.cell? ⟨b2, 4, none⟩ = some (.int .i64 kind2) := HC2.out.at 4 _ rfl
 have q5 : w2.cell? ⟨b2, 5, none⟩ = some (.string s12) := HC2.out.at 5 _ rfl
 have q6 : w2.cell? ⟨b2, 6, none⟩ = some (.string s22) := HC2.out.at 6 _ rfl
 have q7 : w2.cell? ⟨b2, 7, none⟩ = some (.int .i64 num2) := HC2.out.at 7 _ rfl
 go_wp2_with (go_at_call 37; refine (HSI.out _ HB2.out).mono ?_; rintro e w3 ⟨rfl, hb⟩)
 all_goals
  go_ret
  first
   | exact ⟨retb (by rw [HZ0.out]; simp [*]), HB2.out⟩
   | exact ⟨retb (by rw [HZ0.out]; simp [*]), HB2.out.step (by assumption)⟩
def someC : Cmt := ⟨0, 1, 1, [], ⟨0, [97], [], 1⟩⟩
def zeroC : List Value := [.int .i64 0, .int .i64 0, .int .i64 0, .slice none 0 0, .int .i64 0, .string ⟨#[]⟩, .string ⟨#[]⟩, .int .i64 0]
set_option maxRecDepth 100000 in
set_option maxHeartbeats 2000000 in
theorem some_any (w : World) : Calls Tryz.prog 15 #[] w fun e w' => e = .returned (someC.val none 0) ∧ Below w.heap.size w w' := by
 go_enter Tryz.func15, Tryz.ntmps15
 go_upto_region 1 with fail
 obtain ⟨b1, hb1⟩ : ∃ b1, b1 = w.heap.size := ⟨_, rfl⟩
 have hC0 := Cel.new w 41 zeroC
 rw [← hb1] at hC0 ⊢
 generalize hw1 : w.alloc (.cells _ _) = w1
 have hC1 : Cel w1 b1 41 zeroC := by rw [← hw1]; exact hC0
 have HB1 := Lib.hid (show Below w.heap.size w w1 by rw [← hw1]; exact (Below.refl _ _).alloc (Nat.le_refl _) _)
 have HLO := Lib.hid (Nat.le_of_eq hb1.symm)
 have HC1 := Lib.hid hC1
 have p0 : w1.cell? ⟨b1, 0, none⟩ = some (.int .i64 0) := hC1.at 0 _ rfl
 have f0 : w1.frozen? ⟨b1, 0, none⟩ = false := hC1.free 0
 have p1 : w1.cell? ⟨b1, 1, none⟩ = some (.int .i64 0) := hC1.at 1 _ rfl
 have f1 : w1.frozen? ⟨b1, 1, none⟩ = false := hC1.free 1
 have p2 : w1.cell? ⟨b1, 2, none⟩ = some (.int .i64 0) := hC1.at 2 _ rfl
 have f2 : w1.frozen? ⟨b1, 2, none⟩ = false := hC1.free 2
 have p3 : w1.cell? ⟨b1, 3, none⟩ = some (.slice none 0 0) := hC1.at 3 _ rfl
 have f3 : w1.frozen? ⟨b1, 3, none⟩ = false := hC1.free 3
 have p4 : w1.cell? ⟨b1, 4, none⟩ = some (.int .i64 0) := hC1.at 4 _ rfl
 have f4 : w1.frozen? ⟨b1, 4, none⟩ = false := hC1.free 4
 have p5 : w1.cell? ⟨b1, 5, none⟩ = some (.string ⟨#[]⟩) := hC1.at 5 _ rfl
 have f5 : w1.frozen? ⟨b1, 5, none⟩ = false := hC1.free 5
 have p6 : w1.cell? ⟨b1, 6, none⟩ = some (.string ⟨#[]⟩) := hC1.at 6 _ rfl
 have f6 : w1.frozen? ⟨b1, 6, none⟩ = false := hC1.free 6
 have p7 : w1.cell? ⟨b1, 7, none⟩ = some (.int .i64 0) := hC1.at 7 _ rfl
 have f7 : w1.frozen? ⟨b1, 7, none⟩ = false := hC1.free 7
 clear hC0 hw1 hb1 hC1
 go_wp2_with fail
 generalize hwF : World.setCell (World.setCell (World.setCell (World.setCell (World.setCell (World.setCell (World.setCell (World.setCell w1 _ _) _ _) _ _) _ _) _ _) _ _) _ _) _ _ = wF
 have HOF := Lib.hid (show Only w1 wF b1 by rw [← hwF]; exact (((((((only_set _ _ _ _).trans (only_set _ _ _ _)).trans (only_set _ _ _ _)).trans (only_set _ _ _ _)).trans (only_set _ _ _ _)).trans (only_set _ _ _ _)).trans (only_set _ _ _ _)).trans (only_set _ _ _ _))
 have HCF := Lib.hid (show Cel wF b1 41 (someC.cs none 0) by rw [← hwF]; exact (((((((HC1.out.set 0 _).set 1 _).set 2 _).set 3 _).set 4 _).set 5 _).set 6 _).set 7 _)
 clear hwF p0 p1 p2 p3 p4 p5 p6 p7 f0 f1 f2 f3 f4 f5 f6 f7
 refine bodyPost_ret (v := someC.val none 0) ?_ rfl ⟨rfl, HOF.out.below HB1.out HLO.out⟩
 have hl := run_loadVar_mid (P := Tryz.prog) wF b1 0 41 _ _ HCF.out.range Tryz.underlying41 rfl (by kernel_rfl)
 simp [results, Tryz.results15, asAddr, hl, Result.andThen, Cmt.val]
end Go.Proofs.YtofadpodlaakbaaGreat
