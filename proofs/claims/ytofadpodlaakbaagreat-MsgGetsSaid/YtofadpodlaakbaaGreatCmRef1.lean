/- The walks of the reference's Event, May, Merge and Same. -/
import Derived.Test.YtofadpodlaakbaaGreatCmSmall
import Derived.Test.YtofadpodlaakbaaGreatOpsRefMay
namespace Go.Proofs.YtofadpodlaakbaaGreat
open Go.ChangeShapes Go.WideShapes Go.ChangeAt Go.RowKit
set_option linter.unusedVariables false
set_option linter.unusedSimpArgs false
set_option maxRecDepth 100000 in
theorem event_ref (n s : Int) (w : World) : Calls Tryz.prog 57 #[.agg #[.int .i64 n, .int .i64 s]] w fun e w' => e = .returned (.bool (inI n 0 7 && inI s 1 1048576)) ∧ Below w.heap.size w w' := by
 have HB := Lib.hid (show Below w.heap.size w (w.alloc (.cells #[.int .i64 n, .int .i64 s] 37)) from (Below.refl _ _).alloc (Nat.le_refl _) _)
 have HF := Lib.hid (show inI n 0 7 = (decide (0 ≤ n) && decide (n < 8)) by unfold inI; congr 1; exact Bool.eq_iff_iff.2 (by simp; omega))
 have HS := Lib.hid (show inI s 1 1048576 = (decide (1 ≤ s) && decide (s ≤ 1048576)) from rfl)
 by_cases h0 : n ≥ 0
 case neg =>
  go_enter Tryz.func57, Tryz.ntmps57
  go_wp2_with fail
  go_ret
  exact ⟨retb (by rw [HF.out, decide_eq_false (show ¬ 0 ≤ n by omega)]; rfl), HB.out⟩
 by_cases h1 : n < 8
 case neg =>
  go_enter Tryz.func57, Tryz.ntmps57
  go_wp2_with fail
  go_ret
  exact ⟨retb (by rw [HF.out, decide_eq_false (show ¬ n < 8 by omega), Bool.and_false]; rfl), HB.out⟩
 by_cases h2 : s ≥ 1
 case neg =>
  go_enter Tryz.func57, Tryz.ntmps57
  go_wp2_with fail
  go_ret
  exact ⟨retb (by rw [HS.out, decide_eq_false (show ¬ 1 ≤ s by omega)]; simp), HB.out⟩
 by_cases h3 : s ≤ 1048576
 case neg =>
  go_enter Tryz.func57, Tryz.ntmps57
  go_wp2_with fail
  go_ret
  exact ⟨retb (by rw [HS.out, decide_eq_false (show ¬ s ≤ 1048576 by omega)]; simp), HB.out⟩
 go_enter Tryz.func57, Tryz.ntmps57
 go_wp2_with fail
 go_ret
 exact ⟨retb (by rw [HF.out, HS.out, decide_eq_true (show 0 ≤ n from h0), decide_eq_true h1, decide_eq_true (show 1 ≤ s from h2), decide_eq_true h3]; rfl), HB.out⟩
set_option maxRecDepth 100000 in
set_option maxHeartbeats 4000000 in
theorem cmay_ref (c : Cmt) (a : Option Addr) (cap : Nat) (w : World) (hr : CmR w c a cap) : Calls Tryz.prog 28 #[c.val a cap] w fun e w' => e = .returned (.bool (mayC c)) ∧ Below w.heap.size w w' := by
 obtain ⟨node, seq, gen, par, op⟩ := c
 obtain ⟨n, hn⟩ : ∃ n, n = par.length := ⟨_, rfl⟩
 have hids := hr.ids
 simp only at hids
 rw [← hn] at hids
 have hn63 : n ≤ 9223372036854775807 := Nat.le_trans hids.le hids.cap
 obtain ⟨r, hrr⟩ : ∃ r, r = risesL par := ⟨_, rfl⟩
 obtain ⟨ob, hob⟩ : ∃ ob, ob = mayB op := ⟨_, rfl⟩
 obtain ⟨z, hz⟩ : ∃ z, z = decide (op = zeroO) := ⟨_, rfl⟩
 obtain ⟨i0, hi0⟩ : ∃ b, b = (inI node 0 7 && inI seq 1 1048576) := ⟨_, rfl⟩
 have HM := Lib.hid (show mayC ⟨node, seq, gen, par, op⟩ = (inI gen 1 1048576 && decide (n ≤ 8) && r && (decide (gen = 1) == decide (n = 0)) && (if node = -1 then decide (2 ≤ n) && decide (seq = 0) && z else i0 && ob)) by
  rw [hrr, hob, hz, hi0, hn]; rfl)
 have HE := Lib.hid (fun w' => event_ref node seq w')
 rw [← hi0] at HE
 have HRI := Lib.hid (fun w' (h : Ids w' a n cap par) => rises_ref a n cap par w' h)
 rw [← hrr] at HRI
 obtain ⟨kind, key, elem, num⟩ := op
 have HOB := Lib.hid (fun w' => may_ref kind num key elem w' hr.key hr.elem)
 rw [← hob] at HOB
 have HZ := Lib.hid (show z = (decide (kind = 0) && decide (ByteArray.toList ⟨key.toArray⟩ = []) && decide (ByteArray.toList ⟨elem.toArray⟩ = []) && decide (num = 0)) by
  rw [hz, toList_bytes, toList_bytes, Bool.eq_iff_iff]
  simp [zeroO, and_assoc])
 have HR := Lib.hid hids
 show Calls Tryz.prog 28 #[.agg #[.int .i64 node, .int .i64 seq, .int .i64 gen, .slice a par.length cap, .int .i64 kind, .string ⟨key.toArray⟩, .string ⟨elem.toArray⟩, .int .i64 num]] w _
 rw [← hn]
 obtain ⟨s1, hs1⟩ : ∃ s : ByteArray, s = ⟨key.toArray⟩ := ⟨_, rfl⟩
 obtain ⟨s2, hs2⟩ : ∃ s : ByteArray, s = ⟨elem.toArray⟩ := ⟨_, rfl⟩
 rw [← hs1, ← hs2] at HOB HZ ⊢
 clear hr hids hrr hob hz hi0 hs1 hs2 hn
 go_enter Tryz.func28, Tryz.ntmps28
 go_upto_region 1 with fail
 obtain ⟨b1, hb1⟩ : ∃ b1, b1 = w.heap.size := ⟨_, rfl⟩
 have hC0 := Cel.new w 41 [.int .i64 node, .int .i64 seq, .int .i64 gen, .slice a n cap, .int .i64 kind, .string s1, .string s2, .int .i64 num]
 rw [← hb1] at hC0 ⊢
 generalize hw1 : w.alloc (.cells _ _) = w1
 have HC1 := Lib.hid (show Cel w1 b1 41 [.int .i64 node, .int .i64 seq, .int .i64 gen, .slice a n cap, .int .i64 kind, .string s1, .string s2, .int .i64 num] by rw [← hw1]; exact hC0)
 have HB1 := Lib.hid (show Below w.heap.size w w1 by rw [← hw1]; exact (Below.refl _ _).alloc (Nat.le_refl _) _)
 clear hC0 hw1 hb1
 have p3 : w1.cell? ⟨b1, 3, none⟩ = some (.slice a n cap) := HC1.out.at 3 _ rfl
 go_wp2_with fail
 refine (HRI.out _ (HR.out.below HB1.out)).mono ?_
 rintro e w2 ⟨rfl, hb⟩
 have HB2 := Lib.hid (HB1.out.step hb)
 have HC2 := Lib.hid (HC1.out.step hb)
 clear p3 hb HB1 HC1
 have p0 : w2.cell? ⟨b1, 0, none⟩ = some (.int .i64 node) := HC2.out.at 0 _ rfl
 have p1 : w2.cell? ⟨b1, 1, none⟩ = some (.int .i64 seq) := HC2.out.at 1 _ rfl
 have p2 : w2.cell? ⟨b1, 2, none⟩ = some (.int .i64 gen) := HC2.out.at 2 _ rfl
 have p3 : w2.cell? ⟨b1, 3, none⟩ = some (.slice a n cap) := HC2.out.at 3 _ rfl
 have p4 : w2.cell? ⟨b1, 4, none⟩ = some (.int .i64 kind) := HC2.out.at 4 _ rfl
 have p5 : w2.cell? ⟨b1, 5, none⟩ = some (.string s1) := HC2.out.at 5 _ rfl
 have p6 : w2.cell? ⟨b1, 6, none⟩ = some (.string s2) := HC2.out.at 6 _ rfl
 have p7 : w2.cell? ⟨b1, 7, none⟩ = some (.int .i64 num) := HC2.out.at 7 _ rfl
 by_cases hg1 : gen < 1
 ·have HF := Lib.hid (HM.out.trans (show _ = false by unfold inI; rw [decide_eq_false (show ¬ 1 ≤ gen by omega)]; rfl))
  go_wp2_with fail
  go_ret
  exact ⟨retb HF.out.symm, HB2.out⟩
 by_cases hg2 : gen > 1048576
 ·have HF := Lib.hid (HM.out.trans (show _ = false by unfold inI; rw [decide_eq_false (show ¬ gen ≤ 1048576 by omega), Bool.and_false]; rfl))
  go_wp2_with fail
  go_ret
  exact ⟨retb HF.out.symm, HB2.out⟩
 by_cases h8 : (n : Int) > 8
 ·have HF := Lib.hid (HM.out.trans (show _ = false by rw [decide_eq_false (show ¬ n ≤ 8 by omega), Bool.and_false]; rfl))
  go_wp2_with fail
  go_ret
  exact ⟨retb HF.out.symm, HB2.out⟩
 cases r with
 | false =>
  go_wp2_with fail
  go_ret
  exact ⟨retb (by rw [HM.out, Bool.and_false]; rfl), HB2.out⟩
 | true =>
  have HM2 := Lib.hid (HM.out.trans (show _ = ((decide (gen = 1) == decide (n = 0)) && (if node = -1 then decide (2 ≤ n) && decide (seq = 0) && z else i0 && ob)) by
   unfold inI
   rw [decide_eq_true (show n ≤ 8 by omega), decide_eq_true (show 1 ≤ gen by omega), decide_eq_true (show gen ≤ 1048576 by omega)]; rfl))
  clear HM
  obtain ⟨x, hx⟩ : ∃ x, x = (gen == 1) := ⟨_, rfl⟩
  obtain ⟨y, hy⟩ : ∃ y, y = ((n : Int) == 0) := ⟨_, rfl⟩
  have HM3 := Lib.hid (HM2.out.trans (show _ = ((x == y) && (if node = -1 then decide (2 ≤ n) && decide (seq = 0) && z else i0 && ob)) by
   have e1 : decide (gen = 1) = x := by rw [hx]; exact (Bool.eq_iff_iff.2 (by simp))
   have e2 : decide (n = 0) = y := by rw [hy]; exact (Bool.eq_iff_iff.2 (by simp))
   rw [e1, e2]))
  have hx' : (gen == 1) = x := hx.symm
  have hy' : ((n : Int) == 0) = y := hy.symm
  clear HM2 hx hy
  cases x <;> cases y
  case false.true =>
   go_wp2_with fail
   go_ret
   exact ⟨retb (by rw [HM3.out]; rfl), HB2.out⟩
  case true.false =>
   go_wp2_with fail
   go_ret
   exact ⟨retb (by rw [HM3.out]; rfl), HB2.out⟩
  all_goals
   have HM3' := Lib.hid (HM3.out.trans (show _ = (if node = -1 then decide (2 ≤ n) && decide (seq = 0) && z else i0 && ob) from rfl))
   clear HM3
   by_cases hm : node = -1
   ·have HM4 := Lib.hid (HM3'.out.trans (show _ = (decide (2 ≤ n) && decide (seq = 0) && z) by rw [if_pos hm]))
    have hm' : (node == -1) = true := by simpa using hm
    clear HM3' hm
    by_cases h3 : seq = 0
    case neg =>
     have hd3 : (seq == 0) = false := by simpa using h3
     have HF := Lib.hid (show decide (seq = 0) = false from decide_eq_false h3)
     clear h3
     go_wp2_with fail
     go_ret
     exact ⟨retb (by rw [HM4.out, HF.out, Bool.and_false]; rfl), HB2.out⟩
    have hd3 : (seq == 0) = true := by simpa using h3
    have HF := Lib.hid (show (decide (2 ≤ n) && decide (seq = 0) && z) = (decide (2 ≤ n) && z) by rw [decide_eq_true h3, Bool.and_true])
    clear h3
    by_cases h2 : (n : Int) ≥ 2
    ·have HG := Lib.hid (show (decide (2 ≤ n) && z) = z by rw [decide_eq_true (show 2 ≤ n by omega)]; rfl)
     go_wp2_with fail
     all_goals
      go_ret
      exact ⟨retb (by rw [HM4.out, HF.out, HG.out, HZ.out]; simp [*]), HB2.out⟩
    ·have HG := Lib.hid (show (decide (2 ≤ n) && z) = false by rw [decide_eq_false (show ¬ 2 ≤ n by omega)]; rfl)
     go_wp2_with fail
     all_goals
      go_ret
      exact ⟨retb (by rw [HM4.out, HF.out, HG.out] <;> first | rfl | exact decide_eq_false (by omega)), HB2.out⟩
   ·have HM4 := Lib.hid (HM3'.out.trans (show _ = (i0 && ob) by rw [if_neg hm]))
    have hm' : (node == -1) = false := by simpa using hm
    clear HM3' hm
    go_wp2_with fail
    refine (HE.out _).mono ?_
    rintro e w3 ⟨rfl, hb⟩
    have HB3 := Lib.hid (HB2.out.step hb)
    have HC3 := Lib.hid (HC2.out.step hb)
    clear p0 p1 p2 p3 p4 p5 p6 p7 hb
    have p0 : w3.cell? ⟨b1, 0, none⟩ = some (.int .i64 node) := HC3.out.at 0 _ rfl
    have p1 : w3.cell? ⟨b1, 1, none⟩ = some (.int .i64 seq) := HC3.out.at 1 _ rfl
    have p2 : w3.cell? ⟨b1, 2, none⟩ = some (.int .i64 gen) := HC3.out.at 2 _ rfl
    have p3 : w3.cell? ⟨b1, 3, none⟩ = some (.slice a n cap) := HC3.out.at 3 _ rfl
    have p4 : w3.cell? ⟨b1, 4, none⟩ = some (.int .i64 kind) := HC3.out.at 4 _ rfl
    have p5 : w3.cell? ⟨b1, 5, none⟩ = some (.string s1) := HC3.out.at 5 _ rfl
    have p6 : w3.cell? ⟨b1, 6, none⟩ = some (.string s2) := HC3.out.at 6 _ rfl
    have p7 : w3.cell? ⟨b1, 7, none⟩ = some (.int .i64 num) := HC3.out.at 7 _ rfl
    go_wp2_with fail
    refine (HOB.out _).mono ?_
    rintro e w4 ⟨rfl, hb⟩
    have HB4 := Lib.hid (HB3.out.step hb)
    clear hb
    cases i0 with
    | false =>
     go_wp2_with fail
     go_ret
     exact ⟨retb (by rw [HM4.out]; rfl), HB4.out⟩
    | true =>
     go_wp2_with fail
     go_ret
     exact ⟨retb (by rw [HM4.out]; rfl), HB4.out⟩
set_option maxRecDepth 100000 in
set_option maxHeartbeats 2000000 in
theorem cmerge_ref (c : Cmt) (a : Option Addr) (cap : Nat) (w : World) (hr : CmR w c a cap) : Calls Tryz.prog 29 #[c.val a cap] w fun e w' => e = .returned (.bool (mergeC c)) ∧ Below w.heap.size w w' := by
 have HMAY := Lib.hid (fun w' h => cmay_ref c a cap w' h)
 obtain ⟨m, hm⟩ : ∃ m, m = mayC c := ⟨_, rfl⟩
 rw [← hm] at HMAY
 have HM := Lib.hid (show mergeC c = (decide (c.node = -1) && m) by rw [hm]; rfl)
 have HR := Lib.hid hr
 clear hm
 obtain ⟨node, seq, gen, par, op⟩ := c
 obtain ⟨kind, key, elem, num⟩ := op
 obtain ⟨n, hn⟩ : ∃ n, n = par.length := ⟨_, rfl⟩
 have hids := hr.ids
 simp only at hids
 rw [← hn] at hids
 have hn63 : n ≤ 9223372036854775807 := Nat.le_trans hids.le hids.cap
 unfold Cmt.val Cmt.cs at HMAY ⊢
 simp only at HMAY HM
 rw [← hn] at HMAY
 show Calls Tryz.prog 29 #[.agg #[.int .i64 node, .int .i64 seq, .int .i64 gen, .slice a par.length cap, .int .i64 kind, .string ⟨key.toArray⟩, .string ⟨elem.toArray⟩, .int .i64 num]] w _
 rw [← hn]
 obtain ⟨s1, hs1⟩ : ∃ s : ByteArray, s = ⟨key.toArray⟩ := ⟨_, rfl⟩
 obtain ⟨s2, hs2⟩ : ∃ s : ByteArray, s = ⟨elem.toArray⟩ := ⟨_, rfl⟩
 rw [← hs1, ← hs2] at HMAY ⊢
 clear hr hids hs1 hs2 hn
 go_enter Tryz.func29, Tryz.ntmps29
 go_upto_region 1 with fail
 obtain ⟨b1, hb1⟩ : ∃ b1, b1 = w.heap.size := ⟨_, rfl⟩
 have hC0 := Cel.new w 41 [.int .i64 node, .int .i64 seq, .int .i64 gen, .slice a n cap, .int .i64 kind, .string s1, .string s2, .int .i64 num]
 rw [← hb1] at hC0 ⊢
 generalize hw1 : w.alloc (.cells _ _) = w1
 have HC1 := Lib.hid (show Cel w1 b1 41 [.int .i64 node, .int .i64 seq, .int .i64 gen, .slice a n cap, .int .i64 kind, .string s1, .string s2, .int .i64 num] by rw [← hw1]; exact hC0)
 have HB1 := Lib.hid (show Below w.heap.size w w1 by rw [← hw1]; exact (Below.refl _ _).alloc (Nat.le_refl _) _)
 clear hC0 hw1 hb1
 have p0 : w1.cell? ⟨b1, 0, none⟩ = some (.int .i64 node) := HC1.out.at 0 _ rfl
 have p1 : w1.cell? ⟨b1, 1, none⟩ = some (.int .i64 seq) := HC1.out.at 1 _ rfl
 have p2 : w1.cell? ⟨b1, 2, none⟩ = some (.int .i64 gen) := HC1.out.at 2 _ rfl
 have p3 : w1.cell? ⟨b1, 3, none⟩ = some (.slice a n cap) := HC1.out.at 3 _ rfl
 have p4 : w1.cell? ⟨b1, 4, none⟩ = some (.int .i64 kind) := HC1.out.at 4 _ rfl
 have p5 : w1.cell? ⟨b1, 5, none⟩ = some (.string s1) := HC1.out.at 5 _ rfl
 have p6 : w1.cell? ⟨b1, 6, none⟩ = some (.string s2) := HC1.out.at 6 _ rfl
 have p7 : w1.cell? ⟨b1, 7, none⟩ = some (.int .i64 num) := HC1.out.at 7 _ rfl
 go_wp2_with fail
 refine (HMAY.out _ (HR.out.below HB1.out)).mono ?_
 rintro e w2 ⟨rfl, hb⟩
 have HB2 := Lib.hid (HB1.out.step hb)
 have HC2 := Lib.hid (HC1.out.step hb)
 clear hb p0 p1 p2 p3 p4 p5 p6 p7
 have q0 : w2.cell? ⟨b1, 0, none⟩ = some (.int .i64 node) := HC2.out.at 0 _ rfl
 cases m with
 | false =>
  go_wp2_with fail
  go_ret
  exact ⟨retb (by rw [HM.out, Bool.and_false]), HB2.out⟩
 | true =>
  by_cases hm : node = -1
  ·have hm' : (node == -1) = true := by simpa using hm
   have HZ := Lib.hid (HM.out.trans (show _ = true by rw [decide_eq_true hm]; rfl))
   clear hm
   go_wp2_with fail
   go_ret
   exact ⟨retb HZ.out.symm, HB2.out⟩
  ·have hm' : (node == -1) = false := by simpa using hm
   have HZ := Lib.hid (HM.out.trans (show _ = false by rw [decide_eq_false hm]; rfl))
   clear hm
   go_wp2_with fail
   go_ret
   exact ⟨retb HZ.out.symm, HB2.out⟩
set_option maxRecDepth 100000 in
set_option maxHeartbeats 8000000 in
theorem csame_ref (c d : Cmt) (a a2 : Option Addr) (cap cap2 : Nat) (w : World) (hr : CmR w c a cap) (hr2 : CmR w d a2 cap2) : Calls Tryz.prog 59 #[c.val a cap, d.val a2 cap2] w fun e w' => e = .returned (.bool (decide (c = d))) ∧ Below w.heap.size w w' := by
 have HZ0 := Lib.hid (cmt_parts c d)
 obtain ⟨n, hn⟩ : ∃ n, n = c.par.length := ⟨_, rfl⟩
 obtain ⟨n2, hn2⟩ : ∃ n2, n2 = d.par.length := ⟨_, rfl⟩
 have hids := hr.ids
 have hids2 := hr2.ids
 rw [← hn] at hids
 rw [← hn2] at hids2
 have HSI := Lib.hid (fun w' (h : Below w.heap.size w w') => sameids_ref a a2 n n2 cap cap2 c.par d.par w' (hids.below h) (hids2.below h))
 obtain ⟨q, hq⟩ : ∃ q, q = decide (c.par = d.par) := ⟨_, rfl⟩
 rw [← hq] at HZ0 HSI
 unfold Cmt.val Cmt.cs
 rw [← hn, ← hn2]
 obtain ⟨Z, hZ⟩ : ∃ Z, Z = decide (c = d) := ⟨_, rfl⟩
 rw [← hZ] at HZ0 ⊢
 clear hq hn hn2 hids hids2 hr hr2 hZ
 obtain ⟨node, seq, gen, par, ⟨kind, key, elem, num⟩⟩ := c
 obtain ⟨node2, seq2, gen2, par2, ⟨kind2, key2, elem2, num2⟩⟩ := d
 simp only at HZ0 HSI ⊢
 obtain ⟨s1, hs1⟩ : ∃ s : ByteArray, s = ⟨key.toArray⟩ := ⟨_, rfl⟩
 obtain ⟨s2, hs2⟩ : ∃ s : ByteArray, s = ⟨elem.toArray⟩ := ⟨_, rfl⟩
 obtain ⟨s12, hs12⟩ : ∃ s : ByteArray, s = ⟨key2.toArray⟩ := ⟨_, rfl⟩
 obtain ⟨s22, hs22⟩ : ∃ s : ByteArray, s = ⟨elem2.toArray⟩ := ⟨_, rfl⟩
 rw [← hs1, ← hs2, ← hs12, ← hs22] at HZ0 ⊢
 clear hs1 hs2 hs12 hs22
 go_enter Tryz.func59, Tryz.ntmps59
 go_upto_region 1 with fail
 obtain ⟨b1, hb1⟩ : ∃ b1, b1 = w.heap.size := ⟨_, rfl⟩
 obtain ⟨w1, hw1⟩ : ∃ w1, w1 = w.alloc (.cells ([.int .i64 node, .int .i64 seq, .int .i64 gen, .slice a n cap, .int .i64 kind, .string s1, .string s2, .int .i64 num] : List Value).toArray 41) := ⟨_, rfl⟩
 obtain ⟨w2, hw2⟩ : ∃ w2, w2 = w1.alloc (.cells ([.int .i64 node2, .int .i64 seq2, .int .i64 gen2, .slice a2 n2 cap2, .int .i64 kind2, .string s12, .string s22, .int .i64 num2] : List Value).toArray 41) := ⟨_, rfl⟩
 have hs : w1.heap.size = w.heap.size + 1 := by rw [hw1]; exact size_alloc' _ _
 have hb01 : Below w.heap.size w w1 := by rw [hw1]; exact (Below.refl _ _).alloc (Nat.le_refl _) _
 have hb12 : Below w1.heap.size w1 w2 := by rw [hw2]; exact (Below.refl _ _).alloc (Nat.le_refl _) _
 have hc1 : Cel w1 b1 41 [.int .i64 node, .int .i64 seq, .int .i64 gen, .slice a n cap, .int .i64 kind, .string s1, .string s2, .int .i64 num] := by rw [hw1, hb1]; exact Cel.new w _ _
 have hc2 : Cel w2 (w.heap.size + 1) 41 [.int .i64 node2, .int .i64 seq2, .int .i64 gen2, .slice a2 n2 cap2, .int .i64 kind2, .string s12, .string s22, .int .i64 num2] := by rw [hw2, ← hs]; exact Cel.new w1 _ _
 rw [hw1] at hw2
 have hw2' : (w.alloc (.cells #[.int .i64 node, .int .i64 seq, .int .i64 gen, .slice a n cap, .int .i64 kind, .string s1, .string s2, .int .i64 num] 41)).alloc (.cells #[.int .i64 node2, .int .i64 seq2, .int .i64 gen2, .slice a2 n2 cap2, .int .i64 kind2, .string s12, .string s22, .int .i64 num2] 41) = w2 := hw2.symm
 rw [hw2', ← hb1]
 obtain ⟨b2, hb2⟩ : ∃ b2, b2 = b1 + 1 := ⟨_, rfl⟩
 rw [← hb1, ← hb2] at hc2
 rw [← hb2]
 have HC1 := Lib.hid (hc1.step hb12)
 have HC2 := Lib.hid hc2
 have HB2 := Lib.hid (hb01.step hb12)
 clear hb1 hb2 hw1 hw2 hw2' hs hb01 hb12 hc1 hc2
 have p0 : w2.cell? ⟨b1, 0, none⟩ = some (.int .i64 node) := HC1.out.at 0 _ rfl
 have p1 : w2.cell? ⟨b1, 1, none⟩ = some (.int .i64 seq) := HC1.out.at 1 _ rfl
 have p2 : w2.cell? ⟨b1, 2, none⟩ = some (.int .i64 gen) := HC1.out.at 2 _ rfl
 have p3 : w2.cell? ⟨b1, 3, none⟩ = some (.slice a n cap) := HC1.out.at 3 _ rfl
 have p4 : w2.cell? ⟨b1, 4, none⟩ = some (.int .i64 kind) := HC1.out.at 4 _ rfl
 have p5 : w2.cell? ⟨b1, 5, none⟩ = some (.string s1) := HC1.out.at 5 _ rfl
 have p6 : w2.cell? ⟨b1, 6, none⟩ = some (.string s2) := HC1.out.at 6 _ rfl
 have p7 : w2.cell? ⟨b1, 7, none⟩ = some (.int .i64 num) := HC1.out.at 7 _ rfl
 have q0 : w2.cell? ⟨b2, 0, none⟩ = some (.int .i64 node2) := HC2.out.at 0 _ rfl
 have q1 : w2.cell? ⟨b2, 1, none⟩ = some (.int .i64 seq2) := HC2.out.at 1 _ rfl
 have q2 : w2.cell? ⟨b2, 2, none⟩ = some (.int .i64 gen2) := HC2.out.at 2 _ rfl
 have q3 : w2.cell? ⟨b2, 3, none⟩ = some (.slice a2 n2 cap2) := HC2.out.at 3 _ rfl
 have q4 : w2.cell? ⟨b2, 4, none⟩ = some (.int .i64 kind2) := HC2.out.at 4 _ rfl
 have q5 : w2.cell? ⟨b2, 5, none⟩ = some (.string s12) := HC2.out.at 5 _ rfl
 have q6 : w2.cell? ⟨b2, 6, none⟩ = some (.string s22) := HC2.out.at 6 _ rfl
 have q7 : w2.cell? ⟨b2, 7, none⟩ = some (.int .i64 num2) := HC2.out.at 7 _ rfl
 go_wp2_with fail
 refine (HSI.out _ HB2.out).mono ?_
 rintro e w3 ⟨rfl, hb⟩
 have HB3 := Lib.hid (HB2.out.step hb)
 have HD1 := Lib.hid (HC1.out.step hb)
 have HD2 := Lib.hid (HC2.out.step hb)
 clear hb p0 p1 p2 p3 p4 p5 p6 p7 q0 q1 q2 q3 q4 q5 q6 q7
 have p0 : w3.cell? ⟨b1, 0, none⟩ = some (.int .i64 node) := HD1.out.at 0 _ rfl
 have p1 : w3.cell? ⟨b1, 1, none⟩ = some (.int .i64 seq) := HD1.out.at 1 _ rfl
 have p2 : w3.cell? ⟨b1, 2, none⟩ = some (.int .i64 gen) := HD1.out.at 2 _ rfl
 have p3 : w3.cell? ⟨b1, 3, none⟩ = some (.slice a n cap) := HD1.out.at 3 _ rfl
 have p4 : w3.cell? ⟨b1, 4, none⟩ = some (.int .i64 kind) := HD1.out.at 4 _ rfl
 have p5 : w3.cell? ⟨b1, 5, none⟩ = some (.string s1) := HD1.out.at 5 _ rfl
 have p6 : w3.cell? ⟨b1, 6, none⟩ = some (.string s2) := HD1.out.at 6 _ rfl
 have p7 : w3.cell? ⟨b1, 7, none⟩ = some (.int .i64 num) := HD1.out.at 7 _ rfl
 have q0 : w3.cell? ⟨b2, 0, none⟩ = some (.int .i64 node2) := HD2.out.at 0 _ rfl
 have q1 : w3.cell? ⟨b2, 1, none⟩ = some (.int .i64 seq2) := HD2.out.at 1 _ rfl
 have q2 : w3.cell? ⟨b2, 2, none⟩ = some (.int .i64 gen2) := HD2.out.at 2 _ rfl
 have q3 : w3.cell? ⟨b2, 3, none⟩ = some (.slice a2 n2 cap2) := HD2.out.at 3 _ rfl
 have q4 : w3.cell? ⟨b2, 4, none⟩ = some (.int .i64 kind2) := HD2.out.at 4 _ rfl
 have q5 : w3.cell? ⟨b2, 5, none⟩ = some (.string s12) := HD2.out.at 5 _ rfl
 have q6 : w3.cell? ⟨b2, 6, none⟩ = some (.string s22) := HD2.out.at 6 _ rfl
 have q7 : w3.cell? ⟨b2, 7, none⟩ = some (.int .i64 num2) := HD2.out.at 7 _ rfl
 cases q with
 | false =>
  go_wp2_with fail
  go_ret
  exact ⟨retb (by rw [HZ0.out, Bool.and_false]), HB3.out⟩
 | true =>
  go_wp2_with fail
  all_goals
   go_ret
   exact ⟨retb (by rw [HZ0.out]; simp [*]), HB3.out⟩
end Go.Proofs.YtofadpodlaakbaaGreat
