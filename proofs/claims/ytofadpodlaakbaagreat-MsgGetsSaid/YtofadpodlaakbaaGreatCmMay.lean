/- The walks of May and Merge, of the layer commit. -/
import Derived.Test.YtofadpodlaakbaaGreatCmIds
import Derived.Test.YtofadpodlaakbaaGreatOpsEq
namespace Go.Proofs.YtofadpodlaakbaaGreat
open Go.ChangeShapes Go.WideShapes Go.ChangeAt Go.RowKit
set_option linter.unusedVariables false
def Cmt.cs (c : Cmt) (a : Option Addr) (cap : Nat) : List Value := [.int .i64 c.node, .int .i64 c.seq, .int .i64 c.gen, .slice a c.par.length cap, .int .i64 c.op.kind, .string ⟨c.op.key.toArray⟩, .string ⟨c.op.elem.toArray⟩, .int .i64 c.op.num]
def Cmt.val (c : Cmt) (a : Option Addr) (cap : Nat) : Value := .agg (c.cs a cap).toArray
theorem Cmt.cs_one (c : Cmt) (a : Option Addr) (cap : Nat) : ∀ v ∈ c.cs a cap, v.oneCell' = true := by
 intro v hv
 simp only [Cmt.cs, List.mem_cons, List.not_mem_nil, or_false] at hv
 rcases hv with rfl | rfl | rfl | rfl | rfl | rfl | rfl | rfl <;> rfl
theorem info_cm : (Tryz.prog.info? 41).map (·.size) = some 8 := by kernel_rfl
structure CmR (w : World) (c : Cmt) (a : Option Addr) (cap : Nat) : Prop where
 ids : Ids w a c.par.length cap c.par
 key : c.op.key.length ≤ 9223372036854775807
 elem : c.op.elem.length ≤ 9223372036854775807
theorem CmR.below {w w' : World} {c : Cmt} {a : Option Addr} {cap : Nat} (h : CmR w c a cap) (hb : Below w.heap.size w w') : CmR w' c a cap := ⟨h.ids.below hb, h.key, h.elem⟩
set_option maxRecDepth 100000 in
theorem cin_any (n low high : Int) (w : World) : Calls Tryz.prog 61 #[.int .i64 n, .int .i64 low, .int .i64 high] w fun e w' => e = .returned (.bool (inI n low high)) ∧ w' = w := by
 by_cases h0 : low ≤ n
 ·by_cases h1 : n ≤ high
  ·have HE := Lib.hid (show inI n low high = true by unfold inI; rw [decide_eq_true h0, decide_eq_true h1]; rfl)
   have h0' : n ≥ low := h0
   go_enter Tryz.func61, Tryz.ntmps61
   go_wp2_with fail
   go_ret
   exact ⟨retb HE.out.symm, rfl⟩
  ·have HE := Lib.hid (show inI n low high = false by unfold inI; rw [decide_eq_false h1, Bool.and_false])
   have h0' : n ≥ low := h0
   go_enter Tryz.func61, Tryz.ntmps61
   go_wp2_with fail
   go_ret
   exact ⟨retb HE.out.symm, rfl⟩
 ·have HE := Lib.hid (show inI n low high = false by unfold inI; rw [decide_eq_false h0]; rfl)
  have h0' : ¬ n ≥ low := h0
  go_enter Tryz.func61, Tryz.ntmps61
  go_wp2_with fail
  go_ret
  exact ⟨retb HE.out.symm, rfl⟩
set_option maxRecDepth 100000 in
set_option maxHeartbeats 4000000 in
theorem cmay_any (c : Cmt) (a : Option Addr) (cap : Nat) (w : World) (hr : CmR w c a cap) : Calls Tryz.prog 34 #[c.val a cap] w fun e w' => e = .returned (.bool (mayC c)) ∧ Below w.heap.size w w' := by
 obtain ⟨node, seq, gen, par, op⟩ := c
 obtain ⟨n, hn⟩ : ∃ n, n = par.length := ⟨_, rfl⟩
 have hids := hr.ids
 simp only at hids
 rw [← hn] at hids
 have hn63 : n ≤ 9223372036854775807 := Nat.le_trans hids.le hids.cap
 obtain ⟨g, hg⟩ : ∃ g, g = inI gen 1 1048576 := ⟨_, rfl⟩
 obtain ⟨r, hrr⟩ : ∃ r, r = risesL par := ⟨_, rfl⟩
 obtain ⟨ob, hob⟩ : ∃ ob, ob = mayB op := ⟨_, rfl⟩
 obtain ⟨z, hz⟩ : ∃ z, z = decide (op = zeroO) := ⟨_, rfl⟩
 obtain ⟨i0, hi0⟩ : ∃ b, b = inI node 0 7 := ⟨_, rfl⟩
 obtain ⟨i1, hi1⟩ : ∃ b, b = inI seq 1 1048576 := ⟨_, rfl⟩
 have HM := Lib.hid (show mayC ⟨node, seq, gen, par, op⟩ = (g && decide (n ≤ 8) && r && (decide (gen = 1) == decide (n = 0)) && (if node = -1 then decide (2 ≤ n) && decide (seq = 0) && z else i0 && i1 && ob)) by
  rw [hg, hrr, hob, hz, hi0, hi1, hn]; rfl)
 have HG := Lib.hid (fun w' => cin_any gen 1 1048576 w')
 have HI0 := Lib.hid (fun w' => cin_any node 0 7 w')
 have HI1 := Lib.hid (fun w' => cin_any seq 1 1048576 w')
 rw [← hg] at HG
 rw [← hi0] at HI0
 rw [← hi1] at HI1
 have HRI := Lib.hid (fun w' (h : Ids w' a n cap par) => rises_any a n cap par w' h)
 rw [← hrr] at HRI
 obtain ⟨kind, key, elem, num⟩ := op
 have HOB := Lib.hid (fun w' => may_any kind num key elem w' hr.key hr.elem)
 rw [← hob] at HOB
 have HZ := Lib.hid (show z = (decide (kind = 0) && decide (ByteArray.toList ⟨key.toArray⟩ = []) && decide (ByteArray.toList ⟨elem.toArray⟩ = []) && decide (num = 0)) by
  rw [hz, toList_bytes, toList_bytes, Bool.eq_iff_iff]
  simp [zeroO, and_assoc])
 have HR := Lib.hid hids
 show Calls Tryz.prog 34 #[.agg #[.int .i64 node, .int .i64 seq, .int .i64 gen, .slice a par.length cap, .int .i64 kind, .string ⟨key.toArray⟩, .string ⟨elem.toArray⟩, .int .i64 num]] w _
 rw [← hn]
 obtain ⟨s1, hs1⟩ : ∃ s : ByteArray, s = ⟨key.toArray⟩ := ⟨_, rfl⟩
 obtain ⟨s2, hs2⟩ : ∃ s : ByteArray, s = ⟨elem.toArray⟩ := ⟨_, rfl⟩
 rw [← hs1, ← hs2] at HOB HZ ⊢
 clear hr hids hg hrr hob hz hi0 hi1 hs1 hs2 hn
 go_enter Tryz.func34, Tryz.ntmps34
 go_upto_region 1 with fail
 obtain ⟨b1, hb1⟩ : ∃ b1, b1 = w.heap.size := ⟨_, rfl⟩
 have hC0 := Cel.new w 41 [.int .i64 node, .int .i64 seq, .int .i64 gen, .slice a n cap, .int .i64 kind, .string s1, .string s2, .int .i64 num]
 rw [← hb1] at hC0 ⊢
 generalize hw1 : w.alloc (.cells _ _) = w1
 have HC1 := Lib.hid (show Cel w1 b1 41 [.int .i64 node, .int .i64 seq, .int .i64 gen, .slice a n cap, .int .i64 kind, .string s1, .string s2, .int .i64 num] by rw [← hw1]; exact hC0)
 have HB1 := Lib.hid (show Below w.heap.size w w1 by rw [← hw1]; exact (Below.refl _ _).alloc (Nat.le_refl _) _)
 clear hC0 hw1 hb1
 have p0 : w1.cell? ⟨b1, 0, none⟩ = some (.int .i64 node) := HC1.out.at 0 _ rfl
 have p2 : w1.cell? ⟨b1, 2, none⟩ = some (.int .i64 gen) := HC1.out.at 2 _ rfl
 have p3 : w1.cell? ⟨b1, 3, none⟩ = some (.slice a n cap) := HC1.out.at 3 _ rfl
 go_wp2_with fail
 refine (HG.out _).mono ?_
 rintro e w' ⟨rfl, rfl⟩
 cases g with
 | false =>
  go_wp2_with fail
  go_ret
  exact ⟨retb (by rw [HM.out]; rfl), HB1.out⟩
 | true =>
  by_cases h8 : (n : Int) > 8
  ·go_wp2_with fail
   go_ret
   exact ⟨retb (by rw [HM.out, decide_eq_false (show ¬ n ≤ 8 by omega)]; rfl), HB1.out⟩
  have h8' : ¬ (n : Int) > 8 := h8
  go_wp2_with fail
  refine (HRI.out _ (HR.out.below HB1.out)).mono ?_
  rintro e w2 ⟨rfl, hb⟩
  have HB2 := Lib.hid (HB1.out.step hb)
  have HC2 := Lib.hid (HC1.out.step hb)
  clear p0 p2 p3 hb HB1 HC1
  have p0 : w2.cell? ⟨b1, 0, none⟩ = some (.int .i64 node) := HC2.out.at 0 _ rfl
  have p1 : w2.cell? ⟨b1, 1, none⟩ = some (.int .i64 seq) := HC2.out.at 1 _ rfl
  have p2 : w2.cell? ⟨b1, 2, none⟩ = some (.int .i64 gen) := HC2.out.at 2 _ rfl
  have p3 : w2.cell? ⟨b1, 3, none⟩ = some (.slice a n cap) := HC2.out.at 3 _ rfl
  have p4 : w2.cell? ⟨b1, 4, none⟩ = some (.int .i64 kind) := HC2.out.at 4 _ rfl
  have p5 : w2.cell? ⟨b1, 5, none⟩ = some (.string s1) := HC2.out.at 5 _ rfl
  have p6 : w2.cell? ⟨b1, 6, none⟩ = some (.string s2) := HC2.out.at 6 _ rfl
  have p7 : w2.cell? ⟨b1, 7, none⟩ = some (.int .i64 num) := HC2.out.at 7 _ rfl
  cases r with
  | false =>
   go_wp2_with fail
   go_ret
   exact ⟨retb (by rw [HM.out, Bool.and_false]; rfl), HB2.out⟩
  | true =>
   have HM2 := Lib.hid (HM.out.trans (show _ = ((decide (gen = 1) == decide (n = 0)) && (if node = -1 then decide (2 ≤ n) && decide (seq = 0) && z else i0 && i1 && ob)) by rw [decide_eq_true (show n ≤ 8 by omega)]; rfl))
   clear HM
   obtain ⟨x, hx⟩ : ∃ x, x = (gen == 1) := ⟨_, rfl⟩
   obtain ⟨y, hy⟩ : ∃ y, y = ((n : Int) == 0) := ⟨_, rfl⟩
   have HM3 := Lib.hid (HM2.out.trans (show _ = ((x == y) && (if node = -1 then decide (2 ≤ n) && decide (seq = 0) && z else i0 && i1 && ob)) by
    have e1 : decide (gen = 1) = x := by rw [hx]; exact (Bool.eq_iff_iff.2 (by simp))
    have e2 : decide (n = 0) = y := by rw [hy]; exact (Bool.eq_iff_iff.2 (by simp))
    rw [e1, e2]))
   have hx' : (gen == 1) = x := hx.symm
   have hy' : ((n : Int) == 0) = y := hy.symm
   clear HM2 hx hy
   cases x <;> cases y
   case false.true =>
    go_wp2_with fail
    go_ret
    exact ⟨retb (by rw [HM3.out]; rfl), HB2.out⟩
   case true.false =>
    go_wp2_with fail
    go_ret
    exact ⟨retb (by rw [HM3.out]; rfl), HB2.out⟩
   all_goals
    have HM3' := Lib.hid (HM3.out.trans (show _ = (if node = -1 then decide (2 ≤ n) && decide (seq = 0) && z else i0 && i1 && ob) from rfl))
    clear HM3
    by_cases hm : node = -1
    ·have HM4 := Lib.hid (HM3'.out.trans (show _ = (decide (2 ≤ n) && decide (seq = 0) && z) by rw [if_pos hm]))
     have hm' : (node == -1) = true := by simpa using hm
     clear HM3' hm
     by_cases h2 : (n : Int) ≥ 2
     case neg =>
      have hd2 : decide ((n : Int) ≥ 2) = false := decide_eq_false h2
      go_wp2_with fail
      go_ret
      exact ⟨retb (by rw [HM4.out, decide_eq_false (show ¬ 2 ≤ n by omega)]; rfl), HB2.out⟩
     have hd2 : decide ((n : Int) ≥ 2) = true := decide_eq_true h2
     by_cases h3 : seq = 0
     case neg =>
      have hd3 : (seq == 0) = false := by simpa using h3
      have HF := Lib.hid (show decide (seq = 0) = false from decide_eq_false h3)
      clear h3
      go_wp2_with fail
      go_ret
      exact ⟨retb (by rw [HM4.out, HF.out, Bool.and_false]; rfl), HB2.out⟩
     have hd3 : (seq == 0) = true := by simpa using h3
     have HF := Lib.hid (show (decide (2 ≤ n) && decide (seq = 0) && z) = z by rw [decide_eq_true h3, decide_eq_true (show 2 ≤ n by omega)]; rfl)
     clear h3
     go_wp2_with fail
     all_goals
      go_ret
      exact ⟨retb (by rw [HM4.out, HF.out, HZ.out]; simp [*]), HB2.out⟩
    ·have HM4 := Lib.hid (HM3'.out.trans (show _ = (i0 && i1 && ob) by rw [if_neg hm]))
     have hm' : (node == -1) = false := by simpa using hm
     clear HM3' hm
     go_wp2_with fail
     refine (HI0.out _).mono ?_
     rintro e w' ⟨rfl, rfl⟩
     cases i0 with
     | false =>
      go_wp2_with fail
      go_ret
      exact ⟨retb (by rw [HM4.out]; rfl), HB2.out⟩
     | true =>
      go_wp2_with fail
      refine (HI1.out _).mono ?_
      rintro e w' ⟨rfl, rfl⟩
      cases i1 with
      | false =>
       go_wp2_with fail
       go_ret
       exact ⟨retb (by rw [HM4.out]; rfl), HB2.out⟩
      | true =>
       go_wp2_with fail
       refine (HOB.out _).mono ?_
       rintro e w3 ⟨rfl, hb⟩
       have HB3 := Lib.hid (HB2.out.step hb)
       clear hb
       go_wp2_with fail
       go_ret
       exact ⟨retb (by rw [HM4.out]; rfl), HB3.out⟩
end Go.Proofs.YtofadpodlaakbaaGreat
