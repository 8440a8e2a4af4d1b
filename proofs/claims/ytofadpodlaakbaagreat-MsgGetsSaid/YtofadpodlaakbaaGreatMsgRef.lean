/- The walks of the references' List, May, Same, of messages. -/
import Derived.Test.YtofadpodlaakbaaGreatMsgSame
import Derived.Test.YtofadpodlaakbaaGreatCmRef1
namespace Go.Proofs.YtofadpodlaakbaaGreat
open Go.ChangeShapes Go.WideShapes Go.ChangeAt Go.RowKit
set_option linter.unusedVariables false
set_option linter.unusedSimpArgs false
set_option maxRecDepth 100000 in
set_option maxHeartbeats 8000000 in
theorem list_ref (a a2 : Option Addr) (n n2 c c2 : Nat) (l l2 : List Cmt) (w : World) (hr : Cms w a n c l) (hr2 : Cms w a2 n2 c2 l2) : Calls Tryz.prog 31 #[.slice a n c, .slice a2 n2 c2] w fun e w' => e = .returned (.bool (decide (l = l2))) ∧ Below w.heap.size w w' := by
 have HR := Lib.hid hr
 have HR2 := Lib.hid hr2
 have hn63 : n ≤ 9223372036854775807 := Nat.le_trans hr.le hr.cap
 have hn263 : n2 ≤ 9223372036854775807 := Nat.le_trans hr2.le hr2.cap
 have HL := Lib.hid (And.intro hr.len hr2.len)
 clear hr hr2
 by_cases hnn : n = n2
 case neg =>
  have HF := Lib.hid (show decide (l = l2) = false from decide_eq_false (fun h => hnn (by rw [← HL.out.1, ← HL.out.2, h])))
  have hne : ¬ (n : Int) = (n2 : Int) := by omega
  go_enter Tryz.func31, Tryz.ntmps31
  go_wp2_with fail
  go_ret
  exact ⟨retb HF.out.symm, Below.refl _ _⟩
 subst hnn
 go_enter Tryz.func31, Tryz.ntmps31
 go_wp2_with fail
 go_loopw [5] (fun v5 wr => ∃ i : Nat, i ≤ n ∧ v5 = .int .i64 (i : Int) ∧ Hid (∀ j, j < i → l.getD j noC = l2.getD j noC) ∧ Hid (Below w.heap.size w wr)) (fun v5 _ => n - (intOf v5).toNat)
 case atStart => exact ⟨0, Nat.zero_le _, rfl, Lib.hid (fun j hj => by omega), Lib.hid (Below.refl _ _)⟩
 case round =>
  obtain ⟨i, hi, rfl, hA, hB⟩ := hrel
  by_cases hlt : i < n
  ·have hlt' : (i : Int) < (n : Int) := by omega
   have hi0 : (0 : Int) ≤ (i : Int) := by omega
   rcases HR.out.cells with h0 | ⟨b, off, rfl, hc⟩
   ·omega
   rcases HR2.out.cells with h0 | ⟨b', off', rfl, hc'⟩
   ·omega
   obtain ⟨pa, pc, hrg, hcm⟩ := hc i hlt
   obtain ⟨pa2, pc2, hrg', hcm'⟩ := hc' i hlt
   obtain ⟨x, hx⟩ : ∃ x, x = l.getD i noC := ⟨_, rfl⟩
   obtain ⟨y, hy⟩ : ∃ x, x = l2.getD i noC := ⟨_, rfl⟩
   rw [← hx] at hrg hcm
   rw [← hy] at hrg' hcm'
   have HX := Lib.hid (And.intro hx hy)
   have HCM := Lib.hid (And.intro (hcm.below hB.out) (hcm'.below hB.out))
   have hrg2 := rng_below hrg hB.out
   have hrg3 := rng_below hrg' hB.out
   have q0 : wr.cell? ⟨b, off + i * 8, none⟩ = some (.int .i64 x.node) := hrg2 0 _ rfl
   have q1 : wr.cell? ⟨b, off + i * 8 + 1, none⟩ = some (.int .i64 x.seq) := hrg2 1 _ rfl
   have q2 : wr.cell? ⟨b, off + i * 8 + 2, none⟩ = some (.int .i64 x.gen) := hrg2 2 _ rfl
   have q3 : wr.cell? ⟨b, off + i * 8 + 3, none⟩ = some (.slice pa x.par.length pc) := hrg2 3 _ rfl
   have q4 : wr.cell? ⟨b, off + i * 8 + 4, none⟩ = some (.int .i64 x.op.kind) := hrg2 4 _ rfl
   have q5 : wr.cell? ⟨b, off + i * 8 + 5, none⟩ = some (.string ⟨x.op.key.toArray⟩) := hrg2 5 _ rfl
   have q6 : wr.cell? ⟨b, off + i * 8 + 6, none⟩ = some (.string ⟨x.op.elem.toArray⟩) := hrg2 6 _ rfl
   have q7 : wr.cell? ⟨b, off + i * 8 + 7, none⟩ = some (.int .i64 x.op.num) := hrg2 7 _ rfl
   have r0 : wr.cell? ⟨b', off' + i * 8, none⟩ = some (.int .i64 y.node) := hrg3 0 _ rfl
   have r1 : wr.cell? ⟨b', off' + i * 8 + 1, none⟩ = some (.int .i64 y.seq) := hrg3 1 _ rfl
   have r2 : wr.cell? ⟨b', off' + i * 8 + 2, none⟩ = some (.int .i64 y.gen) := hrg3 2 _ rfl
   have r3 : wr.cell? ⟨b', off' + i * 8 + 3, none⟩ = some (.slice pa2 y.par.length pc2) := hrg3 3 _ rfl
   have r4 : wr.cell? ⟨b', off' + i * 8 + 4, none⟩ = some (.int .i64 y.op.kind) := hrg3 4 _ rfl
   have r5 : wr.cell? ⟨b', off' + i * 8 + 5, none⟩ = some (.string ⟨y.op.key.toArray⟩) := hrg3 5 _ rfl
   have r6 : wr.cell? ⟨b', off' + i * 8 + 6, none⟩ = some (.string ⟨y.op.elem.toArray⟩) := hrg3 6 _ rfl
   have r7 : wr.cell? ⟨b', off' + i * 8 + 7, none⟩ = some (.int .i64 y.op.num) := hrg3 7 _ rfl
   obtain ⟨sm, hsm⟩ : ∃ b, b = decide (x = y) := ⟨_, rfl⟩
   have HSA := Lib.hid (fun w' h h' => csame_ref x y pa pa2 pc pc2 w' h h')
   rw [← hsm] at HSA
   have HSM := Lib.hid hsm
   unfold Cmt.val Cmt.cs at HSA
   clear hc hc' hx hy hcm hcm' hrg hrg' hrg2 hrg3 hsm
   generalize hg_xnode : x.node = node_x at HSA q0 q1 q2 q3 q4 q5 q6 q7
   generalize hg_xseq : x.seq = seq_x at HSA q0 q1 q2 q3 q4 q5 q6 q7
   generalize hg_xgen : x.gen = gen_x at HSA q0 q1 q2 q3 q4 q5 q6 q7
   generalize hg_xnp : x.par.length = np_x at HSA q0 q1 q2 q3 q4 q5 q6 q7
   generalize hg_xkd : x.op.kind = kd_x at HSA q0 q1 q2 q3 q4 q5 q6 q7
   generalize hg_xs1 : (⟨x.op.key.toArray⟩ : ByteArray) = s1_x at HSA q0 q1 q2 q3 q4 q5 q6 q7
   generalize hg_xs2 : (⟨x.op.elem.toArray⟩ : ByteArray) = s2_x at HSA q0 q1 q2 q3 q4 q5 q6 q7
   generalize hg_xnum : x.op.num = num_x at HSA q0 q1 q2 q3 q4 q5 q6 q7
   clear hg_xnode hg_xseq hg_xgen hg_xnp hg_xkd hg_xs1 hg_xs2 hg_xnum
   generalize hg_ynode : y.node = node_y at HSA r0 r1 r2 r3 r4 r5 r6 r7
   generalize hg_yseq : y.seq = seq_y at HSA r0 r1 r2 r3 r4 r5 r6 r7
   generalize hg_ygen : y.gen = gen_y at HSA r0 r1 r2 r3 r4 r5 r6 r7
   generalize hg_ynp : y.par.length = np_y at HSA r0 r1 r2 r3 r4 r5 r6 r7
   generalize hg_ykd : y.op.kind = kd_y at HSA r0 r1 r2 r3 r4 r5 r6 r7
   generalize hg_ys1 : (⟨y.op.key.toArray⟩ : ByteArray) = s1_y at HSA r0 r1 r2 r3 r4 r5 r6 r7
   generalize hg_ys2 : (⟨y.op.elem.toArray⟩ : ByteArray) = s2_y at HSA r0 r1 r2 r3 r4 r5 r6 r7
   generalize hg_ynum : y.op.num = num_y at HSA r0 r1 r2 r3 r4 r5 r6 r7
   clear hg_ynode hg_yseq hg_ygen hg_ynp hg_ykd hg_ys1 hg_ys2 hg_ynum
   go_upto_region 6 with fail
   go_region_with ((go_at_call 59; refine (HSA.out _ (HCM.out.1.below (Below.drew (Below.refl _ _))) (HCM.out.2.below (Below.drew (Below.refl _ _)))).mono ?_; rintro e w3 ⟨rfl, hb⟩))
   all_goals
    have HB3 := Lib.hid (Below.step (Below.drew hB.out) hb)
    clear hb q0 q1 q2 q3 q4 q5 q6 q7 r0 r1 r2 r3 r4 r5 r6 r7
    cases sm with
    | false =>
     have HF := Lib.hid (show decide (l = l2) = false from decide_eq_false (fun h => by
      have h2 := HSM.out
      rw [HX.out.1, HX.out.2, h, decide_eq_true rfl] at h2
      cases h2))
     go_wp2_with fail
     go_ret
     exact ⟨retb HF.out.symm, HB3.out⟩
    | true =>
     go_wp2_with fail
     refine ⟨⟨i + 1, by omega, by go_num, Lib.hid (fun j hj => ?_), HB3⟩, ?_⟩
     ·by_cases e : j = i
      ·rw [e, ← HX.out.1, ← HX.out.2]; exact of_decide_eq_true HSM.out.symm
      ·exact hA.out j (by omega)
     ·simp [intOf]; omega
  ·have hlt' : ¬ (i : Int) < (n : Int) := by omega
   have HF := Lib.hid (show decide (l = l2) = true from decide_eq_true (eq_getD (by rw [HL.out.1, HL.out.2]) (fun j hj => hA.out j (by have := HL.out.1; omega))))
   go_wp2_with fail
   go_ret
   exact ⟨retb HF.out.symm, hB.out⟩
set_option maxRecDepth 100000 in
set_option maxHeartbeats 8000000 in
theorem mmay_ref (m : Msg) (ai : Option Addr) (ci : Nat) (ac : Option Addr) (cc : Nat) (w : World) (hr : MsgR w m ai ci ac cc) : Calls Tryz.prog 9 #[m.val ai ci ac cc] w fun e w' => e = .returned (.bool (mayM m)) ∧ Below w.heap.size w w' := by
 obtain ⟨kind, ids, cms⟩ := m
 have hi := hr.ids
 have hcm := hr.cms
 simp only at hi hcm
 obtain ⟨n1, hn1⟩ : ∃ n, n = ids.length := ⟨_, rfl⟩
 obtain ⟨n2, hn2⟩ : ∃ n, n = cms.length := ⟨_, rfl⟩
 rw [← hn1] at hi
 rw [← hn2] at hcm
 have h163 : n1 ≤ 9223372036854775807 := Nat.le_trans hi.le hi.cap
 have h263 : n2 ≤ 9223372036854775807 := Nat.le_trans hcm.le hcm.cap
 have HRI := Lib.hid (fun w' h => rises_ref ai n1 ci ids w' h)
 obtain ⟨ri, hri⟩ : ∃ b, b = risesL ids := ⟨_, rfl⟩
 obtain ⟨al, hal⟩ : ∃ b, b = cms.all okC := ⟨_, rfl⟩
 rw [← hri] at HRI
 have HAL := Lib.hid hal
 have HL := Lib.hid hcm.len
 have HM := Lib.hid (show mayM ⟨kind, ids, cms⟩ = (if kind = 0 ∨ kind = 1 then decide (n1 ≤ 16) && ri && decide (n2 = 0) else decide (kind = 2) && decide (n1 = 0) && decide (n2 ≤ 6) && al) by unfold mayM; rw [hn1, hn2, hri, hal])
 have HI := Lib.hid hi
 have HCM := Lib.hid hcm
 unfold Msg.val Msg.cs
 rw [← hn1, ← hn2]
 clear hr hi hcm hn1 hn2 hri hal
 have HGO := Lib.hid (show ∀ b w', b = (if kind = 0 ∨ kind = 1 then decide (n1 ≤ 16) && ri && decide (n2 = 0) else decide (kind = 2) && decide (n1 = 0) && decide (n2 ≤ 6) && al) → Below w.heap.size w w' → (Ending.returned (.bool b) = Ending.returned (.bool (mayM ⟨kind, ids, cms⟩)) ∧ Below w.heap.size w w') from fun b w' h hb => ⟨by rw [h, HM.out], hb⟩)
 clear HM
 go_enter Tryz.func9, Tryz.ntmps9
 go_upto_region 1 with fail
 obtain ⟨b1, hb1⟩ : ∃ b, b = w.heap.size := ⟨_, rfl⟩
 have hC0 := Cel.new w 25 [.int .i64 kind, .slice ai n1 ci, .slice ac n2 cc]
 rw [← hb1] at hC0 ⊢
 generalize hw1 : w.alloc (.cells _ _) = w1
 have HC1 := Lib.hid (show Cel w1 b1 25 [.int .i64 kind, .slice ai n1 ci, .slice ac n2 cc] by rw [← hw1]; exact hC0)
 have HB1 := Lib.hid (show Below w.heap.size w w1 by rw [← hw1]; exact (Below.refl _ _).alloc (Nat.le_refl _) _)
 clear hC0 hw1 hb1
 have p0 : w1.cell? ⟨b1, 0, none⟩ = some (.int .i64 kind) := HC1.out.at 0 _ rfl
 have p1 : w1.cell? ⟨b1, 1, none⟩ = some (.slice ai n1 ci) := HC1.out.at 1 _ rfl
 have p2 : w1.cell? ⟨b1, 2, none⟩ = some (.slice ac n2 cc) := HC1.out.at 2 _ rfl
 by_cases h01 : kind = 0 ∨ kind = 1
 ·have HG1 := Lib.hid (fun b w' (h : b = (decide (n1 ≤ 16) && ri && decide (n2 = 0))) (hb : Below w.heap.size w w') => HGO.out b w' (by rw [if_pos h01]; exact h) hb)
  clear HGO
  rcases h01 with rfl | rfl
  ·go_wp2_with fail
   refine (HRI.out _ (HI.out.below HB1.out)).mono ?_
   rintro e w2 ⟨rfl, hb⟩
   have HC2 := Lib.hid (HC1.out.step hb)
   have HB2 := Lib.hid (HB1.out.step hb)
   clear hb p0 p1 p2
   have p1 : w2.cell? ⟨b1, 1, none⟩ = some (.slice ai n1 ci) := HC2.out.at 1 _ rfl
   have p2 : w2.cell? ⟨b1, 2, none⟩ = some (.slice ac n2 cc) := HC2.out.at 2 _ rfl
   cases ri with
   | false =>
    go_wp2_with fail
    go_ret
    exact HG1.out _ _ (by simp) HB2.out
   | true =>
    by_cases h16 : n1 ≤ 16
    ·have h16' : (n1 : Int) ≤ 16 := by omega
     by_cases h0 : n2 = 0
     ·subst h0
      go_wp2_with fail
      go_ret
      exact HG1.out _ _ (by simp [h16]) HB2.out
     ·have h0' : ¬ (n2 : Int) = 0 := by omega
      go_wp2_with fail
      go_ret
      exact HG1.out _ _ (by simp [h0, h16]) HB2.out
    ·have h16' : ¬ (n1 : Int) ≤ 16 := by omega
     go_wp2_with fail
     go_ret
     exact HG1.out _ _ (by simp [h16]) HB2.out
  ·go_wp2_with fail
   refine (HRI.out _ (HI.out.below HB1.out)).mono ?_
   rintro e w2 ⟨rfl, hb⟩
   have HC2 := Lib.hid (HC1.out.step hb)
   have HB2 := Lib.hid (HB1.out.step hb)
   clear hb p0 p1 p2
   have p1 : w2.cell? ⟨b1, 1, none⟩ = some (.slice ai n1 ci) := HC2.out.at 1 _ rfl
   have p2 : w2.cell? ⟨b1, 2, none⟩ = some (.slice ac n2 cc) := HC2.out.at 2 _ rfl
   cases ri with
   | false =>
    go_wp2_with fail
    go_ret
    exact HG1.out _ _ (by simp) HB2.out
   | true =>
    by_cases h16 : n1 ≤ 16
    ·have h16' : (n1 : Int) ≤ 16 := by omega
     by_cases h0 : n2 = 0
     ·subst h0
      go_wp2_with fail
      go_ret
      exact HG1.out _ _ (by simp [h16]) HB2.out
     ·have h0' : ¬ (n2 : Int) = 0 := by omega
      go_wp2_with fail
      go_ret
      exact HG1.out _ _ (by simp [h0, h16]) HB2.out
    ·have h16' : ¬ (n1 : Int) ≤ 16 := by omega
     go_wp2_with fail
     go_ret
     exact HG1.out _ _ (by simp [h16]) HB2.out
 ·have k0 : ¬ kind = 0 := fun h => h01 (.inl h)
  have k1 : ¬ kind = 1 := fun h => h01 (.inr h)
  have k0b : (kind == 0) = false := by simpa using k0
  have k1b : (kind == 1) = false := by simpa using k1
  have HG1 := Lib.hid (fun b w' (h : b = (decide (kind = 2) && decide (n1 = 0) && decide (n2 ≤ 6) && al)) (hb : Below w.heap.size w w') => HGO.out b w' (by rw [if_neg h01]; exact h) hb)
  clear HGO h01
  by_cases k2 : kind = 2
  case neg =>
   rw [decide_eq_false k2] at HG1
   have k2b : (kind != 2) = true := by simpa using k2
   go_wp2_with fail
   go_ret
   exact HG1.out _ _ (by simp) HB1.out
  subst k2
  clear k0 k1 k0b k1b
  by_cases h0 : n1 = 0
  case neg =>
   have h0' : (n1 : Int) > 0 := by omega
   rw [decide_eq_false h0] at HG1
   go_wp2_with fail
   go_ret
   exact HG1.out _ _ (by simp) HB1.out
  subst h0
  by_cases h6 : n2 ≤ 6
  case neg =>
   have h6' : (n2 : Int) > 6 := by omega
   rw [decide_eq_false h6] at HG1
   go_wp2_with fail
   go_ret
   exact HG1.out _ _ (by simp) HB1.out
  have h6' : ¬ (n2 : Int) > 6 := by omega
  rw [decide_eq_true h6] at HG1
  go_wp2_with fail
  clear p0 p1 p2
  go_loopw [4] (fun v4 wr => ∃ i : Nat, i ≤ n2 ∧ v4 = .int .i64 (i : Int) ∧ Hid (∀ j, j < i → okC (cms.getD j noC) = true) ∧ Hid (Below w1.heap.size w1 wr)) (fun v4 _ => n2 - (intOf v4).toNat)
  case atStart => exact ⟨0, Nat.zero_le _, rfl, Lib.hid (fun j hj => by omega), Lib.hid (Below.refl _ _)⟩
  case round =>
   obtain ⟨i, hi, rfl, hA, hB⟩ := hrel
   have HCr := Lib.hid (HC1.out.step hB.out)
   have HBr := Lib.hid (HB1.out.step hB.out)
   have hcr := HCM.out.below HBr.out
   have p0 : wr.cell? ⟨b1, 0, none⟩ = some (.int .i64 2) := HCr.out.at 0 _ rfl
   have p1 : wr.cell? ⟨b1, 1, none⟩ = some (.slice ai 0 ci) := HCr.out.at 1 _ rfl
   have p2 : wr.cell? ⟨b1, 2, none⟩ = some (.slice ac n2 cc) := HCr.out.at 2 _ rfl
   by_cases hlt : i < n2
   ·have hlt' : (i : Int) < (n2 : Int) := by omega
    have hi0 : (0 : Int) ≤ (i : Int) := by omega
    rcases hcr.cells with h0 | ⟨b, off, rfl, hc⟩
    ·omega
    obtain ⟨pa, pc, hrg2, hcm⟩ := hc i hlt
    obtain ⟨x, hx⟩ : ∃ x, x = cms.getD i noC := ⟨_, rfl⟩
    rw [← hx] at hrg2 hcm
    have HX := Lib.hid hx
    have HM := Lib.hid hcm
    have HRX := Lib.hid (show wr.rangeAt b (off + i * 8) [.int .i64 x.node, .int .i64 x.seq, .int .i64 x.gen, .slice pa x.par.length pc, .int .i64 x.op.kind, .string ⟨x.op.key.toArray⟩, .string ⟨x.op.elem.toArray⟩, .int .i64 x.op.num] from hrg2)
    obtain ⟨may, hmay⟩ : ∃ b, b = mayC x := ⟨_, rfl⟩
    obtain ⟨mer, hmer⟩ : ∃ b, b = mergeC x := ⟨_, rfl⟩
    have HMA := Lib.hid (fun w' h => cmay_ref x pa pc w' h)
    have HME := Lib.hid (fun w' h => cmerge_ref x pa pc w' h)
    rw [← hmay] at HMA
    rw [← hmer] at HME
    have HOK := Lib.hid (show okC x = (may && !mer) by unfold okC; rw [hmay, hmer])
    unfold Cmt.val Cmt.cs at HMA HME
    clear hcr hc hcm hx hrg2 hmay hmer
    generalize hg_xnode : x.node = node_x at HMA HME HRX
    generalize hg_xseq : x.seq = seq_x at HMA HME HRX
    generalize hg_xgen : x.gen = gen_x at HMA HME HRX
    generalize hg_xnp : x.par.length = np_x at HMA HME HRX
    generalize hg_xkd : x.op.kind = kd_x at HMA HME HRX
    generalize hg_xs1 : (⟨x.op.key.toArray⟩ : ByteArray) = s1_x at HMA HME HRX
    generalize hg_xs2 : (⟨x.op.elem.toArray⟩ : ByteArray) = s2_x at HMA HME HRX
    generalize hg_xnum : x.op.num = num_x at HMA HME HRX
    clear hg_xnode hg_xseq hg_xgen hg_xnp hg_xkd hg_xs1 hg_xs2 hg_xnum
    have hrx := HRX.out
    have q0 : wr.cell? ⟨b, off + i * 8, none⟩ = some (.int .i64 node_x) := hrx 0 _ rfl
    have q1 : wr.cell? ⟨b, off + i * 8 + 1, none⟩ = some (.int .i64 seq_x) := hrx 1 _ rfl
    have q2 : wr.cell? ⟨b, off + i * 8 + 2, none⟩ = some (.int .i64 gen_x) := hrx 2 _ rfl
    have q3 : wr.cell? ⟨b, off + i * 8 + 3, none⟩ = some (.slice pa np_x pc) := hrx 3 _ rfl
    have q4 : wr.cell? ⟨b, off + i * 8 + 4, none⟩ = some (.int .i64 kd_x) := hrx 4 _ rfl
    have q5 : wr.cell? ⟨b, off + i * 8 + 5, none⟩ = some (.string s1_x) := hrx 5 _ rfl
    have q6 : wr.cell? ⟨b, off + i * 8 + 6, none⟩ = some (.string s2_x) := hrx 6 _ rfl
    have q7 : wr.cell? ⟨b, off + i * 8 + 7, none⟩ = some (.int .i64 num_x) := hrx 7 _ rfl
    clear hrx
    go_wp2_with fail
    refine (HMA.out _ HM.out).mono ?_
    rintro e w5 ⟨rfl, hb⟩
    have hry := rng_below HRX.out hb
    have HC5 := Lib.hid (HCr.out.step hb)
    have HB5 := Lib.hid (HBr.out.step hb)
    have HB5' := Lib.hid (hB.out.step hb)
    have HM5 := Lib.hid (HM.out.below hb)
    clear hb q0 q1 q2 q3 q4 q5 q6 q7 p0 p1 p2
    have q0 : w5.cell? ⟨b, off + i * 8, none⟩ = some (.int .i64 node_x) := hry 0 _ rfl
    have q1 : w5.cell? ⟨b, off + i * 8 + 1, none⟩ = some (.int .i64 seq_x) := hry 1 _ rfl
    have q2 : w5.cell? ⟨b, off + i * 8 + 2, none⟩ = some (.int .i64 gen_x) := hry 2 _ rfl
    have q3 : w5.cell? ⟨b, off + i * 8 + 3, none⟩ = some (.slice pa np_x pc) := hry 3 _ rfl
    have q4 : w5.cell? ⟨b, off + i * 8 + 4, none⟩ = some (.int .i64 kd_x) := hry 4 _ rfl
    have q5 : w5.cell? ⟨b, off + i * 8 + 5, none⟩ = some (.string s1_x) := hry 5 _ rfl
    have q6 : w5.cell? ⟨b, off + i * 8 + 6, none⟩ = some (.string s2_x) := hry 6 _ rfl
    have q7 : w5.cell? ⟨b, off + i * 8 + 7, none⟩ = some (.int .i64 num_x) := hry 7 _ rfl
    clear hry
    have p0 : w5.cell? ⟨b1, 0, none⟩ = some (.int .i64 2) := HC5.out.at 0 _ rfl
    have p1 : w5.cell? ⟨b1, 1, none⟩ = some (.slice ai 0 ci) := HC5.out.at 1 _ rfl
    have p2 : w5.cell? ⟨b1, 2, none⟩ = some (.slice (some ⟨b, off, none⟩) n2 cc) := HC5.out.at 2 _ rfl
    go_wp2_with fail
    refine (HME.out _ HM5.out).mono ?_
    rintro e w6 ⟨rfl, hb⟩
    have HB6 := Lib.hid (HB5.out.step hb)
    have HB6' := Lib.hid (HB5'.out.step hb)
    clear hb q0 q1 q2 q3 q4 q5 q6 q7 p0 p1 p2
    have hbad : (may && !mer) = false → al = false := fun h => by
     rw [HAL.out, List.all_eq_false]
     have hil : i < cms.length := by rw [HL.out]; exact hlt
     refine ⟨cms[i], List.getElem_mem hil, ?_⟩
     have e : cms.getD i noC = cms[i] := by rw [List.getD_eq_getElem?_getD, List.getElem?_eq_getElem hil]; rfl
     rw [← e, ← HX.out, HOK.out, h]
     decide
    cases may with
    | false =>
     have HAF := Lib.hid (hbad rfl)
     clear hbad
     go_wp2_with fail
     go_ret
     exact HG1.out _ _ (by rw [HAF.out]; simp) HB6.out
    | true =>
     cases mer with
     | true =>
      have HAF := Lib.hid (hbad rfl)
      clear hbad
      go_wp2_with fail
      go_ret
      exact HG1.out _ _ (by rw [HAF.out]; simp) HB6.out
     | false =>
      clear hbad
      go_wp2_with fail
      refine ⟨⟨i + 1, by omega, by go_num, Lib.hid (fun j hj => ?_), HB6'⟩, ?_⟩
      ·by_cases e : j = i
       ·rw [e, ← HX.out, HOK.out]; rfl
       ·exact hA.out j (by omega)
      ·simp [intOf]; omega
   ·have hlt' : ¬ (i : Int) < (n2 : Int) := by omega
    have ht : al = true := by
     rw [HAL.out, List.all_eq_true]
     intro x hx
     obtain ⟨j, hj, rfl⟩ := List.mem_iff_getElem.1 hx
     have h1 := hA.out j (by have := HL.out; omega)
     have e : cms.getD j noC = cms[j] := by rw [List.getD_eq_getElem?_getD, List.getElem?_eq_getElem hj]; rfl
     rw [e] at h1
     exact h1
    have HT := Lib.hid ht
    clear ht hcr
    go_wp2_with fail
    go_ret
    exact HG1.out _ _ (by rw [HT.out]; simp) HBr.out
set_option maxRecDepth 100000 in
set_option maxHeartbeats 8000000 in
theorem msame_ref (m m2 : Msg) (ai : Option Addr) (ci : Nat) (ac : Option Addr) (cc : Nat) (ai2 : Option Addr) (ci2 : Nat) (ac2 : Option Addr) (cc2 : Nat) (w : World) (hr : MsgR w m ai ci ac cc) (hr2 : MsgR w m2 ai2 ci2 ac2 cc2) : Calls Tryz.prog 10 #[m.val ai ci ac cc, m2.val ai2 ci2 ac2 cc2] w fun e w' => e = .returned (.bool (decide (m = m2))) ∧ Below w.heap.size w w' := by
 have HZ := Lib.hid (msg_parts m m2)
 have HSI := Lib.hid (fun w' h h' => sameids_ref ai ai2 m.ids.length m2.ids.length ci ci2 m.ids m2.ids w' h h')
 have HEQ := Lib.hid (fun w' h h' => list_ref ac ac2 m.cms.length m2.cms.length cc cc2 m.cms m2.cms w' h h')
 obtain ⟨Z, hZ⟩ : ∃ Z, Z = decide (m = m2) := ⟨_, rfl⟩
 obtain ⟨q, hq⟩ : ∃ q, q = decide (m.ids = m2.ids) := ⟨_, rfl⟩
 obtain ⟨r, hr_⟩ : ∃ q, q = decide (m.cms = m2.cms) := ⟨_, rfl⟩
 rw [← hZ, ← hq, ← hr_] at HZ
 rw [← hq] at HSI
 rw [← hr_] at HEQ
 rw [← hZ]
 unfold Msg.val Msg.cs
 obtain ⟨kind, hk⟩ : ∃ x, x = m.kind := ⟨_, rfl⟩
 obtain ⟨kind2, hk2⟩ : ∃ x, x = m2.kind := ⟨_, rfl⟩
 obtain ⟨n1, hn1⟩ : ∃ x, x = m.ids.length := ⟨_, rfl⟩
 obtain ⟨n2, hn2⟩ : ∃ x, x = m.cms.length := ⟨_, rfl⟩
 obtain ⟨n12, hn12⟩ : ∃ x, x = m2.ids.length := ⟨_, rfl⟩
 obtain ⟨n22, hn22⟩ : ∃ x, x = m2.cms.length := ⟨_, rfl⟩
 have HI := Lib.hid (And.intro hr.ids (And.intro hr2.ids (And.intro hr.cms hr2.cms)))
 rw [← hn1, ← hn12, ← hn2, ← hn22] at HI
 rw [← hk, ← hk2] at HZ
 rw [← hn1, ← hn12] at HSI
 rw [← hn2, ← hn22] at HEQ
 rw [← hk, ← hk2, ← hn1, ← hn12, ← hn2, ← hn22]
 clear hr hr2 hZ hq hr_ hk hk2 hn1 hn2 hn12 hn22
 go_enter Tryz.func10, Tryz.ntmps10
 go_upto_region 1 with fail
 obtain ⟨w1, hw1⟩ : ∃ w1, w1 = w.alloc (.cells ([.int .i64 kind, .slice ai n1 ci, .slice ac n2 cc] : List Value).toArray 25) := ⟨_, rfl⟩
 obtain ⟨w2, hw2⟩ : ∃ w2, w2 = w1.alloc (.cells ([.int .i64 kind2, .slice ai2 n12 ci2, .slice ac2 n22 cc2] : List Value).toArray 25) := ⟨_, rfl⟩
 have z1 : w1.heap.size = w.heap.size + 1 := by rw [hw1]; exact size_alloc' _ _
 have b01 : Below w.heap.size w w1 := by rw [hw1]; exact (Below.refl _ _).alloc (Nat.le_refl _) _
 have b12 : Below w1.heap.size w1 w2 := by rw [hw2]; exact (Below.refl _ _).alloc (Nat.le_refl _) _
 have c1 : Cel w1 w.heap.size 25 [.int .i64 kind, .slice ai n1 ci, .slice ac n2 cc] := by rw [hw1]; exact Cel.new w _ _
 have c2 : Cel w2 (w.heap.size + 1) 25 [.int .i64 kind2, .slice ai2 n12 ci2, .slice ac2 n22 cc2] := by rw [hw2, ← z1]; exact Cel.new w1 _ _
 generalize hwg : World.alloc (World.alloc w _) _ = wG
 obtain rfl : w2 = wG := by rw [← hwg, hw2, hw1]
 obtain ⟨b1, hb1⟩ : ∃ b, b = w.heap.size := ⟨_, rfl⟩
 obtain ⟨b2, hb2⟩ : ∃ b, b = w.heap.size + 1 := ⟨_, rfl⟩
 rw [← hb2] at c2 ⊢
 rw [← hb1] at c1 ⊢
 have HC2 := Lib.hid (c1.step b12)
 have HE2 := Lib.hid c2
 have HB2 := Lib.hid (b01.step b12)
 clear hwg hw1 hw2 z1 b01 b12 c1 c2 hb1 hb2
 have p1 : w2.cell? ⟨b1, 1, none⟩ = some (.slice ai n1 ci) := HC2.out.at 1 _ rfl
 have q1 : w2.cell? ⟨b2, 1, none⟩ = some (.slice ai2 n12 ci2) := HE2.out.at 1 _ rfl
 go_wp2_with fail
 refine (HSI.out _ (HI.out.1.below HB2.out) (HI.out.2.1.below HB2.out)).mono ?_
 rintro e w3 ⟨rfl, hb⟩
 have HC3 := Lib.hid (HC2.out.step hb)
 have HE3 := Lib.hid (HE2.out.step hb)
 have HB3 := Lib.hid (HB2.out.step hb)
 clear hb p1 q1
 have p2 : w3.cell? ⟨b1, 2, none⟩ = some (.slice ac n2 cc) := HC3.out.at 2 _ rfl
 have q2 : w3.cell? ⟨b2, 2, none⟩ = some (.slice ac2 n22 cc2) := HE3.out.at 2 _ rfl
 go_wp2_with fail
 refine (HEQ.out _ (HI.out.2.2.1.below HB3.out) (HI.out.2.2.2.below HB3.out)).mono ?_
 rintro e w4 ⟨rfl, hb⟩
 have HC4 := Lib.hid (HC3.out.step hb)
 have HE4 := Lib.hid (HE3.out.step hb)
 have HB4 := Lib.hid (HB3.out.step hb)
 clear hb p2 q2
 have p0 : w4.cell? ⟨b1, 0, none⟩ = some (.int .i64 kind) := HC4.out.at 0 _ rfl
 have q0 : w4.cell? ⟨b2, 0, none⟩ = some (.int .i64 kind2) := HE4.out.at 0 _ rfl
 by_cases hk : kind = kind2
 ·subst hk
  have HF := Lib.hid (show Z = (q && r) by rw [HZ.out, decide_eq_true rfl]; simp)
  cases q with
  | false =>
   go_wp2_with fail
   go_ret
   exact ⟨retb (by rw [HF.out]; rfl), HB4.out⟩
  | true =>
   cases r with
   | false =>
    go_wp2_with fail
    go_ret
    exact ⟨retb (by rw [HF.out]; rfl), HB4.out⟩
   | true =>
    go_wp2_with fail
    go_ret
    exact ⟨retb (by rw [HF.out]; simp), HB4.out⟩
 ·have HF := Lib.hid (show Z = false by rw [HZ.out, decide_eq_false hk]; rfl)
  cases q with
  | false =>
   go_wp2_with fail
   go_ret
   exact ⟨retb HF.out.symm, HB4.out⟩
  | true =>
   cases r with
   | false =>
    go_wp2_with fail
    go_ret
    exact ⟨retb HF.out.symm, HB4.out⟩
   | true =>
    go_wp2_with fail
    go_ret
    exact ⟨retb (by rw [HF.out]; simp [hk]), HB4.out⟩
end Go.Proofs.YtofadpodlaakbaaGreat
