/- Messages in memory; the walks of May, of the layer msg. -/
import Derived.Test.YtofadpodlaakbaaGreatMsgPlain
import Derived.Test.YtofadpodlaakbaaGreatCmSmall
namespace Go.Proofs.YtofadpodlaakbaaGreat
open Go.ChangeShapes Go.WideShapes Go.ChangeAt Go.RowKit
set_option linter.unusedVariables false
set_option linter.unusedSimpArgs false
structure Cms (w : World) (a : Option Addr) (n c : Nat) (l : List Cmt) : Prop where
 len : l.length = n
 le : n ≤ c
 cap : c ≤ 9223372036854775807
 non : a = none → c = 0
 cells : n = 0 ∨ ∃ b off, a = some ⟨b, off, none⟩ ∧ ∀ i, i < n → ∃ pa pc, w.rangeAt b (off + i * 8) ((l.getD i noC).cs pa pc) ∧ CmR w (l.getD i noC) pa pc
theorem Cms.below {w w' : World} {a : Option Addr} {n c : Nat} {l : List Cmt} (h : Cms w a n c l) (hb : Below w.heap.size w w') : Cms w' a n c l := by
 refine ⟨h.len, h.le, h.cap, h.non, ?_⟩
 rcases h.cells with h0 | ⟨b, off, rfl, hc⟩
 ·exact .inl h0
 ·refine .inr ⟨b, off, rfl, fun i hi => ?_⟩
  obtain ⟨pa, pc, h1, h2⟩ := hc i hi
  exact ⟨pa, pc, rng_below h1 hb, h2.below hb⟩
theorem Cms.nil (w : World) : Cms w none 0 0 [] := ⟨rfl, Nat.le_refl _, by decide, fun _ => rfl, .inl rfl⟩
theorem Cms.all32 {w : World} {a : Option Addr} {n c : Nat} {l : List Cmt} (h : Cms w a n c l) : ∀ x ∈ l, all32 x.par := by
 intro x hx
 obtain ⟨i, hi, rfl⟩ := List.mem_iff_getElem.1 hx
 have hl := h.len
 rcases h.cells with h0 | ⟨b, off, rfl, hc⟩
 ·omega
 ·obtain ⟨pa, pc, _, h2⟩ := hc i (by omega)
  have e : l.getD i noC = l[i] := by rw [List.getD_eq_getElem?_getD, List.getElem?_eq_getElem hi]; rfl
  rw [e] at h2
  exact h2.ids.is32
def Msg.cs (m : Msg) (ai : Option Addr) (ci : Nat) (ac : Option Addr) (cc : Nat) : List Value := [.int .i64 m.kind, .slice ai m.ids.length ci, .slice ac m.cms.length cc]
def Msg.val (m : Msg) (ai : Option Addr) (ci : Nat) (ac : Option Addr) (cc : Nat) : Value := .agg (m.cs ai ci ac cc).toArray
structure MsgR (w : World) (m : Msg) (ai : Option Addr) (ci : Nat) (ac : Option Addr) (cc : Nat) : Prop where
 ids : Ids w ai m.ids.length ci m.ids
 cms : Cms w ac m.cms.length cc m.cms
theorem MsgR.below {w w' : World} {m : Msg} {ai ac : Option Addr} {ci cc : Nat} (h : MsgR w m ai ci ac cc) (hb : Below w.heap.size w w') : MsgR w' m ai ci ac cc := ⟨h.ids.below hb, h.cms.below hb⟩
theorem MsgR.all32 {w : World} {m : Msg} {ai ac : Option Addr} {ci cc : Nat} (h : MsgR w m ai ci ac cc) : all32M m := ⟨h.ids.is32, h.cms.all32⟩
set_option maxRecDepth 100000 in
set_option maxHeartbeats 4000000 in
theorem badc_any (c : Cmt) (a : Option Addr) (cap : Nat) (w : World) (hr : CmR w c a cap) : Calls Tryz.prog 33 #[c.val a cap] w fun e w' => e = .returned (.bool (!okC c)) ∧ Below w.heap.size w w' := by
 have HMA := Lib.hid (fun w' h => cmay_any c a cap w' h)
 have HME := Lib.hid (fun w' h => cmerge_any c a cap w' h)
 have HR := Lib.hid hr
 obtain ⟨may, hmay⟩ : ∃ b, b = mayC c := ⟨_, rfl⟩
 obtain ⟨mer, hmer⟩ : ∃ b, b = mergeC c := ⟨_, rfl⟩
 have HOK := Lib.hid (show (!okC c) = (!may || mer) by unfold okC; rw [hmay, hmer]; cases mayC c <;> cases mergeC c <;> rfl)
 rw [← hmay] at HMA
 rw [← hmer] at HME
 rw [HOK.out]
 unfold Cmt.val Cmt.cs at HMA HME ⊢
 obtain ⟨n, hn⟩ : ∃ x, x = c.par.length := ⟨_, rfl⟩
 obtain ⟨node, hnode⟩ : ∃ x, x = c.node := ⟨_, rfl⟩
 obtain ⟨seq, hseq⟩ : ∃ x, x = c.seq := ⟨_, rfl⟩
 obtain ⟨gen, hgen⟩ : ∃ x, x = c.gen := ⟨_, rfl⟩
 obtain ⟨kind, hkind⟩ : ∃ x, x = c.op.kind := ⟨_, rfl⟩
 obtain ⟨num, hnum⟩ : ∃ x, x = c.op.num := ⟨_, rfl⟩
 obtain ⟨s1, hs1⟩ : ∃ s : ByteArray, s = ⟨c.op.key.toArray⟩ := ⟨_, rfl⟩
 obtain ⟨s2, hs2⟩ : ∃ s : ByteArray, s = ⟨c.op.elem.toArray⟩ := ⟨_, rfl⟩
 try rw [← hn] at HMA
 try rw [← hnode] at HMA
 try rw [← hseq] at HMA
 try rw [← hgen] at HMA
 try rw [← hkind] at HMA
 try rw [← hnum] at HMA
 try rw [← hs1] at HMA
 try rw [← hs2] at HMA
 try rw [← hn] at HME
 try rw [← hnode] at HME
 try rw [← hseq] at HME
 try rw [← hgen] at HME
 try rw [← hkind] at HME
 try rw [← hnum] at HME
 try rw [← hs1] at HME
 try rw [← hs2] at HME
 try rw [← hn] at ⊢
 try rw [← hnode] at ⊢
 try rw [← hseq] at ⊢
 try rw [← hgen] at ⊢
 try rw [← hkind] at ⊢
 try rw [← hnum] at ⊢
 try rw [← hs1] at ⊢
 try rw [← hs2] at ⊢
 clear hr hmay hmer HOK hn hnode hseq hgen hkind hnum hs1 hs2
 go_enter Tryz.func33, Tryz.ntmps33
 go_upto_region 1 with fail
 obtain ⟨b1, hb1⟩ : ∃ b, b = w.heap.size := ⟨_, rfl⟩
 have hC0 := Cel.new w 41 [.int .i64 node, .int .i64 seq, .int .i64 gen, .slice a n cap, .int .i64 kind, .string s1, .string s2, .int .i64 num]
 rw [← hb1] at hC0 ⊢
 generalize hw1 : w.alloc (.cells _ _) = w1
 have HC1 := Lib.hid (show Cel w1 b1 41 [.int .i64 node, .int .i64 seq, .int .i64 gen, .slice a n cap, .int .i64 kind, .string s1, .string s2, .int .i64 num] by rw [← hw1]; exact hC0)
 have HB1 := Lib.hid (show Below w.heap.size w w1 by rw [← hw1]; exact (Below.refl _ _).alloc (Nat.le_refl _) _)
 clear hC0 hw1 hb1
 have p0 : w1.cell? ⟨b1, 0, none⟩ = some (.int .i64 node) := HC1.out.at 0 _ rfl
 have p1 : w1.cell? ⟨b1, 1, none⟩ = some (.int .i64 seq) := HC1.out.at 1 _ rfl
 have p2 : w1.cell? ⟨b1, 2, none⟩ = some (.int .i64 gen) := HC1.out.at 2 _ rfl
 have p3 : w1.cell? ⟨b1, 3, none⟩ = some (.slice a n cap) := HC1.out.at 3 _ rfl
 have p4 : w1.cell? ⟨b1, 4, none⟩ = some (.int .i64 kind) := HC1.out.at 4 _ rfl
 have p5 : w1.cell? ⟨b1, 5, none⟩ = some (.string s1) := HC1.out.at 5 _ rfl
 have p6 : w1.cell? ⟨b1, 6, none⟩ = some (.string s2) := HC1.out.at 6 _ rfl
 have p7 : w1.cell? ⟨b1, 7, none⟩ = some (.int .i64 num) := HC1.out.at 7 _ rfl
 go_wp2_with fail
 refine (HMA.out _ (HR.out.below HB1.out)).mono ?_
 rintro e w2 ⟨rfl, hb⟩
 have HC2 := Lib.hid (HC1.out.step hb)
 have HB2 := Lib.hid (HB1.out.step hb)
 clear hb p0 p1 p2 p3 p4 p5 p6 p7
 cases may with
 | false =>
  go_wp2_with fail
  go_ret
  exact ⟨rfl, HB2.out⟩
 | true =>
  have p0 : w2.cell? ⟨b1, 0, none⟩ = some (.int .i64 node) := HC2.out.at 0 _ rfl
  have p1 : w2.cell? ⟨b1, 1, none⟩ = some (.int .i64 seq) := HC2.out.at 1 _ rfl
  have p2 : w2.cell? ⟨b1, 2, none⟩ = some (.int .i64 gen) := HC2.out.at 2 _ rfl
  have p3 : w2.cell? ⟨b1, 3, none⟩ = some (.slice a n cap) := HC2.out.at 3 _ rfl
  have p4 : w2.cell? ⟨b1, 4, none⟩ = some (.int .i64 kind) := HC2.out.at 4 _ rfl
  have p5 : w2.cell? ⟨b1, 5, none⟩ = some (.string s1) := HC2.out.at 5 _ rfl
  have p6 : w2.cell? ⟨b1, 6, none⟩ = some (.string s2) := HC2.out.at 6 _ rfl
  have p7 : w2.cell? ⟨b1, 7, none⟩ = some (.int .i64 num) := HC2.out.at 7 _ rfl
  go_wp2_with fail
  refine (HME.out _ (HR.out.below HB2.out)).mono ?_
  rintro e w3 ⟨rfl, hb⟩
  have HB3 := Lib.hid (HB2.out.step hb)
  clear hb p0 p1 p2 p3 p4 p5 p6 p7
  go_wp2_with fail
  go_ret
  exact ⟨by cases mer <;> rfl, HB3.out⟩
def badV : Value := .func (.func 33) #[] #[]
set_option maxRecDepth 100000 in
set_option maxHeartbeats 4000000 in
theorem indexbad_any (a : Option Addr) (n c : Nat) (l : List Cmt) (w : World) (hr : Cms w a n c l) : Calls Tryz.prog 63 #[.slice a n c, badV] w fun e w' => ∃ k : Int, e = .returned (.int .i64 k) ∧ decide (k ≥ 0) = (!l.all okC) ∧ Below w.heap.size w w' := by
 have HR := Lib.hid hr
 have hn63 : n ≤ 9223372036854775807 := Nat.le_trans hr.le hr.cap
 have HL := Lib.hid hr.len
 clear hr
 unfold badV
 go_enter Tryz.func63, Tryz.ntmps63
 go_wp2_with fail
 go_loopw [8] (fun v8 wr => ∃ i : Nat, i ≤ n ∧ v8 = .int .i64 (i : Int) ∧ Hid (∀ j, j < i → okC (l.getD j noC) = true) ∧ Hid (Below w.heap.size w wr)) (fun v8 _ => n - (intOf v8).toNat)
 case atStart => exact ⟨0, Nat.zero_le _, rfl, Lib.hid (fun j hj => by omega), Lib.hid (Below.refl _ _)⟩
 case round =>
  obtain ⟨i, hi, rfl, hA, hB⟩ := hrel
  by_cases hlt : i < n
  ·have hlt' : (i : Int) < (n : Int) := by omega
   have hi0 : (0 : Int) ≤ (i : Int) := by omega
   rcases HR.out.cells with h0 | ⟨b, off, rfl, hc⟩
   ·omega
   obtain ⟨pa, pc, hrg, hcm⟩ := hc i hlt
   obtain ⟨x, hx⟩ : ∃ x, x = l.getD i noC := ⟨_, rfl⟩
   rw [← hx] at hrg hcm
   have HX := Lib.hid hx
   have HCM := Lib.hid hcm
   have hrg2 := rng_below hrg hB.out
   have q0 : wr.cell? ⟨b, off + i * 8, none⟩ = some (.int .i64 x.node) := hrg2 0 _ rfl
   have q1 : wr.cell? ⟨b, off + i * 8 + 1, none⟩ = some (.int .i64 x.seq) := hrg2 1 _ rfl
   have q2 : wr.cell? ⟨b, off + i * 8 + 2, none⟩ = some (.int .i64 x.gen) := hrg2 2 _ rfl
   have q3 : wr.cell? ⟨b, off + i * 8 + 3, none⟩ = some (.slice pa x.par.length pc) := hrg2 3 _ rfl
   have q4 : wr.cell? ⟨b, off + i * 8 + 4, none⟩ = some (.int .i64 x.op.kind) := hrg2 4 _ rfl
   have q5 : wr.cell? ⟨b, off + i * 8 + 5, none⟩ = some (.string ⟨x.op.key.toArray⟩) := hrg2 5 _ rfl
   have q6 : wr.cell? ⟨b, off + i * 8 + 6, none⟩ = some (.string ⟨x.op.elem.toArray⟩) := hrg2 6 _ rfl
   have q7 : wr.cell? ⟨b, off + i * 8 + 7, none⟩ = some (.int .i64 x.op.num) := hrg2 7 _ rfl
   obtain ⟨ok, hok⟩ : ∃ b, b = okC x := ⟨_, rfl⟩
   have HBAD := Lib.hid (fun w' h => badc_any x pa pc w' h)
   rw [← hok] at HBAD
   have HOK := Lib.hid hok
   unfold Cmt.val Cmt.cs at HBAD
   clear hc hx hcm hrg hrg2 hok
   generalize hg_node : x.node = node_ at HBAD q0 q1 q2 q3 q4 q5 q6 q7
   generalize hg_seq : x.seq = seq_ at HBAD q0 q1 q2 q3 q4 q5 q6 q7
   generalize hg_gen : x.gen = gen_ at HBAD q0 q1 q2 q3 q4 q5 q6 q7
   generalize hg_np : x.par.length = np_ at HBAD q0 q1 q2 q3 q4 q5 q6 q7
   generalize hg_kd : x.op.kind = kd_ at HBAD q0 q1 q2 q3 q4 q5 q6 q7
   generalize hg_s1 : (⟨x.op.key.toArray⟩ : ByteArray) = s1_ at HBAD q0 q1 q2 q3 q4 q5 q6 q7
   generalize hg_s2 : (⟨x.op.elem.toArray⟩ : ByteArray) = s2_ at HBAD q0 q1 q2 q3 q4 q5 q6 q7
   generalize hg_num : x.op.num = num_ at HBAD q0 q1 q2 q3 q4 q5 q6 q7
   clear hg_node hg_seq hg_gen hg_np hg_kd hg_s1 hg_s2 hg_num
   go_wp2_with fail
   refine (HBAD.out _ (HCM.out.below hB.out)).mono ?_
   rintro e w2 ⟨rfl, hb⟩
   have HB2 := Lib.hid (hB.out.step hb)
   clear hb q0 q1 q2 q3 q4 q5 q6 q7
   cases ok with
   | false =>
    go_wp2_with fail
    go_ret
    refine ⟨(i : Int), rfl, ?_, HB2.out⟩
    have hf : l.all okC = false := by
     rw [List.all_eq_false]
     have hil : i < l.length := by rw [HL.out]; exact hlt
     refine ⟨l[i], List.getElem_mem hil, ?_⟩
     have e : l.getD i noC = l[i] := by rw [List.getD_eq_getElem?_getD, List.getElem?_eq_getElem hil]; rfl
     rw [← e, ← HX.out, ← HOK.out]
     decide
    rw [hf]
    exact decide_eq_true hi0
   | true =>
    go_wp2_with fail
    refine ⟨⟨i + 1, by omega, by go_num, Lib.hid (fun j hj => ?_), HB2⟩, ?_⟩
    ·by_cases e : j = i
     ·rw [e, ← HX.out]; exact HOK.out.symm
     ·exact hA.out j (by omega)
    ·simp [intOf]; omega
  ·have hlt' : ¬ (i : Int) < (n : Int) := by omega
   go_wp2_with fail
   go_ret
   refine ⟨-1, rfl, ?_, hB.out⟩
   have ht : l.all okC = true := by
    rw [List.all_eq_true]
    intro x hx
    obtain ⟨j, hj, rfl⟩ := List.mem_iff_getElem.1 hx
    have h1 := hA.out j (by have := HL.out; omega)
    have e : l.getD j noC = l[j] := by rw [List.getD_eq_getElem?_getD, List.getElem?_eq_getElem hj]; rfl
    rw [e] at h1
    exact h1
   rw [ht]
   rfl
set_option maxRecDepth 100000 in
set_option maxHeartbeats 4000000 in
theorem containsbad_any (a : Option Addr) (n c : Nat) (l : List Cmt) (w : World) (hr : Cms w a n c l) : Calls Tryz.prog 36 #[.slice a n c, badV] w fun e w' => e = .returned (.bool (!l.all okC)) ∧ Below w.heap.size w w' := by
 have HI := Lib.hid (indexbad_any a n c l w hr)
 clear hr
 unfold badV at HI ⊢
 go_enter Tryz.func36, Tryz.ntmps36
 go_wp2_with fail
 refine HI.out.mono ?_
 rintro e w1 ⟨k, rfl, hk, hb⟩
 have HK := Lib.hid hk
 clear hk
 go_wp2_with fail
 go_ret
 exact ⟨retb HK.out, hb⟩
set_option maxRecDepth 100000 in
set_option maxHeartbeats 4000000 in
theorem mmay_any (m : Msg) (ai : Option Addr) (ci : Nat) (ac : Option Addr) (cc : Nat) (w : World) (hr : MsgR w m ai ci ac cc) : Calls Tryz.prog 11 #[m.val ai ci ac cc] w fun e w' => e = .returned (.bool (mayM m)) ∧ Below w.heap.size w w' := by
 obtain ⟨kind, ids, cms⟩ := m
 have hi := hr.ids
 have hcm := hr.cms
 simp only at hi hcm
 obtain ⟨n1, hn1⟩ : ∃ n, n = ids.length := ⟨_, rfl⟩
 obtain ⟨n2, hn2⟩ : ∃ n, n = cms.length := ⟨_, rfl⟩
 rw [← hn1] at hi
 rw [← hn2] at hcm
 have h163 : n1 ≤ 9223372036854775807 := Nat.le_trans hi.le hi.cap
 have h263 : n2 ≤ 9223372036854775807 := Nat.le_trans hcm.le hcm.cap
 have HRI := Lib.hid (fun w' h => rises_any ai n1 ci ids w' h)
 have HCO := Lib.hid (fun w' h => containsbad_any ac n2 cc cms w' h)
 obtain ⟨ri, hri⟩ : ∃ b, b = risesL ids := ⟨_, rfl⟩
 obtain ⟨al, hal⟩ : ∃ b, b = cms.all okC := ⟨_, rfl⟩
 rw [← hri] at HRI
 rw [← hal] at HCO
 unfold badV at HCO
 have HM := Lib.hid (show mayM ⟨kind, ids, cms⟩ = (if kind = 0 ∨ kind = 1 then decide (n1 ≤ 16) && ri && decide (n2 = 0) else decide (kind = 2) && decide (n1 = 0) && decide (n2 ≤ 6) && al) by unfold mayM; rw [hn1, hn2, hri, hal])
 have HI := Lib.hid hi
 have HCM := Lib.hid hcm
 unfold Msg.val Msg.cs
 rw [← hn1, ← hn2]
 clear hr hi hcm hn1 hn2 hri hal
 have HGO := Lib.hid (show ∀ b w', b = (if kind = 0 ∨ kind = 1 then decide (n1 ≤ 16) && ri && decide (n2 = 0) else decide (kind = 2) && decide (n1 = 0) && decide (n2 ≤ 6) && al) → Below w.heap.size w w' → (Ending.returned (.bool b) = Ending.returned (.bool (mayM ⟨kind, ids, cms⟩)) ∧ Below w.heap.size w w') from fun b w' h hb => ⟨by rw [h, HM.out], hb⟩)
 clear HM
 go_enter Tryz.func11, Tryz.ntmps11
 go_upto_region 1 with fail
 obtain ⟨b1, hb1⟩ : ∃ b, b = w.heap.size := ⟨_, rfl⟩
 have hC0 := Cel.new w 25 [.int .i64 kind, .slice ai n1 ci, .slice ac n2 cc]
 rw [← hb1] at hC0 ⊢
 generalize hw1 : w.alloc (.cells _ _) = w1
 have HC1 := Lib.hid (show Cel w1 b1 25 [.int .i64 kind, .slice ai n1 ci, .slice ac n2 cc] by rw [← hw1]; exact hC0)
 have HB1 := Lib.hid (show Below w.heap.size w w1 by rw [← hw1]; exact (Below.refl _ _).alloc (Nat.le_refl _) _)
 clear hC0 hw1 hb1
 have p0 : w1.cell? ⟨b1, 0, none⟩ = some (.int .i64 kind) := HC1.out.at 0 _ rfl
 have p1 : w1.cell? ⟨b1, 1, none⟩ = some (.slice ai n1 ci) := HC1.out.at 1 _ rfl
 have p2 : w1.cell? ⟨b1, 2, none⟩ = some (.slice ac n2 cc) := HC1.out.at 2 _ rfl
 by_cases h01 : kind = 0 ∨ kind = 1
 ·have HG1 := Lib.hid (fun b w' (h : b = (decide (n1 ≤ 16) && ri && decide (n2 = 0))) (hb : Below w.heap.size w w') => HGO.out b w' (by rw [if_pos h01]; exact h) hb)
  clear HGO
  by_cases h16 : n1 ≤ 16
  ·have h16' : (n1 : Int) ≤ 16 := by omega
   rw [decide_eq_true h16] at HG1
   rcases h01 with rfl | rfl
   ·go_wp2_with fail
    refine (HRI.out _ (HI.out.below HB1.out)).mono ?_
    rintro e w2 ⟨rfl, hb⟩
    have HC2 := Lib.hid (HC1.out.step hb)
    have HB2 := Lib.hid (HB1.out.step hb)
    clear hb p0 p1 p2
    have p2 : w2.cell? ⟨b1, 2, none⟩ = some (.slice ac n2 cc) := HC2.out.at 2 _ rfl
    cases ri with
    | false =>
     go_wp2_with fail
     go_ret
     exact HG1.out _ _ (by simp) HB2.out
    | true =>
     by_cases h0 : n2 = 0
     ·subst h0
      go_wp2_with fail
      go_ret
      exact HG1.out _ _ (by simp) HB2.out
     ·have h0' : ¬ (n2 : Int) = 0 := by omega
      rw [decide_eq_false h0] at HG1
      go_wp2_with fail
      go_ret
      exact HG1.out _ _ (by simp [h0]) HB2.out
   ·go_wp2_with fail
    refine (HRI.out _ (HI.out.below HB1.out)).mono ?_
    rintro e w2 ⟨rfl, hb⟩
    have HC2 := Lib.hid (HC1.out.step hb)
    have HB2 := Lib.hid (HB1.out.step hb)
    clear hb p0 p1 p2
    have p2 : w2.cell? ⟨b1, 2, none⟩ = some (.slice ac n2 cc) := HC2.out.at 2 _ rfl
    cases ri with
    | false =>
     go_wp2_with fail
     go_ret
     exact HG1.out _ _ (by simp) HB2.out
    | true =>
     by_cases h0 : n2 = 0
     ·subst h0
      go_wp2_with fail
      go_ret
      exact HG1.out _ _ (by simp) HB2.out
     ·have h0' : ¬ (n2 : Int) = 0 := by omega
      rw [decide_eq_false h0] at HG1
      go_wp2_with fail
      go_ret
      exact HG1.out _ _ (by simp [h0]) HB2.out
  ·have h16' : ¬ (n1 : Int) ≤ 16 := by omega
   rw [decide_eq_false h16] at HG1
   rcases h01 with rfl | rfl
   ·go_wp2_with fail
    go_ret
    exact HG1.out _ _ (by simp) HB1.out
   ·go_wp2_with fail
    go_ret
    exact HG1.out _ _ (by simp) HB1.out
 ·have k0 : ¬ kind = 0 := fun h => h01 (.inl h)
  have k1 : ¬ kind = 1 := fun h => h01 (.inr h)
  have HG1 := Lib.hid (fun b w' (h : b = (decide (kind = 2) && decide (n1 = 0) && decide (n2 ≤ 6) && al)) (hb : Below w.heap.size w w') => HGO.out b w' (by rw [if_neg h01]; exact h) hb)
  clear HGO h01
  by_cases k2 : kind = 2
  case neg =>
   rw [decide_eq_false k2] at HG1
   go_wp2_with fail
   go_ret
   exact HG1.out _ _ (by simp) HB1.out
  subst k2
  clear k0 k1
  by_cases h0 : n1 = 0
  case neg =>
   have h0' : ¬ (n1 : Int) = 0 := by omega
   rw [decide_eq_false h0] at HG1
   go_wp2_with fail
   go_ret
   exact HG1.out _ _ (by simp) HB1.out
  subst h0
  by_cases h6 : n2 ≤ 6
  case neg =>
   have h6' : ¬ (n2 : Int) ≤ 6 := by omega
   rw [decide_eq_false h6] at HG1
   go_wp2_with fail
   go_ret
   exact HG1.out _ _ (by simp) HB1.out
  have h6' : (n2 : Int) ≤ 6 := by omega
  rw [decide_eq_true h6] at HG1
  go_wp2_with fail
  refine (HCO.out _ (HCM.out.below HB1.out)).mono ?_
  rintro e w2 ⟨rfl, hb⟩
  have HB2 := Lib.hid (HB1.out.step hb)
  clear hb p0 p1 p2
  go_wp2_with fail
  go_ret
  exact HG1.out _ _ (by simp) HB2.out
end Go.Proofs.YtofadpodlaakbaaGreat
