/- The walk of Put, of the layer commit. -/
import Derived.Test.YtofadpodlaakbaaGreatCmSmall
import Derived.Test.YtofadpodlaakbaaGreatConcat
import Derived.Test.YtofadpodlaakbaaGreatOpsPut
import Derived.Test.YtofadpodlaakbaaGreatShaId
namespace Go.Proofs.YtofadpodlaakbaaGreat
open Go.ChangeShapes Go.WideShapes Go.ChangeAt Go.RowKit
set_option linter.unusedVariables false
set_option linter.unusedSimpArgs false
theorem new_cel (w : World) (zs X : List Value) (t : TypeId) (hz : zs.length = X.length) : (w.alloc (.cells zs.toArray t)).there w.heap.size 0 X.length ∧ Cel ((w.alloc (.cells zs.toArray t)).setCells w.heap.size 0 X) w.heap.size t X ∧ Below w.heap.size w ((w.alloc (.cells zs.toArray t)).setCells w.heap.size 0 X) := by
 have h0 := Cel.new w t zs
 refine ⟨by rw [← hz]; exact h0.there, ?_, (only_sets _ _ _ _).below ((Below.refl _ _).alloc (Nat.le_refl _) _) (Nat.le_refl _)⟩
 have := Cel.sets w.heap.size t X [] zs _ hz (by simpa using h0)
 simpa using this
section
variable {P : Program} {ops : Array Oper} {rest : List Oper} {op op2 : Oper} {ts : Array Value} {ds : List Deferred} {w : World} {Q : Exit → Act → World → Prop}
theorem wpList_new_store (hgd : op.guard = none) (hgd2 : op2.guard = none) (ty : TypeId) (d : Nat) (y : Operand) (ho : op.op = .alloc ty) (hd : op.dst = some d) (ho2 : op2.op = .store ty (.tmp d) y) (hd2 : op2.dst = none)
  (zs X : List Value) (hrun : (execOp (Act.eval ⟨ts, ds⟩) op).run P w = .ok (.value (.pointer (some ⟨w.heap.size, 0, none⟩))) (w.alloc (.cells zs.toArray ty))) (hlt : d < ts.size)
  (hy : Act.eval ⟨ts.setIfInBounds d (.pointer (some ⟨w.heap.size, 0, none⟩)), ds⟩ y = .agg X.toArray) (hz : zs.length = X.length) (hi : (P.info? ty).map (·.size) = some X.length) (h1 : ∀ v ∈ X, v.oneCell' = true)
  (h : ∀ w', Cel w' w.heap.size ty X → Below w.heap.size w w' → wpList P ops Q rest ⟨ts.setIfInBounds d (.pointer (some ⟨w.heap.size, 0, none⟩)), ds⟩ w') : wpList P ops Q (op :: op2 :: rest) ⟨ts, ds⟩ w := by
 obtain ⟨ht, hc, hb⟩ := new_cel w zs X ty hz
 refine wpList_alloc hgd ty ho zs.toArray hrun ?_
 rw [hd]
 refine wpList_store_mid hgd2 ty (.tmp d) y ho2 w.heap.size 0 X.toArray ?_ hy (by rw [List.size_toArray]; exact ht) (by rw [List.size_toArray]; exact hi) (all_oneCell_toArray h1) ?_
 ·show (ts.setIfInBounds d _).getD d undef = _
  rw [Array.getD_eq_getD_getElem?, Array.getElem?_setIfInBounds]
  simp [hlt]
 ·rw [hd2, List.toList_toArray]
  exact h _ hc hb
end
def zero32 : List UInt8 := List.replicate 32 0
theorem zero32_length : zero32.length = 32 := by simp [zero32]
theorem Txs.four {w : World} {b : Nat} {a0 a1 a2 a3 : Option Addr} {l0 l1 l2 l3 c0 c1 c2 c3 : Nat} {X0 X1 X2 X3 : List UInt8} (hc : Cel w b 28 [.slice a0 l0 c0, .slice a1 l1 c1, .slice a2 l2 c2, .slice a3 l3 c3])
  (h0 : Rd w a0 l0 c0 X0 ∧ (a0 = none → c0 = 0)) (h1 : Rd w a1 l1 c1 X1 ∧ (a1 = none → c1 = 0)) (h2 : Rd w a2 l2 c2 X2 ∧ (a2 = none → c2 = 0)) (h3 : Rd w a3 l3 c3 X3 ∧ (a3 = none → c3 = 0)) : Txs w (some ⟨b, 0, none⟩) 4 4 [X0, X1, X2, X3] := by
 refine ⟨rfl, Nat.le_refl _, by decide, (fun h => by cases h), .inr ⟨b, 0, rfl, fun i hi => ?_⟩⟩
 have e0 := h0.1.len
 have e1 := h1.1.len
 have e2 := h2.1.len
 have e3 := h3.1.len
 subst e0 e1 e2 e3
 match i, hi with
 | 0, _ => exact ⟨a0, c0, hc.at 0 _ rfl, h0⟩
 | 1, _ => exact ⟨a1, c1, hc.at 1 _ rfl, h1⟩
 | 2, _ => exact ⟨a2, c2, hc.at 2 _ rfl, h2⟩
 | 3, _ => exact ⟨a3, c3, hc.at 3 _ rfl, h3⟩
def CPutP (c : Cmt) (w : World) (e : Ending) (w' : World) : Prop :=
 if mayC c = true then ∃ a cap, e = .returned (.tuple #[.slice a (putC c).length cap, .int .i64 0]) ∧ Rd w' a (putC c).length cap (putC c) ∧ (a = none → cap = 0) ∧ Below w.heap.size w w'
 else e = .returned (.tuple #[.slice none 0 0, .int .i64 1]) ∧ Below w.heap.size w w'
def CPutO (c : Cmt) (w : World) (e : Ending) (w' : World) : Prop :=
 if mayC c = true then ∃ v, e = .returned (.tuple #[v, .int .i64 0]) ∧ w'.ownsRow w.heap.size 5 1 v (putC c).length ((putC c).map B) ∧ Below w.heap.size w w'
 else e = .returned (.tuple #[.slice none 0 0, .int .i64 1]) ∧ Below w.heap.size w w'
theorem putO_len {o : Opn} (h : mayB o = true) : (putO o).length ≤ 60 := by
 have h1 := endL_len h
 obtain ⟨k1, k2, k3, _⟩ := mayB_kind h
 have h2 := numL_le10 o.kind.toNat (by omega)
 have h3 := numL_le10 o.key.length (by have := (keyB_len k3).2; omega)
 have h4 := (keyB_len k3).2
 unfold putO txtL
 simp only [List.length_append]
 omega
theorem headL_len {c : Cmt} (h : mayC c = true) : (headL c).length ≤ 40 := by
 obtain ⟨h1, h2, _, _, _⟩ := mayC_parts h
 obtain ⟨n1, n2, n3, n4⟩ := mayC_node h
 have hf1 := fold_hi c.node (by omega) (by omega)
 have e0 := numL_le10 (fold c.node).toNat (by omega)
 have e1 := numL_le10 c.seq.toNat (by omega)
 have e2 := numL_le10 c.gen.toNat (by omega)
 have e3 := numL_le10 c.par.length (by omega)
 unfold headL
 simp only [List.length_append]
 omega
set_option maxRecDepth 100000 in
set_option maxHeartbeats 8000000 in
theorem cput_own (c : Cmt) (a : Option Addr) (cap : Nat) (w : World) (hr : CmR w c a cap) : Calls Tryz.prog 20 #[c.val a cap] w (CPutO c w) := by
 have HMAY := Lib.hid (fun w' h => cmay_any c a cap w' h)
 obtain ⟨m, hm⟩ : ∃ m, m = mayC c := ⟨_, rfl⟩
 rw [← hm] at HMAY
 have HRC := Lib.hid hr
 have HPU := Lib.hid (fun w' => put_any c.op.kind c.op.num c.op.key c.op.elem w' hr.key hr.elem)
 have HI := Lib.hid hr.ids
 obtain ⟨n, hn⟩ : ∃ n, n = c.par.length := ⟨_, rfl⟩
 have hn63 : n ≤ 9223372036854775807 := by rw [hn]; exact Nat.le_trans hr.ids.le hr.ids.cap
 have HN := Lib.hid hn
 have HM := Lib.hid hm
 rw [← hn] at HI
 unfold Cmt.val Cmt.cs at HMAY ⊢
 rw [← hn] at HMAY ⊢
 obtain ⟨node, hnode⟩ : ∃ x, x = c.node := ⟨_, rfl⟩
 obtain ⟨seq, hseq⟩ : ∃ x, x = c.seq := ⟨_, rfl⟩
 obtain ⟨gen, hgen⟩ : ∃ x, x = c.gen := ⟨_, rfl⟩
 obtain ⟨kind, hkind⟩ : ∃ x, x = c.op.kind := ⟨_, rfl⟩
 obtain ⟨num, hnum⟩ : ∃ x, x = c.op.num := ⟨_, rfl⟩
 obtain ⟨s1, hs1⟩ : ∃ s : ByteArray, s = ⟨c.op.key.toArray⟩ := ⟨_, rfl⟩
 obtain ⟨s2, hs2⟩ : ∃ s : ByteArray, s = ⟨c.op.elem.toArray⟩ := ⟨_, rfl⟩
 rw [← hkind, ← hnum, ← hs1, ← hs2] at HPU
 rw [← hnode, ← hseq, ← hgen, ← hkind, ← hnum, ← hs1, ← hs2] at HMAY ⊢
 have HNO := Lib.hid (And.intro hnode (And.intro hseq hgen))
 have HOP := Lib.hid (show (⟨kind, c.op.key, c.op.elem, num⟩ : Opn) = c.op by rw [hkind, hnum])
 clear hr hm hn hnode hseq hgen hkind hnum hs1 hs2
 go_enter Tryz.func20, Tryz.ntmps20
 go_upto_region 1 with fail
 obtain ⟨b1, hb1⟩ : ∃ b1, b1 = w.heap.size := ⟨_, rfl⟩
 have hC0 := Cel.new w 41 [.int .i64 node, .int .i64 seq, .int .i64 gen, .slice a n cap, .int .i64 kind, .string s1, .string s2, .int .i64 num]
 rw [← hb1] at hC0 ⊢
 generalize hw1 : w.alloc (.cells _ _) = w1
 have HC1 := Lib.hid (show Cel w1 b1 41 [.int .i64 node, .int .i64 seq, .int .i64 gen, .slice a n cap, .int .i64 kind, .string s1, .string s2, .int .i64 num] by rw [← hw1]; exact hC0)
 have HB1 := Lib.hid (show Below w.heap.size w w1 by rw [← hw1]; exact (Below.refl _ _).alloc (Nat.le_refl _) _)
 clear hC0 hw1 hb1
 have p0 : w1.cell? ⟨b1, 0, none⟩ = some (.int .i64 node) := HC1.out.at 0 _ rfl
 have p1 : w1.cell? ⟨b1, 1, none⟩ = some (.int .i64 seq) := HC1.out.at 1 _ rfl
 have p2 : w1.cell? ⟨b1, 2, none⟩ = some (.int .i64 gen) := HC1.out.at 2 _ rfl
 have p3 : w1.cell? ⟨b1, 3, none⟩ = some (.slice a n cap) := HC1.out.at 3 _ rfl
 have p4 : w1.cell? ⟨b1, 4, none⟩ = some (.int .i64 kind) := HC1.out.at 4 _ rfl
 have p5 : w1.cell? ⟨b1, 5, none⟩ = some (.string s1) := HC1.out.at 5 _ rfl
 have p6 : w1.cell? ⟨b1, 6, none⟩ = some (.string s2) := HC1.out.at 6 _ rfl
 have p7 : w1.cell? ⟨b1, 7, none⟩ = some (.int .i64 num) := HC1.out.at 7 _ rfl
 go_wp2_with fail
 refine (HMAY.out _ (HRC.out.below HB1.out)).mono ?_
 rintro e w2 ⟨rfl, hb⟩
 have HB2 := Lib.hid (HB1.out.step hb)
 have HC2 := Lib.hid (HC1.out.step hb)
 clear hb p0 p1 p2 p3 p4 p5 p6 p7 HB1 HC1 HMAY
 cases m with
 | false =>
  go_wp2_with fail
  go_ret2
  show CPutO c w _ _
  unfold CPutO
  rw [if_neg (by rw [← HM.out]; decide)]
  exact ⟨rfl, HB2.out⟩
 | true =>
  obtain ⟨q1, q2, q3, q4, q5⟩ := mayC_parts HM.out.symm
  obtain ⟨r1, r2, r3, r4⟩ := mayC_node HM.out.symm
  have hf0 := fold_lo c.node
  have hf1 := fold_hi c.node (by omega) (by omega)
  obtain ⟨N0, hN0⟩ : ∃ N, N = (fold c.node).toNat := ⟨_, rfl⟩
  obtain ⟨N1, hN1⟩ : ∃ N, N = c.seq.toNat := ⟨_, rfl⟩
  obtain ⟨N2, hN2⟩ : ∃ N, N = c.gen.toNat := ⟨_, rfl⟩
  have HFO := Lib.hid (fun w' => fold_any node w' (by rw [HNO.out.1]; omega) (by rw [HNO.out.1]; omega))
  rw [show fold node = (N0 : Int) by rw [hN0, Int.toNat_of_nonneg hf0, HNO.out.1]] at HFO
  have HX0 := Lib.hid (fun w' => (num_any N0 (by omega) w').mono fun e w'' h => OwnB.txt h)
  have HX1 := Lib.hid (fun w' => (num_any N1 (by omega) w').mono fun e w'' h => OwnB.txt h)
  have HX2 := Lib.hid (fun w' => (num_any N2 (by omega) w').mono fun e w'' h => OwnB.txt h)
  have HX3 := Lib.hid (fun w' => (num_any n (by have := HN.out; omega) w').mono fun e w'' h => OwnB.txt h)
  have hsq : seq = (N1 : Int) := by rw [HNO.out.2.1]; omega
  have hgn : gen = (N2 : Int) := by rw [HNO.out.2.2]; omega
  have hN1b : N1 ≤ 1048576 := by omega
  have hN2b : N2 ≤ 1048576 := by omega
  have hn8 : n ≤ 8 := by rw [HN.out]; exact q2
  have HH := Lib.hid (show headL c = [numL N0, numL N1, numL N2, numL n].flatten by unfold headL; rw [hN0, hN1, hN2, HN.out]; simp)
  have HHL := Lib.hid (headL_len HM.out.symm)
  have HNE := Lib.hid (show node = -1 ∨ (node ≠ -1 ∧ mayB c.op = true) from by rw [HNO.out.1]; rcases q5 with ⟨h, _⟩ | ⟨h, _, _, h2⟩ <;> simp_all)
  have HALL := Lib.hid HI.out.is32
  subst hsq hgn
  unfold Txt at HX0 HX1 HX2 HX3
  obtain ⟨X0, hX0⟩ : ∃ X, X = numL N0 := ⟨_, rfl⟩
  obtain ⟨X1, hX1⟩ : ∃ X, X = numL N1 := ⟨_, rfl⟩
  obtain ⟨X2, hX2⟩ : ∃ X, X = numL N2 := ⟨_, rfl⟩
  obtain ⟨X3, hX3⟩ : ∃ X, X = numL n := ⟨_, rfl⟩
  rw [← hX0] at HX0
  rw [← hX1] at HX1
  rw [← hX2] at HX2
  rw [← hX3] at HX3
  rw [← hX0, ← hX1, ← hX2, ← hX3] at HH
  obtain ⟨l0, hl0⟩ : ∃ l, l = X0.length := ⟨_, rfl⟩
  obtain ⟨l1, hl1⟩ : ∃ l, l = X1.length := ⟨_, rfl⟩
  obtain ⟨l2, hl2⟩ : ∃ l, l = X2.length := ⟨_, rfl⟩
  obtain ⟨l3, hl3⟩ : ∃ l, l = X3.length := ⟨_, rfl⟩
  rw [← hl0] at HX0
  rw [← hl1] at HX1
  rw [← hl2] at HX2
  rw [← hl3] at HX3
  obtain ⟨H, hH⟩ : ∃ H, H = headL c := ⟨_, rfl⟩
  rw [← hH] at HH HHL
  have HCO := Lib.hid (fun w' b h => concat_any (some ⟨b, 0, none⟩) 4 4 [X0, X1, X2, X3] w' h (by decide) (by rw [← HH.out]; have := HHL.out; omega))
  rw [← HH.out] at HCO
  have HHC := Lib.hid hH
  have HNODE := Lib.hid HNO.out.1
  clear q1 q2 q3 q4 q5 r1 r2 r3 r4 hf0 hf1 hN0 hN1 hN2 hX0 hX1 hX2 hX3 hl0 hl1 hl2 hl3 hH HNO
  go_upto_region 3 with fail
  have hD : ∀ j, j < 22 → ∀ n, n < 22 → j ≠ n → dkN [12, 13, 14, 15, 16, 17, 18, 19, 20, 21, 22, 23, 24, 25, 26, 27, 28, 29, 30, 31, 32, 4] j ≠ dkN [12, 13, 14, 15, 16, 17, 18, 19, 20, 21, 22, 23, 24, 25, 26, 27, 28, 29, 30, 31, 32, 4] n := by decide +kernel
  refine region_fun (by kernel_rfl) (by kernel_rfl) (fun gv => #[.agg #[.int .i64 node, .int .i64 (N1 : Int), .int .i64 (N2 : Int), .slice a n cap, .int .i64 kind, .string s1, .string s2, .int .i64 num], .pointer (some ⟨b1, 0, none⟩), .slice none 0 0, .int .i64 0, gv 4, gv 5, gv 6, gv 7, gv 8, gv 9, gv 10, gv 11, gv 12, gv 13, gv 14, gv 15, gv 16, gv 17, gv 18, gv 19, gv 20, gv 21, gv 22, gv 23, gv 24, gv 25, gv 26, gv 27, gv 28, gv 29, gv 30, gv 31, gv 32, gv 33, gv 34, gv 35, gv 36, gv 37, gv 38, gv 39, gv 40, gv 41, gv 42, gv 43, gv 44, gv 45, gv 46, gv 47, gv 48, gv 49, gv 50, gv 51, gv 52, gv 53, gv 54, gv 55, gv 56, gv 57, gv 58]) rfl (fun f gv wx => Below w2.heap.size w2 wx ∧ (∀ j, j < 22 → (fun j => Nat.beq j 4 || Nat.beq j 9 || Nat.beq j 13 || Nat.beq j 18 || Nat.beq j 19 || Nat.beq j 20 || Nat.beq j 21) j = false → On f j → gv (dkN [12, 13, 14, 15, 16, 17, 18, 19, 20, 21, 22, 23, 24, 25, 26, 27, 28, 29, 30, 31, 32, 4] j) = vkN [.pointer (some ⟨b1, 0, none⟩), .pointer (some ⟨b1, 0, none⟩), .int .i64 node, .int .u64 (N0 : Int), undef, .pointer (some ⟨b1, 0, none⟩), .pointer (some ⟨b1, 1, none⟩), .int .i64 (N1 : Int), .int .u64 (N1 : Int), undef, .pointer (some ⟨b1, 2, none⟩), .int .i64 (N2 : Int), .int .u64 (N2 : Int), undef, .pointer (some ⟨b1, 3, none⟩), .slice a n cap, .int .i64 (n : Int), .int .u64 (n : Int), undef, undef, undef, undef] j) ∧ ((On f 4 → ∃ a c, gv 16 = .slice a l0 c ∧ Rd wx a l0 c X0 ∧ (a = none → c = 0))) ∧ ((On f 9 → ∃ a c, gv 21 = .slice a l1 c ∧ Rd wx a l1 c X1 ∧ (a = none → c = 0))) ∧ ((On f 13 → ∃ a c, gv 25 = .slice a l2 c ∧ Rd wx a l2 c X2 ∧ (a = none → c = 0))) ∧ ((On f 18 → ∃ a c, gv 30 = .slice a l3 c ∧ Rd wx a l3 c X3 ∧ (a = none → c = 0))) ∧ ((On f 19 → ∃ b, gv 31 = .slice (some ⟨b, 0, none⟩) 4 4 ∧ Txs wx (some ⟨b, 0, none⟩) 4 4 [X0, X1, X2, X3])) ∧ ((On f 20 → ∃ v, gv 32 = v ∧ wx.ownsRow w2.heap.size 5 1 v H.length (H.map B))) ∧ ((On f 21 → ∃ v, gv 4 = v ∧ (On f 20 ∧ wx.ownsRow w2.heap.size 5 1 v H.length (H.map B))))) ?_ ?_ ?_
  ·have hoff : ∀ j, ¬ On (Array.replicate 22 false) j := by
    intro j hj; simp only [On, Array.getD_eq_getD_getElem?, Array.getElem?_replicate] at hj; split at hj <;> simp at hj
   exact ⟨(Below.refl _ _).drew, fun j _ _ x => absurd x (hoff _), fun x => absurd x (hoff _), fun x => absurd x (hoff _), fun x => absurd x (hoff _), fun x => absurd x (hoff _), fun x => absurd x (hoff _), fun x => absurd x (hoff _), fun x => absurd x (hoff _)⟩
  ·rintro i' o' f gv wm hio hs' hn he ⟨hBx, P, Q4, Q9, Q13, Q18, Q19, Q20, Q21⟩ KK hKK
   have hi' : i' < 22 := (Array.getElem?_eq_some_iff.1 hio).1
   replace hs' : f.size = 22 := hs'
   match i', hi' with
   | 0, _ =>
    cases hio
    have off : ¬ On f 0 := on_off (by omega) hn
    have HQ := Lib.hid (And.intro P (And.intro Q4 (And.intro Q9 (And.intro Q13 (And.intro Q18 (And.intro Q19 (And.intro Q20 Q21)))))))
    clear P Q4 Q9 Q13 Q18 Q19 Q20 Q21
    go_simp
    obtain ⟨P, Q4, Q9, Q13, Q18, Q19, Q20, Q21⟩ := HQ.out
    obtain ⟨bk, fw, fn⟩ := on3 (f := f) (i := 0) (by omega)
    exact hKK (upd gv 12 (.pointer (some ⟨b1, 0, none⟩))) _ (by exact ⟨hBx, vals_step (n := 0) (v := .pointer (some ⟨b1, 0, none⟩)) hD (by decide) (by omega) P (fun _ => rfl), fun x => Q4 (bk 4 (by decide) x), fun x => Q9 (bk 9 (by decide) x), fun x => Q13 (bk 13 (by decide) x), fun x => Q18 (bk 18 (by decide) x), fun x => Q19 (bk 19 (by decide) x), fun x => Q20 (bk 20 (by decide) x), fun x => by obtain ⟨v21, e9, h21, ho21⟩ := Q21 (bk 21 (by decide) x); exact ⟨_, e9, fw 20 h21, ho21⟩⟩)
   | 1, _ =>
    cases hio
    have off : ¬ On f 1 := on_off (by omega) hn
    have h0 : On f 0 := he ⟨0, .data⟩ (by simp) rfl
    have e0 : gv 12 = .pointer (some ⟨b1, 0, none⟩) := P 0 (by decide) rfl h0
    rw [e0]
    have HQ := Lib.hid (And.intro P (And.intro Q4 (And.intro Q9 (And.intro Q13 (And.intro Q18 (And.intro Q19 (And.intro Q20 Q21)))))))
    clear P Q4 Q9 Q13 Q18 Q19 Q20 Q21
    go_simp
    obtain ⟨P, Q4, Q9, Q13, Q18, Q19, Q20, Q21⟩ := HQ.out
    obtain ⟨bk, fw, fn⟩ := on3 (f := f) (i := 1) (by omega)
    exact hKK (upd (upd gv 12 (.pointer (some ⟨b1, 0, none⟩))) 13 (.pointer (some ⟨b1, 0, none⟩))) _ (by rw [upd_same e0]; exact ⟨hBx, vals_step (n := 1) (v := .pointer (some ⟨b1, 0, none⟩)) hD (by decide) (by omega) P (fun _ => rfl), fun x => Q4 (bk 4 (by decide) x), fun x => Q9 (bk 9 (by decide) x), fun x => Q13 (bk 13 (by decide) x), fun x => Q18 (bk 18 (by decide) x), fun x => Q19 (bk 19 (by decide) x), fun x => Q20 (bk 20 (by decide) x), fun x => by obtain ⟨v21, e9, h21, ho21⟩ := Q21 (bk 21 (by decide) x); exact ⟨_, e9, fw 20 h21, ho21⟩⟩)
   | 2, _ =>
    cases hio
    have off : ¬ On f 2 := on_off (by omega) hn
    have h1 : On f 1 := he ⟨1, .data⟩ (by simp) rfl
    have e1 : gv 13 = .pointer (some ⟨b1, 0, none⟩) := P 1 (by decide) rfl h1
    have d0 : wm.cell? ⟨b1, 0, none⟩ = some (.int .i64 node) := (HC2.out.step hBx).at 0 _ rfl
    rw [e1]
    have HQ := Lib.hid (And.intro P (And.intro Q4 (And.intro Q9 (And.intro Q13 (And.intro Q18 (And.intro Q19 (And.intro Q20 Q21)))))))
    clear P Q4 Q9 Q13 Q18 Q19 Q20 Q21
    go_simp
    obtain ⟨P, Q4, Q9, Q13, Q18, Q19, Q20, Q21⟩ := HQ.out
    obtain ⟨bk, fw, fn⟩ := on3 (f := f) (i := 2) (by omega)
    exact hKK (upd (upd gv 13 (.pointer (some ⟨b1, 0, none⟩))) 14 (.int .i64 node)) _ (by rw [upd_same e1]; exact ⟨hBx, vals_step (n := 2) (v := .int .i64 node) hD (by decide) (by omega) P (fun _ => rfl), fun x => Q4 (bk 4 (by decide) x), fun x => Q9 (bk 9 (by decide) x), fun x => Q13 (bk 13 (by decide) x), fun x => Q18 (bk 18 (by decide) x), fun x => Q19 (bk 19 (by decide) x), fun x => Q20 (bk 20 (by decide) x), fun x => by obtain ⟨v21, e9, h21, ho21⟩ := Q21 (bk 21 (by decide) x); exact ⟨_, e9, fw 20 h21, ho21⟩⟩)
   | 3, _ =>
    cases hio
    have off : ¬ On f 3 := on_off (by omega) hn
    have h2 : On f 2 := he ⟨2, .data⟩ (by simp) rfl
    have e2 : gv 14 = .int .i64 node := P 2 (by decide) rfl h2
    rw [e2]
    have HQ := Lib.hid (And.intro P (And.intro Q4 (And.intro Q9 (And.intro Q13 (And.intro Q18 (And.intro Q19 (And.intro Q20 Q21)))))))
    clear P Q4 Q9 Q13 Q18 Q19 Q20 Q21
    go_simp
    refine (HFO.out _).mono ?_
    rintro e w6 ⟨rfl, rfl⟩
    obtain ⟨P, Q4, Q9, Q13, Q18, Q19, Q20, Q21⟩ := HQ.out
    obtain ⟨bk, fw, fn⟩ := on3 (f := f) (i := 3) (by omega)
    exact hKK (upd (upd gv 14 (.int .i64 node)) 15 (.int .u64 (N0 : Int))) _ (by rw [upd_same e2]; exact ⟨hBx, vals_step (n := 3) (v := .int .u64 (N0 : Int)) hD (by decide) (by omega) P (fun _ => rfl), fun x => Q4 (bk 4 (by decide) x), fun x => Q9 (bk 9 (by decide) x), fun x => Q13 (bk 13 (by decide) x), fun x => Q18 (bk 18 (by decide) x), fun x => Q19 (bk 19 (by decide) x), fun x => Q20 (bk 20 (by decide) x), fun x => by obtain ⟨v21, e9, h21, ho21⟩ := Q21 (bk 21 (by decide) x); exact ⟨_, e9, fw 20 h21, ho21⟩⟩)
   | 4, _ =>
    cases hio
    have off : ¬ On f 4 := on_off (by omega) hn
    have h3 : On f 3 := he ⟨3, .data⟩ (by simp) rfl
    have e3 : gv 15 = .int .u64 (N0 : Int) := P 3 (by decide) rfl h3
    rw [e3]
    have HQ := Lib.hid (And.intro P (And.intro Q4 (And.intro Q9 (And.intro Q13 (And.intro Q18 (And.intro Q19 (And.intro Q20 Q21)))))))
    clear P Q4 Q9 Q13 Q18 Q19 Q20 Q21
    go_simp
    refine (HX0.out _).mono ?_
    rintro e w6 ⟨a4, c4, rfl, hr4, hz4, hb⟩
    obtain ⟨P, Q4, Q9, Q13, Q18, Q19, Q20, Q21⟩ := HQ.out
    obtain ⟨bk, fw, fn⟩ := on3 (f := f) (i := 4) (by omega)
    exact hKK (upd (upd gv 15 (.int .u64 (N0 : Int))) 16 (.slice a4 l0 c4)) _ (by rw [upd_same e3]; exact ⟨hBx.step hb, vals_step (n := 4) (v := .slice a4 l0 c4) hD (by decide) (by omega) P (fun h => nomatch (show true = false from h)), fun _ => ⟨a4, c4, rfl, hr4, hz4⟩, fun x => by obtain ⟨a9, c9, e9, hr9, hz9⟩ := Q9 (bk 9 (by decide) x); exact ⟨_, _, e9, hr9.below hb, hz9⟩, fun x => by obtain ⟨a13, c13, e9, hr13, hz13⟩ := Q13 (bk 13 (by decide) x); exact ⟨_, _, e9, hr13.below hb, hz13⟩, fun x => by obtain ⟨a18, c18, e9, hr18, hz18⟩ := Q18 (bk 18 (by decide) x); exact ⟨_, _, e9, hr18.below hb, hz18⟩, fun x => by obtain ⟨b, e9, htx⟩ := Q19 (bk 19 (by decide) x); exact ⟨_, e9, htx.below hb⟩, fun x => by obtain ⟨v20, e9, ho20⟩ := Q20 (bk 20 (by decide) x); exact ⟨_, e9, ownsRow_below ho20 hb⟩, fun x => by obtain ⟨v21, e9, h21, ho21⟩ := Q21 (bk 21 (by decide) x); exact ⟨_, e9, fw 20 h21, ownsRow_below ho21 hb⟩⟩)
   | 5, _ =>
    cases hio
    have off : ¬ On f 5 := on_off (by omega) hn
    have HQ := Lib.hid (And.intro P (And.intro Q4 (And.intro Q9 (And.intro Q13 (And.intro Q18 (And.intro Q19 (And.intro Q20 Q21)))))))
    clear P Q4 Q9 Q13 Q18 Q19 Q20 Q21
    go_simp
    obtain ⟨P, Q4, Q9, Q13, Q18, Q19, Q20, Q21⟩ := HQ.out
    obtain ⟨bk, fw, fn⟩ := on3 (f := f) (i := 5) (by omega)
    exact hKK (upd gv 17 (.pointer (some ⟨b1, 0, none⟩))) _ (by exact ⟨hBx, vals_step (n := 5) (v := .pointer (some ⟨b1, 0, none⟩)) hD (by decide) (by omega) P (fun _ => rfl), fun x => Q4 (bk 4 (by decide) x), fun x => Q9 (bk 9 (by decide) x), fun x => Q13 (bk 13 (by decide) x), fun x => Q18 (bk 18 (by decide) x), fun x => Q19 (bk 19 (by decide) x), fun x => Q20 (bk 20 (by decide) x), fun x => by obtain ⟨v21, e9, h21, ho21⟩ := Q21 (bk 21 (by decide) x); exact ⟨_, e9, fw 20 h21, ho21⟩⟩)
   | 6, _ =>
    cases hio
    have off : ¬ On f 6 := on_off (by omega) hn
    have h5 : On f 5 := he ⟨5, .data⟩ (by simp) rfl
    have e5 : gv 17 = .pointer (some ⟨b1, 0, none⟩) := P 5 (by decide) rfl h5
    rw [e5]
    have HQ := Lib.hid (And.intro P (And.intro Q4 (And.intro Q9 (And.intro Q13 (And.intro Q18 (And.intro Q19 (And.intro Q20 Q21)))))))
    clear P Q4 Q9 Q13 Q18 Q19 Q20 Q21
    go_simp
    obtain ⟨P, Q4, Q9, Q13, Q18, Q19, Q20, Q21⟩ := HQ.out
    obtain ⟨bk, fw, fn⟩ := on3 (f := f) (i := 6) (by omega)
    exact hKK (upd (upd gv 17 (.pointer (some ⟨b1, 0, none⟩))) 18 (.pointer (some ⟨b1, 1, none⟩))) _ (by rw [upd_same e5]; exact ⟨hBx, vals_step (n := 6) (v := .pointer (some ⟨b1, 1, none⟩)) hD (by decide) (by omega) P (fun _ => rfl), fun x => Q4 (bk 4 (by decide) x), fun x => Q9 (bk 9 (by decide) x), fun x => Q13 (bk 13 (by decide) x), fun x => Q18 (bk 18 (by decide) x), fun x => Q19 (bk 19 (by decide) x), fun x => Q20 (bk 20 (by decide) x), fun x => by obtain ⟨v21, e9, h21, ho21⟩ := Q21 (bk 21 (by decide) x); exact ⟨_, e9, fw 20 h21, ho21⟩⟩)
   | 7, _ =>
    cases hio
    have off : ¬ On f 7 := on_off (by omega) hn
    have h6 : On f 6 := he ⟨6, .data⟩ (by simp) rfl
    have e6 : gv 18 = .pointer (some ⟨b1, 1, none⟩) := P 6 (by decide) rfl h6
    have d0 : wm.cell? ⟨b1, 1, none⟩ = some (.int .i64 (N1 : Int)) := (HC2.out.step hBx).at 1 _ rfl
    rw [e6]
    have HQ := Lib.hid (And.intro P (And.intro Q4 (And.intro Q9 (And.intro Q13 (And.intro Q18 (And.intro Q19 (And.intro Q20 Q21)))))))
    clear P Q4 Q9 Q13 Q18 Q19 Q20 Q21
    go_simp
    obtain ⟨P, Q4, Q9, Q13, Q18, Q19, Q20, Q21⟩ := HQ.out
    obtain ⟨bk, fw, fn⟩ := on3 (f := f) (i := 7) (by omega)
    exact hKK (upd (upd gv 18 (.pointer (some ⟨b1, 1, none⟩))) 19 (.int .i64 (N1 : Int))) _ (by rw [upd_same e6]; exact ⟨hBx, vals_step (n := 7) (v := .int .i64 (N1 : Int)) hD (by decide) (by omega) P (fun _ => rfl), fun x => Q4 (bk 4 (by decide) x), fun x => Q9 (bk 9 (by decide) x), fun x => Q13 (bk 13 (by decide) x), fun x => Q18 (bk 18 (by decide) x), fun x => Q19 (bk 19 (by decide) x), fun x => Q20 (bk 20 (by decide) x), fun x => by obtain ⟨v21, e9, h21, ho21⟩ := Q21 (bk 21 (by decide) x); exact ⟨_, e9, fw 20 h21, ho21⟩⟩)
   | 8, _ =>
    cases hio
    have off : ¬ On f 8 := on_off (by omega) hn
    have h7 : On f 7 := he ⟨7, .data⟩ (by simp) rfl
    have e7 : gv 19 = .int .i64 (N1 : Int) := P 7 (by decide) rfl h7
    have d0 : IntKind.u64.wrap (N1 : Int) = (N1 : Int) := by rw [wrap_u64]; omega
    rw [e7]
    have HQ := Lib.hid (And.intro P (And.intro Q4 (And.intro Q9 (And.intro Q13 (And.intro Q18 (And.intro Q19 (And.intro Q20 Q21)))))))
    clear P Q4 Q9 Q13 Q18 Q19 Q20 Q21
    go_simp
    obtain ⟨P, Q4, Q9, Q13, Q18, Q19, Q20, Q21⟩ := HQ.out
    obtain ⟨bk, fw, fn⟩ := on3 (f := f) (i := 8) (by omega)
    exact hKK (upd (upd gv 19 (.int .i64 (N1 : Int))) 20 (.int .u64 (N1 : Int))) _ (by rw [upd_same e7]; exact ⟨hBx, vals_step (n := 8) (v := .int .u64 (N1 : Int)) hD (by decide) (by omega) P (fun _ => rfl), fun x => Q4 (bk 4 (by decide) x), fun x => Q9 (bk 9 (by decide) x), fun x => Q13 (bk 13 (by decide) x), fun x => Q18 (bk 18 (by decide) x), fun x => Q19 (bk 19 (by decide) x), fun x => Q20 (bk 20 (by decide) x), fun x => by obtain ⟨v21, e9, h21, ho21⟩ := Q21 (bk 21 (by decide) x); exact ⟨_, e9, fw 20 h21, ho21⟩⟩)
   | 9, _ =>
    cases hio
    have off : ¬ On f 9 := on_off (by omega) hn
    have h8 : On f 8 := he ⟨8, .data⟩ (by simp) rfl
    have e8 : gv 20 = .int .u64 (N1 : Int) := P 8 (by decide) rfl h8
    rw [e8]
    have HQ := Lib.hid (And.intro P (And.intro Q4 (And.intro Q9 (And.intro Q13 (And.intro Q18 (And.intro Q19 (And.intro Q20 Q21)))))))
    clear P Q4 Q9 Q13 Q18 Q19 Q20 Q21
    go_simp
    refine (HX1.out _).mono ?_
    rintro e w6 ⟨a9, c9, rfl, hr9, hz9, hb⟩
    obtain ⟨P, Q4, Q9, Q13, Q18, Q19, Q20, Q21⟩ := HQ.out
    obtain ⟨bk, fw, fn⟩ := on3 (f := f) (i := 9) (by omega)
    exact hKK (upd (upd gv 20 (.int .u64 (N1 : Int))) 21 (.slice a9 l1 c9)) _ (by rw [upd_same e8]; exact ⟨hBx.step hb, vals_step (n := 9) (v := .slice a9 l1 c9) hD (by decide) (by omega) P (fun h => nomatch (show true = false from h)), fun x => by obtain ⟨a4, c4, e9, hr4, hz4⟩ := Q4 (bk 4 (by decide) x); exact ⟨_, _, e9, hr4.below hb, hz4⟩, fun _ => ⟨a9, c9, rfl, hr9, hz9⟩, fun x => by obtain ⟨a13, c13, e9, hr13, hz13⟩ := Q13 (bk 13 (by decide) x); exact ⟨_, _, e9, hr13.below hb, hz13⟩, fun x => by obtain ⟨a18, c18, e9, hr18, hz18⟩ := Q18 (bk 18 (by decide) x); exact ⟨_, _, e9, hr18.below hb, hz18⟩, fun x => by obtain ⟨b, e9, htx⟩ := Q19 (bk 19 (by decide) x); exact ⟨_, e9, htx.below hb⟩, fun x => by obtain ⟨v20, e9, ho20⟩ := Q20 (bk 20 (by decide) x); exact ⟨_, e9, ownsRow_below ho20 hb⟩, fun x => by obtain ⟨v21, e9, h21, ho21⟩ := Q21 (bk 21 (by decide) x); exact ⟨_, e9, fw 20 h21, ownsRow_below ho21 hb⟩⟩)
   | 10, _ =>
    cases hio
    have off : ¬ On f 10 := on_off (by omega) hn
    have HQ := Lib.hid (And.intro P (And.intro Q4 (And.intro Q9 (And.intro Q13 (And.intro Q18 (And.intro Q19 (And.intro Q20 Q21)))))))
    clear P Q4 Q9 Q13 Q18 Q19 Q20 Q21
    go_simp
    obtain ⟨P, Q4, Q9, Q13, Q18, Q19, Q20, Q21⟩ := HQ.out
    obtain ⟨bk, fw, fn⟩ := on3 (f := f) (i := 10) (by omega)
    exact hKK (upd gv 22 (.pointer (some ⟨b1, 2, none⟩))) _ (by exact ⟨hBx, vals_step (n := 10) (v := .pointer (some ⟨b1, 2, none⟩)) hD (by decide) (by omega) P (fun _ => rfl), fun x => Q4 (bk 4 (by decide) x), fun x => Q9 (bk 9 (by decide) x), fun x => Q13 (bk 13 (by decide) x), fun x => Q18 (bk 18 (by decide) x), fun x => Q19 (bk 19 (by decide) x), fun x => Q20 (bk 20 (by decide) x), fun x => by obtain ⟨v21, e9, h21, ho21⟩ := Q21 (bk 21 (by decide) x); exact ⟨_, e9, fw 20 h21, ho21⟩⟩)
   | 11, _ =>
    cases hio
    have off : ¬ On f 11 := on_off (by omega) hn
    have h10 : On f 10 := he ⟨10, .data⟩ (by simp) rfl
    have e10 : gv 22 = .pointer (some ⟨b1, 2, none⟩) := P 10 (by decide) rfl h10
    have d0 : wm.cell? ⟨b1, 2, none⟩ = some (.int .i64 (N2 : Int)) := (HC2.out.step hBx).at 2 _ rfl
    rw [e10]
    have HQ := Lib.hid (And.intro P (And.intro Q4 (And.intro Q9 (And.intro Q13 (And.intro Q18 (And.intro Q19 (And.intro Q20 Q21)))))))
    clear P Q4 Q9 Q13 Q18 Q19 Q20 Q21
    go_simp
    obtain ⟨P, Q4, Q9, Q13, Q18, Q19, Q20, Q21⟩ := HQ.out
    obtain ⟨bk, fw, fn⟩ := on3 (f := f) (i := 11) (by omega)
    exact hKK (upd (upd gv 22 (.pointer (some ⟨b1, 2, none⟩))) 23 (.int .i64 (N2 : Int))) _ (by rw [upd_same e10]; exact ⟨hBx, vals_step (n := 11) (v := .int .i64 (N2 : Int)) hD (by decide) (by omega) P (fun _ => rfl), fun x => Q4 (bk 4 (by decide) x), fun x => Q9 (bk 9 (by decide) x), fun x => Q13 (bk 13 (by decide) x), fun x => Q18 (bk 18 (by decide) x), fun x => Q19 (bk 19 (by decide) x), fun x => Q20 (bk 20 (by decide) x), fun x => by obtain ⟨v21, e9, h21, ho21⟩ := Q21 (bk 21 (by decide) x); exact ⟨_, e9, fw 20 h21, ho21⟩⟩)
   | 12, _ =>
    cases hio
    have off : ¬ On f 12 := on_off (by omega) hn
    have h11 : On f 11 := he ⟨11, .data⟩ (by simp) rfl
    have e11 : gv 23 = .int .i64 (N2 : Int) := P 11 (by decide) rfl h11
    have d0 : IntKind.u64.wrap (N2 : Int) = (N2 : Int) := by rw [wrap_u64]; omega
    rw [e11]
    have HQ := Lib.hid (And.intro P (And.intro Q4 (And.intro Q9 (And.intro Q13 (And.intro Q18 (And.intro Q19 (And.intro Q20 Q21)))))))
    clear P Q4 Q9 Q13 Q18 Q19 Q20 Q21
    go_simp
    obtain ⟨P, Q4, Q9, Q13, Q18, Q19, Q20, Q21⟩ := HQ.out
    obtain ⟨bk, fw, fn⟩ := on3 (f := f) (i := 12) (by omega)
    exact hKK (upd (upd gv 23 (.int .i64 (N2 : Int))) 24 (.int .u64 (N2 : Int))) _ (by rw [upd_same e11]; exact ⟨hBx, vals_step (n := 12) (v := .int .u64 (N2 : Int)) hD (by decide) (by omega) P (fun _ => rfl), fun x => Q4 (bk 4 (by decide) x), fun x => Q9 (bk 9 (by decide) x), fun x => Q13 (bk 13 (by decide) x), fun x => Q18 (bk 18 (by decide) x), fun x => Q19 (bk 19 (by decide) x), fun x => Q20 (bk 20 (by decide) x), fun x => by obtain ⟨v21, e9, h21, ho21⟩ := Q21 (bk 21 (by decide) x); exact ⟨_, e9, fw 20 h21, ho21⟩⟩)
   | 13, _ =>
    cases hio
    have off : ¬ On f 13 := on_off (by omega) hn
    have h12 : On f 12 := he ⟨12, .data⟩ (by simp) rfl
    have e12 : gv 24 = .int .u64 (N2 : Int) := P 12 (by decide) rfl h12
    rw [e12]
    have HQ := Lib.hid (And.intro P (And.intro Q4 (And.intro Q9 (And.intro Q13 (And.intro Q18 (And.intro Q19 (And.intro Q20 Q21)))))))
    clear P Q4 Q9 Q13 Q18 Q19 Q20 Q21
    go_simp
    refine (HX2.out _).mono ?_
    rintro e w6 ⟨a13, c13, rfl, hr13, hz13, hb⟩
    obtain ⟨P, Q4, Q9, Q13, Q18, Q19, Q20, Q21⟩ := HQ.out
    obtain ⟨bk, fw, fn⟩ := on3 (f := f) (i := 13) (by omega)
    exact hKK (upd (upd gv 24 (.int .u64 (N2 : Int))) 25 (.slice a13 l2 c13)) _ (by rw [upd_same e12]; exact ⟨hBx.step hb, vals_step (n := 13) (v := .slice a13 l2 c13) hD (by decide) (by omega) P (fun h => nomatch (show true = false from h)), fun x => by obtain ⟨a4, c4, e9, hr4, hz4⟩ := Q4 (bk 4 (by decide) x); exact ⟨_, _, e9, hr4.below hb, hz4⟩, fun x => by obtain ⟨a9, c9, e9, hr9, hz9⟩ := Q9 (bk 9 (by decide) x); exact ⟨_, _, e9, hr9.below hb, hz9⟩, fun _ => ⟨a13, c13, rfl, hr13, hz13⟩, fun x => by obtain ⟨a18, c18, e9, hr18, hz18⟩ := Q18 (bk 18 (by decide) x); exact ⟨_, _, e9, hr18.below hb, hz18⟩, fun x => by obtain ⟨b, e9, htx⟩ := Q19 (bk 19 (by decide) x); exact ⟨_, e9, htx.below hb⟩, fun x => by obtain ⟨v20, e9, ho20⟩ := Q20 (bk 20 (by decide) x); exact ⟨_, e9, ownsRow_below ho20 hb⟩, fun x => by obtain ⟨v21, e9, h21, ho21⟩ := Q21 (bk 21 (by decide) x); exact ⟨_, e9, fw 20 h21, ownsRow_below ho21 hb⟩⟩)
   | 14, _ =>
    cases hio
    have off : ¬ On f 14 := on_off (by omega) hn
    have HQ := Lib.hid (And.intro P (And.intro Q4 (And.intro Q9 (And.intro Q13 (And.intro Q18 (And.intro Q19 (And.intro Q20 Q21)))))))
    clear P Q4 Q9 Q13 Q18 Q19 Q20 Q21
    go_simp
    obtain ⟨P, Q4, Q9, Q13, Q18, Q19, Q20, Q21⟩ := HQ.out
    obtain ⟨bk, fw, fn⟩ := on3 (f := f) (i := 14) (by omega)
    exact hKK (upd gv 26 (.pointer (some ⟨b1, 3, none⟩))) _ (by exact ⟨hBx, vals_step (n := 14) (v := .pointer (some ⟨b1, 3, none⟩)) hD (by decide) (by omega) P (fun _ => rfl), fun x => Q4 (bk 4 (by decide) x), fun x => Q9 (bk 9 (by decide) x), fun x => Q13 (bk 13 (by decide) x), fun x => Q18 (bk 18 (by decide) x), fun x => Q19 (bk 19 (by decide) x), fun x => Q20 (bk 20 (by decide) x), fun x => by obtain ⟨v21, e9, h21, ho21⟩ := Q21 (bk 21 (by decide) x); exact ⟨_, e9, fw 20 h21, ho21⟩⟩)
   | 15, _ =>
    cases hio
    have off : ¬ On f 15 := on_off (by omega) hn
    have h14 : On f 14 := he ⟨14, .data⟩ (by simp) rfl
    have e14 : gv 26 = .pointer (some ⟨b1, 3, none⟩) := P 14 (by decide) rfl h14
    have d0 : wm.cell? ⟨b1, 3, none⟩ = some (.slice a n cap) := (HC2.out.step hBx).at 3 _ rfl
    rw [e14]
    have HQ := Lib.hid (And.intro P (And.intro Q4 (And.intro Q9 (And.intro Q13 (And.intro Q18 (And.intro Q19 (And.intro Q20 Q21)))))))
    clear P Q4 Q9 Q13 Q18 Q19 Q20 Q21
    go_simp
    obtain ⟨P, Q4, Q9, Q13, Q18, Q19, Q20, Q21⟩ := HQ.out
    obtain ⟨bk, fw, fn⟩ := on3 (f := f) (i := 15) (by omega)
    exact hKK (upd (upd gv 26 (.pointer (some ⟨b1, 3, none⟩))) 27 (.slice a n cap)) _ (by rw [upd_same e14]; exact ⟨hBx, vals_step (n := 15) (v := .slice a n cap) hD (by decide) (by omega) P (fun _ => rfl), fun x => Q4 (bk 4 (by decide) x), fun x => Q9 (bk 9 (by decide) x), fun x => Q13 (bk 13 (by decide) x), fun x => Q18 (bk 18 (by decide) x), fun x => Q19 (bk 19 (by decide) x), fun x => Q20 (bk 20 (by decide) x), fun x => by obtain ⟨v21, e9, h21, ho21⟩ := Q21 (bk 21 (by decide) x); exact ⟨_, e9, fw 20 h21, ho21⟩⟩)
   | 16, _ =>
    cases hio
    have off : ¬ On f 16 := on_off (by omega) hn
    have h15 : On f 15 := he ⟨15, .data⟩ (by simp) rfl
    have e15 : gv 27 = .slice a n cap := P 15 (by decide) rfl h15
    rw [e15]
    have HQ := Lib.hid (And.intro P (And.intro Q4 (And.intro Q9 (And.intro Q13 (And.intro Q18 (And.intro Q19 (And.intro Q20 Q21)))))))
    clear P Q4 Q9 Q13 Q18 Q19 Q20 Q21
    go_simp
    obtain ⟨P, Q4, Q9, Q13, Q18, Q19, Q20, Q21⟩ := HQ.out
    obtain ⟨bk, fw, fn⟩ := on3 (f := f) (i := 16) (by omega)
    exact hKK (upd (upd gv 27 (.slice a n cap)) 28 (.int .i64 (n : Int))) _ (by rw [upd_same e15]; exact ⟨hBx, vals_step (n := 16) (v := .int .i64 (n : Int)) hD (by decide) (by omega) P (fun _ => rfl), fun x => Q4 (bk 4 (by decide) x), fun x => Q9 (bk 9 (by decide) x), fun x => Q13 (bk 13 (by decide) x), fun x => Q18 (bk 18 (by decide) x), fun x => Q19 (bk 19 (by decide) x), fun x => Q20 (bk 20 (by decide) x), fun x => by obtain ⟨v21, e9, h21, ho21⟩ := Q21 (bk 21 (by decide) x); exact ⟨_, e9, fw 20 h21, ho21⟩⟩)
   | 17, _ =>
    cases hio
    have off : ¬ On f 17 := on_off (by omega) hn
    have h16 : On f 16 := he ⟨16, .data⟩ (by simp) rfl
    have e16 : gv 28 = .int .i64 (n : Int) := P 16 (by decide) rfl h16
    have d0 : IntKind.u64.wrap (n : Int) = (n : Int) := by rw [wrap_u64]; omega
    rw [e16]
    have HQ := Lib.hid (And.intro P (And.intro Q4 (And.intro Q9 (And.intro Q13 (And.intro Q18 (And.intro Q19 (And.intro Q20 Q21)))))))
    clear P Q4 Q9 Q13 Q18 Q19 Q20 Q21
    go_simp
    obtain ⟨P, Q4, Q9, Q13, Q18, Q19, Q20, Q21⟩ := HQ.out
    obtain ⟨bk, fw, fn⟩ := on3 (f := f) (i := 17) (by omega)
    exact hKK (upd (upd gv 28 (.int .i64 (n : Int))) 29 (.int .u64 (n : Int))) _ (by rw [upd_same e16]; exact ⟨hBx, vals_step (n := 17) (v := .int .u64 (n : Int)) hD (by decide) (by omega) P (fun _ => rfl), fun x => Q4 (bk 4 (by decide) x), fun x => Q9 (bk 9 (by decide) x), fun x => Q13 (bk 13 (by decide) x), fun x => Q18 (bk 18 (by decide) x), fun x => Q19 (bk 19 (by decide) x), fun x => Q20 (bk 20 (by decide) x), fun x => by obtain ⟨v21, e9, h21, ho21⟩ := Q21 (bk 21 (by decide) x); exact ⟨_, e9, fw 20 h21, ho21⟩⟩)
   | 18, _ =>
    cases hio
    have off : ¬ On f 18 := on_off (by omega) hn
    have h17 : On f 17 := he ⟨17, .data⟩ (by simp) rfl
    have e17 : gv 29 = .int .u64 (n : Int) := P 17 (by decide) rfl h17
    rw [e17]
    have HQ := Lib.hid (And.intro P (And.intro Q4 (And.intro Q9 (And.intro Q13 (And.intro Q18 (And.intro Q19 (And.intro Q20 Q21)))))))
    clear P Q4 Q9 Q13 Q18 Q19 Q20 Q21
    go_simp
    refine (HX3.out _).mono ?_
    rintro e w6 ⟨a18, c18, rfl, hr18, hz18, hb⟩
    obtain ⟨P, Q4, Q9, Q13, Q18, Q19, Q20, Q21⟩ := HQ.out
    obtain ⟨bk, fw, fn⟩ := on3 (f := f) (i := 18) (by omega)
    exact hKK (upd (upd gv 29 (.int .u64 (n : Int))) 30 (.slice a18 l3 c18)) _ (by rw [upd_same e17]; exact ⟨hBx.step hb, vals_step (n := 18) (v := .slice a18 l3 c18) hD (by decide) (by omega) P (fun h => nomatch (show true = false from h)), fun x => by obtain ⟨a4, c4, e9, hr4, hz4⟩ := Q4 (bk 4 (by decide) x); exact ⟨_, _, e9, hr4.below hb, hz4⟩, fun x => by obtain ⟨a9, c9, e9, hr9, hz9⟩ := Q9 (bk 9 (by decide) x); exact ⟨_, _, e9, hr9.below hb, hz9⟩, fun x => by obtain ⟨a13, c13, e9, hr13, hz13⟩ := Q13 (bk 13 (by decide) x); exact ⟨_, _, e9, hr13.below hb, hz13⟩, fun _ => ⟨a18, c18, rfl, hr18, hz18⟩, fun x => by obtain ⟨b, e9, htx⟩ := Q19 (bk 19 (by decide) x); exact ⟨_, e9, htx.below hb⟩, fun x => by obtain ⟨v20, e9, ho20⟩ := Q20 (bk 20 (by decide) x); exact ⟨_, e9, ownsRow_below ho20 hb⟩, fun x => by obtain ⟨v21, e9, h21, ho21⟩ := Q21 (bk 21 (by decide) x); exact ⟨_, e9, fw 20 h21, ownsRow_below ho21 hb⟩⟩)
   | 19, _ =>
    cases hio
    have off : ¬ On f 19 := on_off (by omega) hn
    have h4 : On f 4 := he ⟨4, .data⟩ (by simp) rfl
    obtain ⟨a4, c4, e4, hr4, hz4⟩ := Q4 h4
    have h9 : On f 9 := he ⟨9, .data⟩ (by simp) rfl
    obtain ⟨a9, c9, e9, hr9, hz9⟩ := Q9 h9
    have h13 : On f 13 := he ⟨13, .data⟩ (by simp) rfl
    obtain ⟨a13, c13, e13, hr13, hz13⟩ := Q13 h13
    have h18 : On f 18 := he ⟨18, .data⟩ (by simp) rfl
    obtain ⟨a18, c18, e18, hr18, hz18⟩ := Q18 h18
    rw [e4, e9, e13, e18]
    have HQ := Lib.hid (And.intro P (And.intro Q4 (And.intro Q9 (And.intro Q13 (And.intro Q18 (And.intro Q19 (And.intro Q20 Q21)))))))
    clear P Q4 Q9 Q13 Q18 Q19 Q20 Q21
    go_simp
    obtain ⟨b, hbb⟩ : ∃ b, b = wm.heap.size := ⟨_, rfl⟩
    obtain ⟨w6, hw6⟩ : ∃ w6, w6 = wm.alloc (.cells ([.slice a4 l0 c4, .slice a9 l1 c9, .slice a13 l2 c13, .slice a18 l3 c18] : List Value).toArray 28) := ⟨_, rfl⟩
    have hb : Below wm.heap.size wm w6 := by rw [hw6]; exact (Below.refl _ _).alloc (Nat.le_refl _) _
    have hcb : Cel w6 b 28 [.slice a4 l0 c4, .slice a9 l1 c9, .slice a13 l2 c13, .slice a18 l3 c18] := by rw [hw6, hbb]; exact Cel.new wm _ _
    show KK ⟨#[_, _, _, _, _, _, _, _, _, _, _, _, _, _, _, _, _, _, _, _, _, _, _, _, _, _, _, _, _, _, _, .slice (some ⟨wm.heap.size, 0, none⟩) 4 4, _, _, _, _, _, _, _, _, _, _, _, _, _, _, _, _, _, _, _, _, _, _, _, _, _, _, _], []⟩ (wm.alloc (.cells ([.slice a4 l0 c4, .slice a9 l1 c9, .slice a13 l2 c13, .slice a18 l3 c18] : List Value).toArray 28))
    rw [← hbb, ← hw6]
    obtain ⟨P, Q4, Q9, Q13, Q18, Q19, Q20, Q21⟩ := HQ.out
    obtain ⟨bk, fw, fn⟩ := on3 (f := f) (i := 19) (by omega)
    exact hKK (upd (upd (upd (upd (upd gv 16 (.slice a4 l0 c4)) 21 (.slice a9 l1 c9)) 25 (.slice a13 l2 c13)) 30 (.slice a18 l3 c18)) 31 (.slice (some ⟨b, 0, none⟩) 4 4)) _ (by rw [upd_same e4]; rw [upd_same e9]; rw [upd_same e13]; rw [upd_same e18]; exact ⟨hBx.step hb, vals_step (n := 19) (v := .slice (some ⟨b, 0, none⟩) 4 4) hD (by decide) (by omega) P (fun h => nomatch (show true = false from h)), fun x => by obtain ⟨a4, c4, e9, hr4, hz4⟩ := Q4 (bk 4 (by decide) x); exact ⟨_, _, e9, hr4.below hb, hz4⟩, fun x => by obtain ⟨a9, c9, e9, hr9, hz9⟩ := Q9 (bk 9 (by decide) x); exact ⟨_, _, e9, hr9.below hb, hz9⟩, fun x => by obtain ⟨a13, c13, e9, hr13, hz13⟩ := Q13 (bk 13 (by decide) x); exact ⟨_, _, e9, hr13.below hb, hz13⟩, fun x => by obtain ⟨a18, c18, e9, hr18, hz18⟩ := Q18 (bk 18 (by decide) x); exact ⟨_, _, e9, hr18.below hb, hz18⟩, fun _ => ⟨b, rfl, Txs.four hcb ⟨hr4.below hb, hz4⟩ ⟨hr9.below hb, hz9⟩ ⟨hr13.below hb, hz13⟩ ⟨hr18.below hb, hz18⟩⟩, fun x => by obtain ⟨v20, e9, ho20⟩ := Q20 (bk 20 (by decide) x); exact ⟨_, e9, ownsRow_below ho20 hb⟩, fun x => by obtain ⟨v21, e9, h21, ho21⟩ := Q21 (bk 21 (by decide) x); exact ⟨_, e9, fw 20 h21, ownsRow_below ho21 hb⟩⟩)
   | 20, _ =>
    cases hio
    have off : ¬ On f 20 := on_off (by omega) hn
    have h19 : On f 19 := he ⟨19, .data⟩ (by simp) rfl
    obtain ⟨b, e19, htx⟩ := Q19 h19
    rw [e19]
    have HQ := Lib.hid (And.intro P (And.intro Q4 (And.intro Q9 (And.intro Q13 (And.intro Q18 (And.intro Q19 (And.intro Q20 Q21)))))))
    clear P Q4 Q9 Q13 Q18 Q19 Q20 Q21
    go_simp
    refine (HCO.out _ _ htx).mono ?_
    rintro e w6 ⟨v20, rfl, ho, hb⟩
    have ho20 := ownsRow_mono ho hBx.size
    obtain ⟨P, Q4, Q9, Q13, Q18, Q19, Q20, Q21⟩ := HQ.out
    obtain ⟨bk, fw, fn⟩ := on3 (f := f) (i := 20) (by omega)
    exact hKK (upd (upd gv 31 (.slice (some ⟨b, 0, none⟩) 4 4)) 32 (v20)) _ (by rw [upd_same e19]; exact ⟨hBx.step hb, vals_step (n := 20) (v := v20) hD (by decide) (by omega) P (fun h => nomatch (show true = false from h)), fun x => by obtain ⟨a4, c4, e9, hr4, hz4⟩ := Q4 (bk 4 (by decide) x); exact ⟨_, _, e9, hr4.below hb, hz4⟩, fun x => by obtain ⟨a9, c9, e9, hr9, hz9⟩ := Q9 (bk 9 (by decide) x); exact ⟨_, _, e9, hr9.below hb, hz9⟩, fun x => by obtain ⟨a13, c13, e9, hr13, hz13⟩ := Q13 (bk 13 (by decide) x); exact ⟨_, _, e9, hr13.below hb, hz13⟩, fun x => by obtain ⟨a18, c18, e9, hr18, hz18⟩ := Q18 (bk 18 (by decide) x); exact ⟨_, _, e9, hr18.below hb, hz18⟩, fun x => by obtain ⟨b, e9, htx⟩ := Q19 (bk 19 (by decide) x); exact ⟨_, e9, htx.below hb⟩, fun _ => ⟨v20, rfl, ho20⟩, fun x => by obtain ⟨v21, e9, h21, ho21⟩ := Q21 (bk 21 (by decide) x); exact ⟨_, e9, fw 20 h21, ownsRow_below ho21 hb⟩⟩)
   | 21, _ =>
    cases hio
    have off : ¬ On f 21 := on_off (by omega) hn
    have h20 : On f 20 := he ⟨20, .data⟩ (by simp) rfl
    obtain ⟨v20, e20, ho20⟩ := Q20 h20
    rw [e20]
    have HQ := Lib.hid (And.intro P (And.intro Q4 (And.intro Q9 (And.intro Q13 (And.intro Q18 (And.intro Q19 (And.intro Q20 Q21)))))))
    clear P Q4 Q9 Q13 Q18 Q19 Q20 Q21
    go_simp
    obtain ⟨P, Q4, Q9, Q13, Q18, Q19, Q20, Q21⟩ := HQ.out
    obtain ⟨bk, fw, fn⟩ := on3 (f := f) (i := 21) (by omega)
    exact hKK (upd (upd gv 32 (v20)) 4 (v20)) _ (by rw [upd_same e20]; exact ⟨hBx, vals_step (n := 21) (v := v20) hD (by decide) (by omega) P (fun h => nomatch (show true = false from h)), fun x => Q4 (bk 4 (by decide) x), fun x => Q9 (bk 9 (by decide) x), fun x => Q13 (bk 13 (by decide) x), fun x => Q18 (bk 18 (by decide) x), fun x => Q19 (bk 19 (by decide) x), fun x => Q20 (bk 20 (by decide) x), fun _ => ⟨v20, rfl, fw 20 h20, ho20⟩⟩)
  ·rintro f gv w5 hall hs' ⟨hBx, P, Q4, Q9, Q13, Q18, Q19, Q20, Q21⟩
   replace hs' : f.size = 22 := hs'
   have on : ∀ j, j < 22 → On f j := fun j hj => on_all hall hs' j hj
   obtain ⟨v, e4, _, ho⟩ := Q21 (on 21 (by decide))
   have HO := Lib.hid ho
   have HBX := Lib.hid (Lib.hid hBx)
   have HB3 := Lib.hid (HB2.out.step hBx)
   have HC3 := Lib.hid (HC2.out.step hBx)
   rw [e4]
   clear P Q4 Q9 Q13 Q18 Q19 Q20 Q21 hBx hall hs' on hD e4 ho HX0 HX1 HX2 HX3 HCO HFO
   have p0 : w5.cell? ⟨b1, 0, none⟩ = some (.int .i64 node) := HC3.out.at 0 _ rfl
   have p1 : w5.cell? ⟨b1, 1, none⟩ = some (.int .i64 (N1 : Int)) := HC3.out.at 1 _ rfl
   have p2 : w5.cell? ⟨b1, 2, none⟩ = some (.int .i64 (N2 : Int)) := HC3.out.at 2 _ rfl
   have p3 : w5.cell? ⟨b1, 3, none⟩ = some (.slice a n cap) := HC3.out.at 3 _ rfl
   have p4 : w5.cell? ⟨b1, 4, none⟩ = some (.int .i64 kind) := HC3.out.at 4 _ rfl
   have p5 : w5.cell? ⟨b1, 5, none⟩ = some (.string s1) := HC3.out.at 5 _ rfl
   have p6 : w5.cell? ⟨b1, 6, none⟩ = some (.string s2) := HC3.out.at 6 _ rfl
   have p7 : w5.cell? ⟨b1, 7, none⟩ = some (.int .i64 num) := HC3.out.at 7 _ rfl
   obtain ⟨fl, hfl⟩ : ∃ fl : Nat → List UInt8, fl = fun i => H ++ (c.par.take i).flatten := ⟨_, rfl⟩
   have hall : all32 c.par := HALL.out
   have HFL0 := Lib.hid (show fl 0 = H by rw [hfl]; simp)
   have HFLS := Lib.hid (show ∀ i, i < n → fl (i + 1) = fl i ++ c.par.getD i [] from fun i hi => by
    rw [hfl]
    simp only
    rw [List.take_add_one, List.getD_eq_getElem?_getD, List.getElem?_eq_getElem (by rw [← HN.out]; exact hi), List.flatten_append, List.append_assoc]
    simp)
   have HFLN := Lib.hid (show fl n = H ++ c.par.flatten by rw [hfl, HN.out]; simp only; rw [List.take_of_length_le (Nat.le_refl _)])
   have HFLL := Lib.hid (show ∀ i, i ≤ n → (fl i).length ≤ 40 + 32 * i from fun i hi => by
    rw [hfl]
    simp only
    rw [List.length_append, flat_len _ (fun x hx => hall x (List.mem_of_mem_take hx)), List.length_take]
    have := HHL.out
    omega)
   clear hfl hall
   go_wp2_with fail
   go_loopw [4, 36] (fun v4 v36 wr => ∃ i : Nat, i ≤ n ∧ v36 = .int .i64 (i : Int) ∧ Hid (wr.ownsRow w2.heap.size 5 1 v4 (fl i).length ((fl i).map B)) ∧ Hid (Below w5.heap.size w5 wr ∨ True) ∧ Hid (Below w2.heap.size w2 wr)) (fun _ v36 _ => n - (intOf v36).toNat)
   case atStart => exact ⟨0, Nat.zero_le _, rfl, Lib.hid (by rw [HFL0.out]; exact HO.out), Lib.hid (.inr trivial), HBX.out⟩
   case round =>
    obtain ⟨i, hi, rfl, hO, _, hB⟩ := hrel
    by_cases hin : i < n
    ·obtain ⟨b, fo, e1, f1⟩ := ((HI.out.below HB2.out).below hB.out).cells.resolve_left (by omega)
     obtain ⟨x, hx⟩ : ∃ x, x = c.par.getD i [] := ⟨_, rfl⟩
     have hx32 : x.length = 32 := by rw [hx]; exact HI.out.at32 i hin
     have hrg := f1 i hin
     rw [← hx] at hrg
     have HX := Lib.hid hx
     rw [e1]
     clear f1 hx
     have hii : (i : Int) < (n : Int) := by omega
     have hi0 : 0 ≤ (i : Int) := by omega
     go_upto_region 6 with fail
     iterate 3 go_step
     rename_i K38 hK38
     refine hK38 _ _ ?_
     clear hK38 K38
     refine wpList_load_mid rfl 48 (.tmp 38) rfl b (fo + i * 32) rfl (Bs x) _ hrg under_ids rfl (info_x hx32) ?_
     simp only [Act.put, List.setIfInBounds_toArray, List.set_cons_zero, List.set_cons_succ]
     refine wpList_new_store rfl rfl 48 6 (.tmp 39) rfl rfl rfl rfl (Bs zero32) (Bs x) (by kernel_rfl) (by simp) rfl (by rw [Bs_length, Bs_length, zero32_length, hx32]) (info_x hx32) (Bs_one x) ?_
     intro w6 hc6 hb6
     obtain ⟨b6, hbb⟩ : ∃ b, b = wr.heap.size := ⟨_, rfl⟩
     rw [← hbb] at hc6 ⊢
     have hrd6 := hc6.rd (by omega)
     rw [hx32] at hrd6
     obtain ⟨i0, hi0', hz0, hz1, hz2⟩ := info_parts info_u8
     have hfl := HFLL.out i hi
     obtain ⟨v', w7, hrun, hown, hg⟩ := run_app (P := Tryz.prog) (ty := 28) Tryz.underlying28 hi0' hz0 hz1 hz2 rfl (ownsRow_below hO.out hb6) hrd6 (fun h => by cases h) (by omega) (Nat.le_trans hB.out.size hb6.size)
     have HRUN := Lib.hid hrun
     have HO' := Lib.hid (show w7.ownsRow w2.heap.size 5 1 v' (fl (i + 1)).length ((fl (i + 1)).map B) by
      rw [HFLS.out i hin, ← HX.out, List.length_append, List.map_append, hx32]
      exact hown)
     have HB' := Lib.hid (below_own (hB.out.step hb6) (ownsRow_below hO.out hb6) hg (Nat.le_trans hB.out.size hb6.size))
     have hsl := fun b w' => slice_id b w'
     clear hrun hown hg hrd6 hc6 hb6 hbb hfl hi0' hz0 hz1 hz2 hrg e1
     go_wp2_with (at_builtin; refine Lib.wpList_append_run _ rfl _ _ _ _ rfl _ _ rfl rfl _ _ HRUN.out ?_)
     refine ⟨⟨i + 1, by omega, by go_num, HO', Lib.hid (.inr trivial), HB'⟩, ?_⟩
     simp [intOf]; omega
    ·obtain rfl : n = i := by omega
     have HE := hO.out
     rw [HFLN.out] at HE
     have HE2 := Lib.hid HE
     have HD := Lib.hid (HC2.out.step hB.out)
     have HB4 := Lib.hid (HB2.out.step hB.out)
     clear p0 p1 p2 p3 p4 p5 p6 p7 HE hO
     have p0 : wr.cell? ⟨b1, 0, none⟩ = some (.int .i64 node) := HD.out.at 0 _ rfl
     have p1 : wr.cell? ⟨b1, 1, none⟩ = some (.int .i64 (N1 : Int)) := HD.out.at 1 _ rfl
     have p2 : wr.cell? ⟨b1, 2, none⟩ = some (.int .i64 (N2 : Int)) := HD.out.at 2 _ rfl
     have p3 : wr.cell? ⟨b1, 3, none⟩ = some (.slice a n cap) := HD.out.at 3 _ rfl
     have p4 : wr.cell? ⟨b1, 4, none⟩ = some (.int .i64 kind) := HD.out.at 4 _ rfl
     have p5 : wr.cell? ⟨b1, 5, none⟩ = some (.string s1) := HD.out.at 5 _ rfl
     have p6 : wr.cell? ⟨b1, 6, none⟩ = some (.string s2) := HD.out.at 6 _ rfl
     have p7 : wr.cell? ⟨b1, 7, none⟩ = some (.int .i64 num) := HD.out.at 7 _ rfl
     rcases HNE.out with hm | ⟨hm, hob⟩
     ·have hm' : (node == -1) = true := by simpa using hm
      have HPC := Lib.hid (show putC c = H ++ c.par.flatten by unfold putC tailL; rw [if_pos (by rw [← HNODE.out, hm]), HHC.out, List.append_nil])
      clear hm
      obtain ⟨a4, c4, rfl, hr4⟩ := Rd.of_own HE2.out
      have hz4 := own_none HE2.out
      have HEND := Lib.hid (show CPutO c w (.returned (.tuple #[.slice a4 (H ++ c.par.flatten).length c4, .int .i64 0])) wr by
       unfold CPutO
       rw [if_pos HM.out.symm, HPC.out]
       exact ⟨_, rfl, ownsRow_mono HE2.out HB2.out.size, HB4.out⟩)
      obtain ⟨lz, hlz⟩ : ∃ l, l = (H ++ c.par.flatten).length := ⟨_, rfl⟩
      rw [← hlz] at HEND ⊢
      clear hr4 hz4 hlz
      go_wp2_with fail
      go_ret2
      exact HEND.out
     ·have hm' : (node == -1) = false := by simpa using hm
      have HPC := Lib.hid (show putC c = (H ++ c.par.flatten) ++ putO c.op by unfold putC tailL; rw [if_neg (by rw [← HNODE.out]; exact hm), HHC.out, List.append_assoc])
      have HL6 := Lib.hid (putO_len hob)
      have HPU2 := Lib.hid (show ∀ w', Calls Tryz.prog 52 #[.agg #[.int .i64 kind, .string s1, .string s2, .int .i64 num]] w' fun e w'' => ∃ a c', e = .returned (.tuple #[.slice a (putO c.op).length c', .int .i64 0]) ∧ Rd w'' a (putO c.op).length c' (putO c.op) ∧ (a = none → c' = 0) ∧ Below w'.heap.size w' w'' from fun w' => (HPU.out w').mono fun e w'' h => by
       unfold PutP at h
       rw [HOP.out, if_pos hob] at h
       exact h)
      have HFL := Lib.hid (HFLL.out n (Nat.le_refl _))
      obtain ⟨O, hO2⟩ : ∃ O, O = putO c.op := ⟨_, rfl⟩
      obtain ⟨lo, hlo⟩ : ∃ l, l = O.length := ⟨_, rfl⟩
      rw [← hO2] at HPC HL6 HPU2
      rw [← hlo] at HL6 HPU2
      have HLO := Lib.hid hlo
      clear hm hob HPU HOP hO2 hlo
      go_wp2_with fail
      refine (HPU2.out _).mono ?_
      rintro e w6 ⟨a6, c6, rfl, hr6, hz6, hb6⟩
      obtain ⟨i0, hi0', hz0, hz1, hz2⟩ := info_parts info_u8
      have hfl := HFL.out
      rw [HFLN.out] at hfl
      have hl6 := HL6.out
      obtain ⟨v', w7, hrun, hown, hg⟩ := run_app (P := Tryz.prog) (ty := 28) Tryz.underlying28 hi0' hz0 hz1 hz2 rfl (ownsRow_below HE2.out hb6) hr6 hz6 (by omega) (Nat.le_trans hB.out.size hb6.size)
      have HRUN := Lib.hid hrun
      have HB7 := Lib.hid (below_own (hB.out.step hb6) (ownsRow_below HE2.out hb6) hg (Nat.le_trans hB.out.size hb6.size))
      rw [← List.map_append] at hown
      obtain ⟨a7, c7, rfl, hr7⟩ := Rd.of_own hown
      have hz7 := own_none hown
      have HEND := Lib.hid (show CPutO c w (.returned (.tuple #[.slice a7 ((H ++ c.par.flatten).length + lo) c7, .int .i64 0])) w7 by
       unfold CPutO
       have hlen : (H ++ c.par.flatten ++ O).length = (H ++ c.par.flatten).length + lo := by rw [@List.length_append _ (H ++ c.par.flatten) O, ← HLO.out]
       rw [if_pos HM.out.symm, HPC.out, hlen]
       exact ⟨_, rfl, ownsRow_mono hown HB2.out.size, HB2.out.step HB7.out⟩)
      obtain ⟨lz, hlz⟩ : ∃ l, l = (H ++ c.par.flatten).length + lo := ⟨_, rfl⟩
      rw [← hlz] at HEND HRUN
      clear hr6 hz6 hb6 hi0' hz0 hz1 hz2 hfl hl6 hrun hown hg hr7 hz7 hlz p0 p1 p2 p3 p4 p5 p6 p7
      go_wp2_with (at_builtin; refine Lib.wpList_append_run _ rfl _ _ _ _ rfl _ _ rfl rfl _ _ HRUN.out ?_)
      go_ret2
      exact HEND.out
theorem cput_any (c : Cmt) (a : Option Addr) (cap : Nat) (w : World) (hr : CmR w c a cap) : Calls Tryz.prog 20 #[c.val a cap] w (CPutP c w) := by
 refine (cput_own c a cap w hr).mono fun e w' h => ?_
 unfold CPutO at h
 unfold CPutP
 by_cases hm : mayC c = true
 ·rw [if_pos hm] at h ⊢
  obtain ⟨v, rfl, ho, hb⟩ := h
  obtain ⟨a', c', rfl, hr'⟩ := Rd.of_own ho
  exact ⟨a', c', rfl, hr', own_none ho, hb⟩
 ·rw [if_neg hm] at h ⊢
  exact h
end Go.Proofs.YtofadpodlaakbaaGreat
