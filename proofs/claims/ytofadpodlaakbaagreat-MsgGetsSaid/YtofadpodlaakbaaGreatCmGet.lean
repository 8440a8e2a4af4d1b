/- The walk of Get, of the layer commit. -/
import Derived.Test.YtofadpodlaakbaaGreatCmCatch
import Derived.Test.YtofadpodlaakbaaGreatJ1
namespace Go.Proofs.YtofadpodlaakbaaGreat
open Go.ChangeShapes Go.WideShapes Go.ChangeAt Go.RowKit
set_option linter.unusedVariables false
set_option linter.unusedSimpArgs false
def CGetF (l : List UInt8) (w : World) (e : Ending) (w' : World) : Prop :=
 match getC l with
 | none => e = .returned (.tuple #[.agg zeroC.toArray, .slice none 0 0, .int .i64 2]) ∧ Below w.heap.size w w'
 | some (c, r) => ∃ a cap a' cap', e = .returned (.tuple #[c.val a cap, .slice a' r.length cap', .int .i64 0]) ∧ CmR w' c a cap ∧ Rd w' a' r.length cap' r ∧ (a' = none → cap' = 0) ∧ Below w.heap.size w w' ∧ ∀ x, a = some x → w.heap.size ≤ x.block
theorem Ids.only {w w' : World} {a : Option Addr} {n c b : Nat} {l : List (List UInt8)} (h : Ids w a n c l) (ho : Only w w' b) (hne : ∀ x, a = some x → x.block ≠ b) : Ids w' a n c l := by
 refine ⟨h.len, h.le, h.cap, h.non, h.is32, ?_⟩
 rcases h.cells with h0 | ⟨b', off, rfl, hc⟩
 ·exact .inl h0
 ·refine .inr ⟨b', off, rfl, fun i hi j v hj => ?_⟩
  have h2 := hc i hi j v hj
  unfold World.cell? at h2 ⊢
  rw [ho.block b' (hne ⟨b', off, none⟩ rfl)]
  exact h2
set_option maxRecDepth 100000 in
set_option maxHeartbeats 4000000 in
theorem cget_fresh (a : Option Addr) (n c : Nat) (l : List UInt8) (w : World) (hr : Rd w a n c l) (hz : a = none → c = 0) (hn : n ≤ 100000) : Calls Tryz.prog 88 #[.slice a n c] w (CGetF l w) := by
 have hln := hr.len
 have HR := Lib.hid (And.intro hr hz)
 have HLT := Lib.hid (show ∀ x, a = some x → 0 < n → x.block < w.heap.size from fun x hx hp => by
  rcases hr.cells with h0 | ⟨b, off, e, hlt, _⟩
  ·omega
  ·rw [e] at hx; injection hx with hx; rw [← hx]; exact hlt)
 have HLN := Lib.hid hln
 have hn63 : n ≤ 9223372036854775807 := by omega
 have hmf : ∀ (fn : Fn) (first cap : Array Value) (w : World), (Instr.makeFunc fn first cap).run Tryz.prog w = .ok (.func fn first cap) w := fun _ _ _ _ => rfl
 clear hr hz hln
 go_enter_defers Tryz.func88, Tryz.ntmps88
 go_upto_region 3 with fail
 obtain ⟨w1, hw1⟩ : ∃ w1, w1 = w.alloc (.cells (zeroC : List Value).toArray 41) := ⟨_, rfl⟩
 obtain ⟨w2, hw2⟩ : ∃ w2, w2 = w1.alloc (.cells ([.slice none 0 0] : List Value).toArray 28) := ⟨_, rfl⟩
 obtain ⟨w3, hw3⟩ : ∃ w3, w3 = w2.alloc (.cells ([.int .i64 0] : List Value).toArray 29) := ⟨_, rfl⟩
 obtain ⟨w4, hw4⟩ : ∃ w4, w4 = w3.alloc (.cells ([.slice a n c] : List Value).toArray 134) := ⟨_, rfl⟩
 have s1 : w1.heap.size = w.heap.size + 1 := by rw [hw1]; exact size_alloc' _ _
 have s2 : w2.heap.size = w.heap.size + 1 + 1 := by rw [hw2, size_alloc', s1]
 have s3 : w3.heap.size = w.heap.size + 1 + 1 + 1 := by rw [hw3, size_alloc', s2]
 have b01 : Below w.heap.size w w1 := by rw [hw1]; exact (Below.refl _ _).alloc (Nat.le_refl _) _
 have b12 : Below w1.heap.size w1 w2 := by rw [hw2]; exact (Below.refl _ _).alloc (Nat.le_refl _) _
 have b23 : Below w2.heap.size w2 w3 := by rw [hw3]; exact (Below.refl _ _).alloc (Nat.le_refl _) _
 have b34 : Below w3.heap.size w3 w4 := by rw [hw4]; exact (Below.refl _ _).alloc (Nat.le_refl _) _
 have c1 : Cel w1 w.heap.size 41 zeroC := by rw [hw1]; exact Cel.new w _ _
 have c2 : Cel w2 (w.heap.size + 1) 28 [.slice none 0 0] := by rw [hw2, ← s1]; exact Cel.new w1 _ _
 have c3 : Cel w3 (w.heap.size + 1 + 1) 29 [.int .i64 0] := by rw [hw3, ← s2]; exact Cel.new w2 _ _
 have c4 : Cel w4 (w.heap.size + 1 + 1 + 1) 134 [.slice a n c] := by rw [hw4, ← s3]; exact Cel.new w3 _ _
 generalize hwg : World.alloc (World.alloc (World.alloc (World.alloc w _) _) _) _ = wG
 obtain rfl : w4 = wG := by rw [← hwg, hw4, hw3, hw2, hw1]; rfl
 obtain ⟨bc, hbc⟩ : ∃ b, b = w.heap.size := ⟨_, rfl⟩
 obtain ⟨b3, hb3⟩ : ∃ b, b = w.heap.size + 1 := ⟨_, rfl⟩
 obtain ⟨be, hbe⟩ : ∃ b, b = w.heap.size + 1 + 1 := ⟨_, rfl⟩
 obtain ⟨br, hbr⟩ : ∃ b, b = w.heap.size + 1 + 1 + 1 := ⟨_, rfl⟩
 rw [← hbr] at c4 ⊢
 rw [← hbe] at c3 ⊢
 rw [← hb3] at c2 ⊢
 rw [← hbc] at c1 ⊢
 have HC4 := Lib.hid (((c1.step b12).step b23).step b34)
 have H34 := Lib.hid ((c2.step b23).step b34)
 have HE4 := Lib.hid (c3.step b34)
 have HR4 := Lib.hid c4
 have HB4 := Lib.hid (((b01.step b12).step b23).step b34)
 have HRD := Lib.hid (show RdR (fun _ => True) w4 br 134 [] l from ⟨a, c, by rw [HLN.out]; exact c4, by rw [HLN.out]; exact HR.out.1.below HB4.out, HR.out.2, fun x hx hp => ⟨by have hl0 := HLN.out; have := HLT.out x hx (by omega); omega, trivial⟩⟩)
 have HX := Lib.hid (show bc = w.heap.size ∧ b3 = bc + 1 ∧ be = bc + 2 ∧ br = bc + 3 ∧ w4.heap.size = bc + 4 from ⟨hbc, by omega, by omega, by omega, by rw [hw4, size_alloc', s3]; omega⟩)
 clear hwg hw1 hw2 hw3 hw4 s1 s2 s3 b01 b12 b23 b34 c1 c2 c3 c4 hbc hb3 hbe hbr hmf
 have HREAD := Lib.hid (rread_any (fun _ => True) br l w4 HRD.out (by rw [HLN.out]; exact hn))
 unfold RReadP at HREAD
 cases hg : getC l with
 | none =>
  have HFN := Lib.hid (show ∀ w', Below w.heap.size w w' → CGetF l w (.returned (.tuple #[.agg zeroC.toArray, .slice none 0 0, .int .i64 2])) w' from fun w' h => by unfold CGetF; rw [hg]; exact ⟨rfl, h⟩)
  simp only [hg] at HREAD
  clear hg
  go_wp2_with fail
  refine HREAD.out.mono ?_
  rintro e w5 ⟨rfl, hp⟩
  have hx := HX.out
  have HC5 := Lib.hid (show Cel w5 bc 41 zeroC from hp.heap HC4.out (by omega))
  have H35 := Lib.hid (show Cel w5 b3 28 [.slice none 0 0] from hp.heap H34.out (by omega))
  have HE5 := Lib.hid (show Cel w5 be 29 [.int .i64 0] from hp.heap HE4.out (by omega))
  have HB5 := Lib.hid (hp.below HB4.out (by omega))
  clear hp hx
  unfold wrongC
  go_wp2_with fail
  refine leaves_cons (f := 112) (args := #[.pointer (some ⟨bc, 0, none⟩), .pointer (some ⟨b3, 0, none⟩), .pointer (some ⟨be, 0, none⟩)]) (by simp) (by simp [go_sem]) ?_
  refine (catch_wrong bc b3 be _ _ _ [] w5 HC5.out rfl H35.out HE5.out).mono ?_
  rintro e u' w6 ⟨rfl, rfl, k1, k2, k3, k4⟩
  have hB6 := k4 w.heap.size w HB5.out (by have := HX.out; omega) (by have := HX.out; omega) (by have := HX.out; omega)
  have p0 : w6.cell? ⟨bc, 0, none⟩ = some (.int .i64 0) := k1.at 0 _ rfl
  have p1 : w6.cell? ⟨bc, 1, none⟩ = some (.int .i64 0) := k1.at 1 _ rfl
  have p2 : w6.cell? ⟨bc, 2, none⟩ = some (.int .i64 0) := k1.at 2 _ rfl
  have p3 : w6.cell? ⟨bc, 3, none⟩ = some (.slice none 0 0) := k1.at 3 _ rfl
  have p4 : w6.cell? ⟨bc, 4, none⟩ = some (.int .i64 0) := k1.at 4 _ rfl
  have p5 : w6.cell? ⟨bc, 5, none⟩ = some (.string ⟨#[]⟩) := k1.at 5 _ rfl
  have p6 : w6.cell? ⟨bc, 6, none⟩ = some (.string ⟨#[]⟩) := k1.at 6 _ rfl
  have p7 : w6.cell? ⟨bc, 7, none⟩ = some (.int .i64 0) := k1.at 7 _ rfl
  have q1 : w6.cell? ⟨b3, 0, none⟩ = some (.slice none 0 0) := k2.at 0 _ rfl
  have q2 : w6.cell? ⟨be, 0, none⟩ = some (.int .i64 2) := k3.at 0 _ rfl
  have HEND := HFN.out w6 hB6
  simp [Leaves, settle, results, Tryz.results88, go_sem, asAddr, p0, p1, p2, p3, p4, p5, p6, p7, q1, q2]
  exact HEND
 | some p =>
  obtain ⟨cc, r⟩ := p
  simp only [hg] at HREAD
  have hrl : r.length ≤ 100000 := by
   obtain ⟨_, h, _⟩ := getC_got hg
   have := congrArg List.length h
   rw [List.length_append] at this
   have := HLN.out
   omega
  have HG := Lib.hid hg
  clear hg
  obtain ⟨np, hnp⟩ : ∃ n, n = cc.par.length := ⟨_, rfl⟩
  unfold Cmt.val Cmt.cs at HREAD
  obtain ⟨node, hnode⟩ : ∃ x, x = cc.node := ⟨_, rfl⟩
  obtain ⟨seq, hseq⟩ : ∃ x, x = cc.seq := ⟨_, rfl⟩
  obtain ⟨gen, hgen⟩ : ∃ x, x = cc.gen := ⟨_, rfl⟩
  obtain ⟨kind, hkind⟩ : ∃ x, x = cc.op.kind := ⟨_, rfl⟩
  obtain ⟨num, hnum⟩ : ∃ x, x = cc.op.num := ⟨_, rfl⟩
  obtain ⟨s1, hs1⟩ : ∃ s : ByteArray, s = ⟨cc.op.key.toArray⟩ := ⟨_, rfl⟩
  obtain ⟨s2, hs2⟩ : ∃ s : ByteArray, s = ⟨cc.op.elem.toArray⟩ := ⟨_, rfl⟩
  rw [← hnp, ← hnode, ← hseq, ← hgen, ← hkind, ← hnum, ← hs1, ← hs2] at HREAD
  have HVAL := Lib.hid (show ∀ av cv, cc.val av cv = .agg #[.int .i64 node, .int .i64 seq, .int .i64 gen, .slice av np cv, .int .i64 kind, .string s1, .string s2, .int .i64 num] from fun av cv => by unfold Cmt.val Cmt.cs; rw [hnp, hnode, hseq, hgen, hkind, hnum, hs1, hs2])
  clear hnp hnode hseq hgen hkind hnum hs1 hs2
  go_wp2_with fail
  refine HREAD.out.mono ?_
  rintro e w5 ⟨av, cv, rfl, hcm, hrd, hp, hfr⟩
  have hx := HX.out
  have HC5 := Lib.hid (show Cel w5 bc 41 zeroC from hp.heap HC4.out (by omega))
  have H35 := Lib.hid (show Cel w5 b3 28 [.slice none 0 0] from hp.heap H34.out (by omega))
  have HE5 := Lib.hid (show Cel w5 be 29 [.int .i64 0] from hp.heap HE4.out (by omega))
  have HB5 := Lib.hid (hp.below HB4.out (by omega))
  have HCM5 := Lib.hid hcm
  have HRD5 := Lib.hid hrd
  have HFR := Lib.hid hfr
  have HS5 := Lib.hid (show w4.heap.size ≤ w5.heap.size from hp.size)
  clear hp hx hcm hrd hfr HREAD
  have p0 : w5.cell? ⟨bc, 0, none⟩ = some (.int .i64 0) := HC5.out.at 0 _ rfl
  have f0 : w5.frozen? ⟨bc, 0, none⟩ = false := HC5.out.free 0
  have p1 : w5.cell? ⟨bc, 1, none⟩ = some (.int .i64 0) := HC5.out.at 1 _ rfl
  have f1 : w5.frozen? ⟨bc, 1, none⟩ = false := HC5.out.free 1
  have p2 : w5.cell? ⟨bc, 2, none⟩ = some (.int .i64 0) := HC5.out.at 2 _ rfl
  have f2 : w5.frozen? ⟨bc, 2, none⟩ = false := HC5.out.free 2
  have p3 : w5.cell? ⟨bc, 3, none⟩ = some (.slice none 0 0) := HC5.out.at 3 _ rfl
  have f3 : w5.frozen? ⟨bc, 3, none⟩ = false := HC5.out.free 3
  have p4 : w5.cell? ⟨bc, 4, none⟩ = some (.int .i64 0) := HC5.out.at 4 _ rfl
  have f4 : w5.frozen? ⟨bc, 4, none⟩ = false := HC5.out.free 4
  have p5 : w5.cell? ⟨bc, 5, none⟩ = some (.string ⟨#[]⟩) := HC5.out.at 5 _ rfl
  have f5 : w5.frozen? ⟨bc, 5, none⟩ = false := HC5.out.free 5
  have p6 : w5.cell? ⟨bc, 6, none⟩ = some (.string ⟨#[]⟩) := HC5.out.at 6 _ rfl
  have f6 : w5.frozen? ⟨bc, 6, none⟩ = false := HC5.out.free 6
  have p7 : w5.cell? ⟨bc, 7, none⟩ = some (.int .i64 0) := HC5.out.at 7 _ rfl
  have f7 : w5.frozen? ⟨bc, 7, none⟩ = false := HC5.out.free 7
  go_upto_region 4 with fail
  generalize hw6 : World.setCell (World.setCell (World.setCell (World.setCell (World.setCell (World.setCell (World.setCell (World.setCell w5 _ _) _ _) _ _) _ _) _ _) _ _) _ _) _ _ = w6
  have ho6 : Only w5 w6 bc := by rw [← hw6]; exact (((((((only_set _ _ _ _).trans (only_set _ _ _ _)).trans (only_set _ _ _ _)).trans (only_set _ _ _ _)).trans (only_set _ _ _ _)).trans (only_set _ _ _ _)).trans (only_set _ _ _ _)).trans (only_set _ _ _ _)
  have HC6 := Lib.hid (show Cel w6 bc 41 [.int .i64 node, .int .i64 seq, .int .i64 gen, .slice av np cv, .int .i64 kind, .string s1, .string s2, .int .i64 num] by rw [← hw6]; exact (((((((HC5.out.set 0 _).set 1 _).set 2 _).set 3 _).set 4 _).set 5 _).set 6 _).set 7 _)
  have hx := HX.out
  have H36 := Lib.hid (show Cel w6 b3 28 [.slice none 0 0] from ho6.heap H35.out (by omega))
  have HE6 := Lib.hid (show Cel w6 be 29 [.int .i64 0] from ho6.heap HE5.out (by omega))
  have HB6 := Lib.hid (ho6.below HB5.out (by omega))
  have HI6 := Lib.hid (HCM5.out.ids.only ho6 (fun x hx2 => by have := HFR.out x hx2; omega))
  obtain ⟨a7, c7, k1, k2, k3, k4⟩ := HRD5.out
  obtain ⟨nr, hnr⟩ : ∃ n, n = r.length := ⟨_, rfl⟩
  rw [← hnr] at k1 k2 hrl
  have HR6 := Lib.hid (show Cel w6 br 134 [.slice a7 nr c7] from ho6.heap k1 (by omega))
  have HRR6 := Lib.hid (show Rd w6 a7 nr c7 r from k2.only' ho6 (k2.apart HC5.out (by intro v hv z; simp only [zeroC, List.mem_cons, List.not_mem_nil, or_false] at hv; rcases hv with rfl | rfl | rfl | rfl | rfl | rfl | rfl | rfl <;> exact fun h => nomatch h)))
  have HK3 := Lib.hid k3
  have HNR := Lib.hid hnr
  have HS6 := Lib.hid (show w4.heap.size ≤ w6.heap.size by rw [ho6.size]; exact HS5.out)
  clear hw6 ho6 hx k1 k2 k3 k4 hnr p0 p1 p2 p3 p4 p5 p6 p7 f0 f1 f2 f3 f4 f5 f6 f7
  have hD : ∀ j, j < 9 → ∀ n, n < 9 → j ≠ n → dkN [12, 13, 14, 15, 16, 17, 1006, 1007, 1008] j ≠ dkN [12, 13, 14, 15, 16, 17, 1006, 1007, 1008] n := by decide +kernel
  refine region_funD ([{ target := Target.fn (Fn.func 112) #[.pointer (some ⟨bc, 0, none⟩), .pointer (some ⟨b3, 0, none⟩), .pointer (some ⟨be, 0, none⟩)], args := #[] }]) (by kernel_rfl) (by kernel_rfl) (fun gv => #[.slice a n c, gv 1, .pointer (some ⟨bc, 0, none⟩), .pointer (some ⟨b3, 0, none⟩), .pointer (some ⟨be, 0, none⟩), .pointer (some ⟨br, 0, none⟩), gv 6, gv 7, gv 8, gv 9, gv 10, gv 11, gv 12, gv 13, gv 14, gv 15, gv 16, gv 17]) rfl (fun f gv wx => Below w.heap.size w wx ∧ (∀ j, j < 9 → (fun j => Nat.beq j 5 || Nat.beq j 6 || Nat.beq j 7 || Nat.beq j 8) j = false → On f j → gv (dkN [12, 13, 14, 15, 16, 17, 1006, 1007, 1008] j) = vkN [.agg #[.int .i64 node, .int .i64 seq, .int .i64 gen, .slice av np cv, .int .i64 kind, .string s1, .string s2, .int .i64 num], .pointer (some ⟨br, 0, none⟩), .pointer (some ⟨br, 0, none⟩), .pointer (some ⟨br, 0, none⟩), .slice a7 nr c7, undef, undef, undef, undef] j) ∧ ((On f 5 → ∃ a c, gv 17 = .slice a nr c ∧ Rd wx a nr c r ∧ (a = none → c = 0) ∧ ∀ x, a = some x → bc + 4 ≤ x.block)) ∧ (Cel wx bc 41 [.int .i64 node, .int .i64 seq, .int .i64 gen, .slice av np cv, .int .i64 kind, .string s1, .string s2, .int .i64 num]) ∧ ((¬ On f 7 → Cel wx b3 28 [.slice none 0 0]) ∧ (On f 7 → ∃ a c, Cel wx b3 28 [.slice a nr c] ∧ Rd wx a nr c r ∧ (a = none → c = 0) ∧ ∀ x, a = some x → bc + 4 ≤ x.block)) ∧ (Cel wx be 29 [.int .i64 0]) ∧ (Cel wx br 134 [.slice a7 nr c7]) ∧ (Ids wx av cc.par.length cv cc.par) ∧ (Rd wx a7 nr c7 r) ∧ (bc + 4 ≤ wx.heap.size)) ?_ ?_ ?_
  ·have hoff : ∀ j, ¬ On (Array.replicate 9 false) j := by
    intro j hj; simp only [On, Array.getD_eq_getD_getElem?, Array.getElem?_replicate] at hj; split at hj <;> simp at hj
   exact ⟨HB6.out.drew, fun j _ _ x => absurd x (hoff _), fun x => absurd x (hoff _), HC6.out, ⟨fun _ => H36.out, fun x => absurd x (hoff _)⟩, HE6.out, HR6.out, HI6.out.below (Below.refl _ _).drew, HRR6.out.below (Below.refl _ _).drew, (by have := HS6.out; have := HX.out; show bc + 4 ≤ w6.heap.size; omega)⟩
  ·rintro i' o' f gv wm hio hs' hn he ⟨hBx, P, Q5, QA, QB, QE, QR, QI, QM, SZ⟩ KK hKK
   have hi' : i' < 9 := (Array.getElem?_eq_some_iff.1 hio).1
   replace hs' : f.size = 9 := hs'
   match i', hi' with
   | 0, _ =>
    cases hio
    have off : ¬ On f 0 := on_off (by omega) hn
    have d0 : wm.cell? ⟨bc, 0, none⟩ = some (.int .i64 node) := QA.at 0 _ rfl
    have d1 : wm.cell? ⟨bc, 1, none⟩ = some (.int .i64 seq) := QA.at 1 _ rfl
    have d2 : wm.cell? ⟨bc, 2, none⟩ = some (.int .i64 gen) := QA.at 2 _ rfl
    have d3 : wm.cell? ⟨bc, 3, none⟩ = some (.slice av np cv) := QA.at 3 _ rfl
    have d4 : wm.cell? ⟨bc, 4, none⟩ = some (.int .i64 kind) := QA.at 4 _ rfl
    have d5 : wm.cell? ⟨bc, 5, none⟩ = some (.string s1) := QA.at 5 _ rfl
    have d6 : wm.cell? ⟨bc, 6, none⟩ = some (.string s2) := QA.at 6 _ rfl
    have d7 : wm.cell? ⟨bc, 7, none⟩ = some (.int .i64 num) := QA.at 7 _ rfl
    have HQ := Lib.hid (And.intro P (And.intro Q5 (And.intro QA (And.intro QB (And.intro QE (And.intro QR (And.intro QI (And.intro QM SZ))))))))
    clear P Q5 QA QB QE QR QI QM SZ
    go_simp
    obtain ⟨P, Q5, QA, QB, QE, QR, QI, QM, SZ⟩ := HQ.out
    obtain ⟨bk, fw, fn⟩ := on3 (f := f) (i := 0) (by omega)
    exact hKK (upd gv 12 (.agg #[.int .i64 node, .int .i64 seq, .int .i64 gen, .slice av np cv, .int .i64 kind, .string s1, .string s2, .int .i64 num])) _ (by exact ⟨hBx, vals_step (n := 0) (v := .agg #[.int .i64 node, .int .i64 seq, .int .i64 gen, .slice av np cv, .int .i64 kind, .string s1, .string s2, .int .i64 num]) hD (by decide) (by omega) P (fun _ => rfl), fun x => Q5 (bk 5 (by decide) x), QA, ⟨fun x => QB.1 (fun y => x (fw 7 y)), fun x => QB.2 (bk 7 (by decide) x)⟩, QE, QR, QI, QM, SZ⟩)
   | 1, _ =>
    cases hio
    have off : ¬ On f 1 := on_off (by omega) hn
    have HQ := Lib.hid (And.intro P (And.intro Q5 (And.intro QA (And.intro QB (And.intro QE (And.intro QR (And.intro QI (And.intro QM SZ))))))))
    clear P Q5 QA QB QE QR QI QM SZ
    go_simp
    obtain ⟨P, Q5, QA, QB, QE, QR, QI, QM, SZ⟩ := HQ.out
    obtain ⟨bk, fw, fn⟩ := on3 (f := f) (i := 1) (by omega)
    exact hKK (upd gv 13 (.pointer (some ⟨br, 0, none⟩))) _ (by exact ⟨hBx, vals_step (n := 1) (v := .pointer (some ⟨br, 0, none⟩)) hD (by decide) (by omega) P (fun _ => rfl), fun x => Q5 (bk 5 (by decide) x), QA, ⟨fun x => QB.1 (fun y => x (fw 7 y)), fun x => QB.2 (bk 7 (by decide) x)⟩, QE, QR, QI, QM, SZ⟩)
   | 2, _ =>
    cases hio
    have off : ¬ On f 2 := on_off (by omega) hn
    have h1 : On f 1 := he ⟨1, .data⟩ (by simp) rfl
    have e1 : gv 13 = .pointer (some ⟨br, 0, none⟩) := P 1 (by decide) rfl h1
    rw [e1]
    have HQ := Lib.hid (And.intro P (And.intro Q5 (And.intro QA (And.intro QB (And.intro QE (And.intro QR (And.intro QI (And.intro QM SZ))))))))
    clear P Q5 QA QB QE QR QI QM SZ
    go_simp
    obtain ⟨P, Q5, QA, QB, QE, QR, QI, QM, SZ⟩ := HQ.out
    obtain ⟨bk, fw, fn⟩ := on3 (f := f) (i := 2) (by omega)
    exact hKK (upd (upd gv 13 (.pointer (some ⟨br, 0, none⟩))) 14 (.pointer (some ⟨br, 0, none⟩))) _ (by rw [upd_same e1]; exact ⟨hBx, vals_step (n := 2) (v := .pointer (some ⟨br, 0, none⟩)) hD (by decide) (by omega) P (fun _ => rfl), fun x => Q5 (bk 5 (by decide) x), QA, ⟨fun x => QB.1 (fun y => x (fw 7 y)), fun x => QB.2 (bk 7 (by decide) x)⟩, QE, QR, QI, QM, SZ⟩)
   | 3, _ =>
    cases hio
    have off : ¬ On f 3 := on_off (by omega) hn
    have h2 : On f 2 := he ⟨2, .data⟩ (by simp) rfl
    have e2 : gv 14 = .pointer (some ⟨br, 0, none⟩) := P 2 (by decide) rfl h2
    rw [e2]
    have HQ := Lib.hid (And.intro P (And.intro Q5 (And.intro QA (And.intro QB (And.intro QE (And.intro QR (And.intro QI (And.intro QM SZ))))))))
    clear P Q5 QA QB QE QR QI QM SZ
    go_simp
    obtain ⟨P, Q5, QA, QB, QE, QR, QI, QM, SZ⟩ := HQ.out
    obtain ⟨bk, fw, fn⟩ := on3 (f := f) (i := 3) (by omega)
    exact hKK (upd (upd gv 14 (.pointer (some ⟨br, 0, none⟩))) 15 (.pointer (some ⟨br, 0, none⟩))) _ (by rw [upd_same e2]; exact ⟨hBx, vals_step (n := 3) (v := .pointer (some ⟨br, 0, none⟩)) hD (by decide) (by omega) P (fun _ => rfl), fun x => Q5 (bk 5 (by decide) x), QA, ⟨fun x => QB.1 (fun y => x (fw 7 y)), fun x => QB.2 (bk 7 (by decide) x)⟩, QE, QR, QI, QM, SZ⟩)
   | 4, _ =>
    cases hio
    have off : ¬ On f 4 := on_off (by omega) hn
    have h3 : On f 3 := he ⟨3, .data⟩ (by simp) rfl
    have e3 : gv 15 = .pointer (some ⟨br, 0, none⟩) := P 3 (by decide) rfl h3
    have d0 : wm.cell? ⟨br, 0, none⟩ = some (.slice a7 nr c7) := QR.at 0 _ rfl
    rw [e3]
    have HQ := Lib.hid (And.intro P (And.intro Q5 (And.intro QA (And.intro QB (And.intro QE (And.intro QR (And.intro QI (And.intro QM SZ))))))))
    clear P Q5 QA QB QE QR QI QM SZ
    go_simp
    obtain ⟨P, Q5, QA, QB, QE, QR, QI, QM, SZ⟩ := HQ.out
    obtain ⟨bk, fw, fn⟩ := on3 (f := f) (i := 4) (by omega)
    exact hKK (upd (upd gv 15 (.pointer (some ⟨br, 0, none⟩))) 16 (.slice a7 nr c7)) _ (by rw [upd_same e3]; exact ⟨hBx, vals_step (n := 4) (v := .slice a7 nr c7) hD (by decide) (by omega) P (fun _ => rfl), fun x => Q5 (bk 5 (by decide) x), QA, ⟨fun x => QB.1 (fun y => x (fw 7 y)), fun x => QB.2 (bk 7 (by decide) x)⟩, QE, QR, QI, QM, SZ⟩)
   | 5, _ =>
    cases hio
    have off : ¬ On f 5 := on_off (by omega) hn
    have h4 : On f 4 := he ⟨4, .data⟩ (by simp) rfl
    have e4 : gv 16 = .slice a7 nr c7 := P 4 (by decide) rfl h4
    have hrm := QM
    have SZs := SZ
    rw [e4]
    have HQ := Lib.hid (And.intro P (And.intro Q5 (And.intro QA (And.intro QB (And.intro QE (And.intro QR (And.intro QI (And.intro QM SZ))))))))
    clear P Q5 QA QB QE QR QI QM SZ
    go_simp
    refine (clone_any a7 nr c7 r wm hrm HK3.out (by omega)).mono ?_
    rintro e w6 ⟨v8, rfl, ho8, hb⟩
    have hz8 := fun a n c (h : v8 = .slice a n c) => own_none (h ▸ ho8)
    have hlo8 := fun k hk => (ho8.lt k hk).1
    obtain ⟨a8, c8, rfl, hr8⟩ := Rd.of_own ho8
    rw [← HNR.out] at hr8 ⊢
    have hz8 := hz8 a8 _ c8 rfl
    have hf8 : ∀ x, a8 = some x → bc + 4 ≤ x.block := fun x hx => by
     have h1 := hlo8 x.block (by rw [hx]; rfl)
     have h2 := SZs
     omega
    obtain ⟨P, Q5, QA, QB, QE, QR, QI, QM, SZ⟩ := HQ.out
    obtain ⟨bk, fw, fn⟩ := on3 (f := f) (i := 5) (by omega)
    exact hKK (upd (upd gv 16 (.slice a7 nr c7)) 17 (.slice a8 nr c8)) _ (by rw [upd_same e4]; exact ⟨hBx.step hb, vals_step (n := 5) (v := .slice a8 nr c8) hD (by decide) (by omega) P (fun h => nomatch (show true = false from h)), fun _ => ⟨a8, c8, rfl, hr8, hz8, hf8⟩, QA.step hb, ⟨fun x => (QB.1 (fun y => x (fw 7 y))).step hb, fun x => by obtain ⟨a, c, g1, g2, g3, g4⟩ := QB.2 (bk 7 (by decide) x); exact ⟨a, c, g1.step hb, g2.below hb, g3, g4⟩⟩, QE.step hb, QR.step hb, QI.below hb, QM.below hb, Nat.le_trans SZ hb.size⟩)
   | 6, _ =>
    cases hio
    have off : ¬ On f 6 := on_off (by omega) hn
    have h0 : On f 0 := he ⟨0, .data⟩ (by simp) rfl
    have e0 : gv 12 = .agg #[.int .i64 node, .int .i64 seq, .int .i64 gen, .slice av np cv, .int .i64 kind, .string s1, .string s2, .int .i64 num] := P 0 (by decide) rfl h0
    have hq := QA
    have hap := QM.apart QA (by intro v hv z; simp only [List.mem_cons, List.not_mem_nil, or_false] at hv; rcases hv with rfl | rfl | rfl | rfl | rfl | rfl | rfl | rfl <;> exact fun h => nomatch h)
    rw [e0]
    have HQ := Lib.hid (And.intro P (And.intro Q5 (And.intro QA (And.intro QB (And.intro QE (And.intro QR (And.intro QI (And.intro QM SZ))))))))
    clear P Q5 QA QB QE QR QI QM SZ
    refine cel_store (by rfl) rfl 41 (.tmp 2) (.tmp 12) rfl (by rfl) [.int .i64 node, .int .i64 seq, .int .i64 gen, .slice av np cv, .int .i64 kind, .string s1, .string s2, .int .i64 num] (by rfl) hq rfl info_cm (by intro v hv; simp only [List.mem_cons, List.not_mem_nil, or_false] at hv; rcases hv with rfl | rfl | rfl | rfl | rfl | rfl | rfl | rfl <;> rfl) ?_
    intro w6 hc6 ho6
    have hxx := HX.out
    obtain ⟨P, Q5, QA, QB, QE, QR, QI, QM, SZ⟩ := HQ.out
    obtain ⟨bk, fw, fn⟩ := on3 (f := f) (i := 6) (by omega)
    exact hKK (upd gv 12 (.agg #[.int .i64 node, .int .i64 seq, .int .i64 gen, .slice av np cv, .int .i64 kind, .string s1, .string s2, .int .i64 num])) _ (by rw [upd_same e0]; exact ⟨ho6.below hBx (by omega), vals_keep (n := 6) (by omega) rfl P, fun x => by obtain ⟨a8, c8, e9, g2, g3, g4⟩ := Q5 (bk 5 (by decide) x); exact ⟨_, _, e9, g2.only' ho6 (fun y hy _ => by have := g4 y hy; omega), g3, g4⟩, hc6, ⟨fun x => ho6.heap (QB.1 (fun y => x (fw 7 y))) (by omega), fun x => by obtain ⟨a, c, g1, g2, g3, g4⟩ := QB.2 (bk 7 (by decide) x); exact ⟨a, c, ho6.heap g1 (by omega), g2.only' ho6 (fun y hy _ => by have := g4 y hy; omega), g3, g4⟩⟩, ho6.heap QE (by omega), ho6.heap QR (by omega), QI.only ho6 (fun y hy => by have := HFR.out y hy; omega), QM.only' ho6 hap, by rw [ho6.size]; exact SZ⟩)
   | 7, _ =>
    cases hio
    have off : ¬ On f 7 := on_off (by omega) hn
    have h5 : On f 5 := he ⟨5, .data⟩ (by simp) rfl
    obtain ⟨a8, c8, e5, hr8, hz8, hf8⟩ := Q5 h5
    have hq := QB.1 off
    have hap := QM.apart hq (by intro v hv z; simp only [List.mem_cons, List.not_mem_nil, or_false] at hv; subst hv; exact fun h => nomatch h)
    have d0 : wm.cell? ⟨b3, 0, none⟩ = some (.slice none 0 0) := hq.at 0 _ rfl
    have d1 : wm.frozen? ⟨b3, 0, none⟩ = false := hq.free 0
    have hc6 := hq.set 0 (.slice a8 nr c8)
    have ho6 := only_set wm b3 0 (.slice a8 nr c8)
    rw [e5]
    have HQ := Lib.hid (And.intro P (And.intro Q5 (And.intro QA (And.intro QB (And.intro QE (And.intro QR (And.intro QI (And.intro QM SZ))))))))
    clear P Q5 QA QB QE QR QI QM SZ
    go_simp
    have hxx := HX.out
    obtain ⟨P, Q5, QA, QB, QE, QR, QI, QM, SZ⟩ := HQ.out
    obtain ⟨bk, fw, fn⟩ := on3 (f := f) (i := 7) (by omega)
    exact hKK (upd gv 17 (.slice a8 nr c8)) _ (by rw [upd_same e5]; exact ⟨ho6.below hBx (by omega), vals_keep (n := 7) (by omega) rfl P, fun x => by obtain ⟨a8, c8, e9, g2, g3, g4⟩ := Q5 (bk 5 (by decide) x); exact ⟨_, _, e9, g2.only' ho6 (fun y hy _ => by have := g4 y hy; omega), g3, g4⟩, ho6.heap QA (by omega), ⟨fun x => absurd fn x, fun _ => ⟨a8, c8, hc6, hr8.only' ho6 (fun y hy _ => by have := hf8 y hy; omega), hz8, hf8⟩⟩, ho6.heap QE (by omega), ho6.heap QR (by omega), QI.only ho6 (fun y hy => by have := HFR.out y hy; omega), QM.only' ho6 hap, by rw [ho6.size]; exact SZ⟩)
   | 8, _ =>
    cases hio
    have off : ¬ On f 8 := on_off (by omega) hn
    have hq := QE
    have hap := QM.apart QE (by intro v hv z; simp only [List.mem_cons, List.not_mem_nil, or_false] at hv; subst hv; exact fun h => nomatch h)
    have d0 : wm.cell? ⟨be, 0, none⟩ = some (.int .i64 0) := hq.at 0 _ rfl
    have d1 : wm.frozen? ⟨be, 0, none⟩ = false := hq.free 0
    have hc6 := hq.set 0 (.int .i64 0)
    have ho6 := only_set wm be 0 (.int .i64 0)
    have HQ := Lib.hid (And.intro P (And.intro Q5 (And.intro QA (And.intro QB (And.intro QE (And.intro QR (And.intro QI (And.intro QM SZ))))))))
    clear P Q5 QA QB QE QR QI QM SZ
    go_simp
    have hxx := HX.out
    obtain ⟨P, Q5, QA, QB, QE, QR, QI, QM, SZ⟩ := HQ.out
    obtain ⟨bk, fw, fn⟩ := on3 (f := f) (i := 8) (by omega)
    exact hKK gv _ (by exact ⟨ho6.below hBx (by omega), vals_keep (n := 8) (by omega) rfl P, fun x => by obtain ⟨a8, c8, e9, g2, g3, g4⟩ := Q5 (bk 5 (by decide) x); exact ⟨_, _, e9, g2.only' ho6 (fun y hy _ => by have := g4 y hy; omega), g3, g4⟩, ho6.heap QA (by omega), ⟨fun x => ho6.heap (QB.1 (fun y => x (fw 7 y))) (by omega), fun x => by obtain ⟨a, c, g1, g2, g3, g4⟩ := QB.2 (bk 7 (by decide) x); exact ⟨a, c, ho6.heap g1 (by omega), g2.only' ho6 (fun y hy _ => by have := g4 y hy; omega), g3, g4⟩⟩, hc6, ho6.heap QR (by omega), QI.only ho6 (fun y hy => by have := HFR.out y hy; omega), QM.only' ho6 hap, by rw [ho6.size]; exact SZ⟩)
  ·rintro f gv w5 hall hs' ⟨hBx, P, Q5, QA, QB, QE, QR, QI, QM, SZ⟩
   replace hs' : f.size = 9 := hs'
   have on : ∀ j, j < 9 → On f j := fun j hj => on_all hall hs' j hj
   obtain ⟨a9, c9, hb9, hr9, hz9, _⟩ := QB.2 (on 7 (by decide))
   have HCF := Lib.hid QA
   have HEF := Lib.hid QE
   have H3F := Lib.hid hb9
   have HEND := Lib.hid (show CGetF l w (.returned (.tuple #[.agg #[.int .i64 node, .int .i64 seq, .int .i64 gen, .slice av np cv, .int .i64 kind, .string s1, .string s2, .int .i64 num], .slice a9 nr c9, .int .i64 0])) w5 by
    unfold CGetF
    rw [HG.out]
    exact ⟨av, cv, a9, c9, by rw [HVAL.out, ← HNR.out], ⟨QI, HCM5.out.key, HCM5.out.elem⟩, by rw [← HNR.out]; exact hr9, hz9, hBx, fun x hx => by have h1 := HFR.out x hx; have h2 := HX.out; omega⟩)
   clear P Q5 QA QB QE QR QI QM SZ hBx hall hs' on hD hb9 hr9 hz9
   go_wp2_with fail
   refine leaves_cons (f := 112) (args := #[.pointer (some ⟨bc, 0, none⟩), .pointer (some ⟨b3, 0, none⟩), .pointer (some ⟨be, 0, none⟩)]) (by simp) (by simp [go_sem]) ?_
   refine (catch_idle _ _ _ w5).mono ?_
   rintro e u' w6 ⟨rfl, rfl, rfl⟩
   have p0 : w6.cell? ⟨bc, 0, none⟩ = some (.int .i64 node) := HCF.out.at 0 _ rfl
   have p1 : w6.cell? ⟨bc, 1, none⟩ = some (.int .i64 seq) := HCF.out.at 1 _ rfl
   have p2 : w6.cell? ⟨bc, 2, none⟩ = some (.int .i64 gen) := HCF.out.at 2 _ rfl
   have p3 : w6.cell? ⟨bc, 3, none⟩ = some (.slice av np cv) := HCF.out.at 3 _ rfl
   have p4 : w6.cell? ⟨bc, 4, none⟩ = some (.int .i64 kind) := HCF.out.at 4 _ rfl
   have p5 : w6.cell? ⟨bc, 5, none⟩ = some (.string s1) := HCF.out.at 5 _ rfl
   have p6 : w6.cell? ⟨bc, 6, none⟩ = some (.string s2) := HCF.out.at 6 _ rfl
   have p7 : w6.cell? ⟨bc, 7, none⟩ = some (.int .i64 num) := HCF.out.at 7 _ rfl
   have q1 : w6.cell? ⟨b3, 0, none⟩ = some (.slice a9 nr c9) := H3F.out.at 0 _ rfl
   have q2 : w6.cell? ⟨be, 0, none⟩ = some (.int .i64 0) := HEF.out.at 0 _ rfl
   have HE := HEND.out
   simp [Leaves, settle, results, Tryz.results88, go_sem, asAddr, p0, p1, p2, p3, p4, p5, p6, p7, q1, q2]
   exact HE
end Go.Proofs.YtofadpodlaakbaaGreat
