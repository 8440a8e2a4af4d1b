/- The walk of the reference's Get of the layer ops. -/
import Derived.Test.YtofadpodlaakbaaGreatOpsRefPut
namespace Go.Proofs.YtofadpodlaakbaaGreat
open Go.ChangeShapes Go.WideShapes Go.ChangeAt Go.RowKit
set_option linter.unusedVariables false
set_option maxRecDepth 100000 in
set_option maxHeartbeats 4000000 in
theorem opget_ref (a : Option Addr) (n c : Nat) (l : List UInt8) (w : World) (hr : Rd w a n c l) (hac : a = none → c = 0) (hn : n ≤ 140737488351232) : Calls Tryz.prog 70 #[.slice a n c] w (GetP l w) := by
 obtain ⟨N, hN⟩ : ∃ N, N = (getL l).1 := ⟨_, rfl⟩
 obtain ⟨u, hu⟩ : ∃ u, u = (getL l).2 := ⟨_, rfl⟩
 have hNlt : N < 18446744073709551616 := by rw [hN]; exact getL_lt l
 have hun : u ≤ n := by rw [hu, ← hr.len]; exact getL_le l
 have HG := Lib.hid (fun w' (h : Rd w' a n c l) => get_ref a n c l w' h hn)
 rw [← hN, ← hu] at HG
 obtain ⟨a', hs, hR, hac'⟩ := hr.sl hac u hun
 have e1 : ∀ w', (Instr.sliceAt 28 (.slice a n c) (some (.int .i64 (u : Int))) none none).run Tryz.prog w' = .ok (.slice a' (n - u) (c - u)) w' := fun w' => by rw [slice_at, slice_l w' a n c u hun, hs]
 have e2 : ∀ w', (Instr.slice 28 (.slice a n c) (some (.int .i64 (u : Int))) none none).run Tryz.prog w' = .ok (.slice a' (n - u) (c - u)) w' := fun w' => by rw [slice_l w' a n c u hun, hs]
 have HR := Lib.hid hr
 obtain ⟨R1, hR1⟩ : ∃ R1, R1 = l.drop u := ⟨_, rfl⟩
 have HR1 := Lib.hid (show ∀ w', Rd w' a n c l → Rd w' a' (n - u) (c - u) R1 from fun w' h => by
  have := hR n hun (Nat.le_refl _) w' h
  rwa [List.take_of_length_le (by rw [hr.len]; exact Nat.le_refl _), ← hR1] at this)
 have HH := Lib.hid (show N = (getL l).1 ∧ u = (getL l).2 ∧ u ≤ n ∧ l.length = n ∧ R1 = l.drop u from ⟨hN, hu, hun, hr.len, hR1⟩)
 clear hN hu hr hs hR hac hac' hR1
 go_enter Tryz.func70, Tryz.ntmps70
 go_upto_region 2 with fail
 obtain ⟨b2, hb2⟩ : ∃ b2, b2 = w.heap.size := ⟨_, rfl⟩
 have hsz : ∀ o, (w.alloc o).heap.size = b2 + 1 := fun o => by rw [hb2]; exact size_alloc' w o
 generalize hw0 : World.alloc (w.alloc (.cells #[.int .i64 0, .string ⟨#[]⟩, .string ⟨#[]⟩, .int .i64 0] _)) _ = w0
 have HC20 := Lib.hid (show Cel w0 b2 39 zeroOp by rw [← hw0, hb2]; exact (Cel.new w _ zeroOp).step ((Below.refl _ _).alloc (Nat.le_refl _) _))
 have HC50 := Lib.hid (show Cel w0 (b2 + 1) 39 zeroOp by rw [← hw0, ← hsz (.cells #[.int .i64 0, .string ⟨#[]⟩, .string ⟨#[]⟩, .int .i64 0] 39)]; exact Cel.new _ _ zeroOp)
 have HB0 := Lib.hid (show Below w.heap.size w w0 by rw [← hw0]; exact ((Below.refl _ _).alloc (Nat.le_refl _) _).alloc (by rw [size_alloc']; omega) _)
 have HLO := Lib.hid (show w.heap.size ≤ b2 from Nat.le_of_eq hb2.symm)
 rw [← hb2]
 clear hw0 hsz hb2
 obtain ⟨b5, hb5⟩ : ∃ b5, b5 = b2 + 1 := ⟨_, rfl⟩
 rw [← hb5] at HC50 ⊢
 have HNE := Lib.hid (show b2 ≠ b5 by omega)
 have HLO5 := Lib.hid (show w.heap.size ≤ b5 by have := HLO.out; omega)
 clear hb5
 go_wp2_with fail
 refine (HG.out _ (HR.out.below HB0.out)).mono ?_
 rintro e w1 ⟨rfl, hb⟩
 have HC2 := Lib.hid (HC20.out.step hb)
 have HC5 := Lib.hid (HC50.out.step hb)
 have HB1 := Lib.hid (HB0.out.step hb)
 clear hb HC20 HC50 HB0
 by_cases h0 : u = 0
 ·subst h0
  have q0 : w1.cell? ⟨b5, 0, none⟩ = some (.int .i64 0) := HC5.out.at 0 _ rfl
  have q1 : w1.cell? ⟨b5, 1, none⟩ = some (.string ⟨#[]⟩) := HC5.out.at 1 _ rfl
  have q2 : w1.cell? ⟨b5, 2, none⟩ = some (.string ⟨#[]⟩) := HC5.out.at 2 _ rfl
  have q3 : w1.cell? ⟨b5, 3, none⟩ = some (.int .i64 0) := HC5.out.at 3 _ rfl
  have HNO := Lib.hid (show getO l = none from by
   unfold getO; rw [if_pos (.inl HH.out.2.1.symm)])
  have d0 : w1.cell? ⟨b2, 0, none⟩ = some (.int .i64 0) := HC2.out.at 0 _ rfl
  have d1 : w1.cell? ⟨b2, 1, none⟩ = some (.string ⟨#[]⟩) := HC2.out.at 1 _ rfl
  have d2 : w1.cell? ⟨b2, 2, none⟩ = some (.string ⟨#[]⟩) := HC2.out.at 2 _ rfl
  have d3 : w1.cell? ⟨b2, 3, none⟩ = some (.int .i64 0) := HC2.out.at 3 _ rfl
  have g0 : w1.frozen? ⟨b2, 0, none⟩ = false := HC2.out.free 0
  have g1 : w1.frozen? ⟨b2, 1, none⟩ = false := HC2.out.free 1
  have g2 : w1.frozen? ⟨b2, 2, none⟩ = false := HC2.out.free 2
  have g3 : w1.frozen? ⟨b2, 3, none⟩ = false := HC2.out.free 3
  go_wp2_with fail
  generalize hwF : World.setCell (World.setCell (World.setCell (World.setCell _ _ _) _ _) _ _) _ _ = wF
  have HCF := Lib.hid (show Cel wF b2 39 zeroOp by rw [← hwF]; exact (((HC2.out.set 0 _).set 1 _).set 2 _).set 3 _)
  have HBF := Lib.hid (show Below w.heap.size w wF by rw [← hwF]; exact (((only_set _ _ _ _).trans (only_set _ _ _ _)).trans ((only_set _ _ _ _).trans (only_set _ _ _ _))).below HB1.out HLO.out)
  clear hwF
  refine bodyPost_ret (v := .tuple #[.agg zeroOp.toArray, .slice none 0 0, .int .i64 2]) ?_ rfl (by show GetP l w _ _; unfold GetP; rw [HNO.out]; exact ⟨rfl, HBF.out⟩)
  have hl := run_loadVar_mid (P := Tryz.prog) wF b2 0 39 zeroOp _ HCF.out.range Tryz.underlying39 rfl (by kernel_rfl)
  simp [results, Tryz.results70, asAddr, hl, Result.andThen]
 have h0' : ((u : Int) == 0) = false := by simpa using h0
 by_cases h4 : 4 ≤ N
 ·have h4' : decide ((4 : Int) ≤ (N : Int)) = true := decide_eq_true (by omega)
  have q0 : w1.cell? ⟨b5, 0, none⟩ = some (.int .i64 0) := HC5.out.at 0 _ rfl
  have q1 : w1.cell? ⟨b5, 1, none⟩ = some (.string ⟨#[]⟩) := HC5.out.at 1 _ rfl
  have q2 : w1.cell? ⟨b5, 2, none⟩ = some (.string ⟨#[]⟩) := HC5.out.at 2 _ rfl
  have q3 : w1.cell? ⟨b5, 3, none⟩ = some (.int .i64 0) := HC5.out.at 3 _ rfl
  have HNO := Lib.hid (show getO l = none from by
   unfold getO; rw [if_pos (.inr (by rw [← HH.out.1]; exact h4))])
  have d0 : w1.cell? ⟨b2, 0, none⟩ = some (.int .i64 0) := HC2.out.at 0 _ rfl
  have d1 : w1.cell? ⟨b2, 1, none⟩ = some (.string ⟨#[]⟩) := HC2.out.at 1 _ rfl
  have d2 : w1.cell? ⟨b2, 2, none⟩ = some (.string ⟨#[]⟩) := HC2.out.at 2 _ rfl
  have d3 : w1.cell? ⟨b2, 3, none⟩ = some (.int .i64 0) := HC2.out.at 3 _ rfl
  have g0 : w1.frozen? ⟨b2, 0, none⟩ = false := HC2.out.free 0
  have g1 : w1.frozen? ⟨b2, 1, none⟩ = false := HC2.out.free 1
  have g2 : w1.frozen? ⟨b2, 2, none⟩ = false := HC2.out.free 2
  have g3 : w1.frozen? ⟨b2, 3, none⟩ = false := HC2.out.free 3
  go_wp2_with fail
  generalize hwF : World.setCell (World.setCell (World.setCell (World.setCell _ _ _) _ _) _ _) _ _ = wF
  have HCF := Lib.hid (show Cel wF b2 39 zeroOp by rw [← hwF]; exact (((HC2.out.set 0 _).set 1 _).set 2 _).set 3 _)
  have HBF := Lib.hid (show Below w.heap.size w wF by rw [← hwF]; exact (((only_set _ _ _ _).trans (only_set _ _ _ _)).trans ((only_set _ _ _ _).trans (only_set _ _ _ _))).below HB1.out HLO.out)
  clear hwF
  refine bodyPost_ret (v := .tuple #[.agg zeroOp.toArray, .slice none 0 0, .int .i64 2]) ?_ rfl (by show GetP l w _ _; unfold GetP; rw [HNO.out]; exact ⟨rfl, HBF.out⟩)
  have hl := run_loadVar_mid (P := Tryz.prog) wF b2 0 39 zeroOp _ HCF.out.range Tryz.underlying39 rfl (by kernel_rfl)
  simp [results, Tryz.results70, asAddr, hl, Result.andThen]
 have h4' : decide ((4 : Int) ≤ (N : Int)) = false := decide_eq_false (by omega)
 have hwN : IntKind.i64.wrap (N : Int) = (N : Int) := by rw [wrap_i64']; omega
 have q0 : w1.cell? ⟨b5, 0, none⟩ = some (.int .i64 0) := HC5.out.at 0 _ rfl
 have q1 : w1.cell? ⟨b5, 1, none⟩ = some (.string ⟨#[]⟩) := HC5.out.at 1 _ rfl
 have q2 : w1.cell? ⟨b5, 2, none⟩ = some (.string ⟨#[]⟩) := HC5.out.at 2 _ rfl
 have q3 : w1.cell? ⟨b5, 3, none⟩ = some (.int .i64 0) := HC5.out.at 3 _ rfl
 have f0 : w1.frozen? ⟨b5, 0, none⟩ = false := HC5.out.free 0
 go_upto_region 6 with fail
 generalize hw2 : w1.setCell _ _ = w2
 have HC52 := Lib.hid (show Cel w2 b5 39 [.int .i64 (N : Int), .string ⟨#[]⟩, .string ⟨#[]⟩, .int .i64 0] by rw [← hw2]; exact HC5.out.set 0 _)
 have ho12 : Only w1 w2 b5 := by rw [← hw2]; exact only_set _ _ _ _
 have HC22 := Lib.hid (show Cel w2 b2 39 zeroOp from ho12.heap HC2.out HNE.out)
 have HB2 := Lib.hid (ho12.below HB1.out HLO5.out)
 clear hw2 ho12 q0 q1 q2 q3 f0
 go_wp2_with fail
 refine (cut_ref a' (n - u) (c - u) R1 8 w2 (HR1.out _ (HR.out.below HB2.out)) (by omega) (by decide) (by decide)).mono ?_
 rintro e w3 ⟨v, rfl, ho, hb⟩
 obtain ⟨key, hkey⟩ : ∃ key, key = cutT R1 8 := ⟨_, rfl⟩
 obtain ⟨R, hRR⟩ : ∃ R, R = cutR R1 8 := ⟨_, rfl⟩
 obtain ⟨is, his⟩ : ∃ is, is = cutIs R1 8 := ⟨_, rfl⟩
 rw [← hRR] at ho
 rw [← hkey, ← his]
 obtain ⟨a9, c9, rfl, hr9⟩ := Rd.of_own ho
 have hac9 := own_none ho
 have hne9 : ∀ x, a9 = some x → x.block ≠ b5 ∧ x.block ≠ b2 := by
  rintro x rfl
  have h1 := (ho.lt x.block rfl).1
  have h2 := HC52.out.lt
  have h3 := HC22.out.lt
  omega
 have HK := Lib.hid (show key = cutT R1 8 ∧ R = cutR R1 8 ∧ is = cutIs R1 8 ∧ key.length ≤ 8 ∧ R.length ≤ n from ⟨hkey, hRR, his, by
   rw [hkey]
   by_cases h : cutIs R1 8 = true
   ·exact (cut_got h).2
   ·unfold cutT; rw [if_neg h]; decide, by
   have h1 : R1.length ≤ n := by rw [HH.out.2.2.2.2, List.length_drop, HH.out.2.2.2.1]; omega
   rw [hRR]; unfold cutR; split
   ·rw [List.length_drop, List.length_drop]; omega
   ·exact Nat.zero_le _⟩)
 have HC23 := Lib.hid (HC22.out.step hb)
 have HC53 := Lib.hid (HC52.out.step hb)
 have HB3 := Lib.hid (HB2.out.step hb)
 have HR3 := Lib.hid (show Rd w3 a9 R.length c9 R ∧ (a9 = none → c9 = 0) ∧ (∀ x, a9 = some x → x.block ≠ b5 ∧ x.block ≠ b2) from ⟨hr9, hac9, hne9⟩)
 clear hkey hRR his ho hr9 hac9 hne9 hb HC52 HC22 HB2
 cases is with
 | false =>
  have HNO := Lib.hid (show getO l = none from by
   unfold getO
   rw [if_neg (by rw [← HH.out.1, ← HH.out.2.1]; omega), ← HH.out.2.1, ← HH.out.2.2.2.2, if_neg (by rw [← HK.out.2.2.1]; decide)])
  have d0 : w3.cell? ⟨b2, 0, none⟩ = some (.int .i64 0) := HC23.out.at 0 _ rfl
  have d1 : w3.cell? ⟨b2, 1, none⟩ = some (.string ⟨#[]⟩) := HC23.out.at 1 _ rfl
  have d2 : w3.cell? ⟨b2, 2, none⟩ = some (.string ⟨#[]⟩) := HC23.out.at 2 _ rfl
  have d3 : w3.cell? ⟨b2, 3, none⟩ = some (.int .i64 0) := HC23.out.at 3 _ rfl
  have g0 : w3.frozen? ⟨b2, 0, none⟩ = false := HC23.out.free 0
  have g1 : w3.frozen? ⟨b2, 1, none⟩ = false := HC23.out.free 1
  have g2 : w3.frozen? ⟨b2, 2, none⟩ = false := HC23.out.free 2
  have g3 : w3.frozen? ⟨b2, 3, none⟩ = false := HC23.out.free 3
  go_wp2_with fail
  generalize hwF : World.setCell (World.setCell (World.setCell (World.setCell _ _ _) _ _) _ _) _ _ = wF
  have HCF := Lib.hid (show Cel wF b2 39 zeroOp by rw [← hwF]; exact (((HC23.out.set 0 _).set 1 _).set 2 _).set 3 _)
  have HBF := Lib.hid (show Below w.heap.size w wF by rw [← hwF]; exact (((only_set _ _ _ _).trans (only_set _ _ _ _)).trans ((only_set _ _ _ _).trans (only_set _ _ _ _))).below HB3.out HLO.out)
  clear hwF
  refine bodyPost_ret (v := .tuple #[.agg zeroOp.toArray, .slice none 0 0, .int .i64 2]) ?_ rfl (by show GetP l w _ _; unfold GetP; rw [HNO.out]; exact ⟨rfl, HBF.out⟩)
  have hl := run_loadVar_mid (P := Tryz.prog) wF b2 0 39 zeroOp _ HCF.out.range Tryz.underlying39 rfl (by kernel_rfl)
  simp [results, Tryz.results70, asAddr, hl, Result.andThen]
 | true =>
  have HYE := Lib.hid (show getO l = match getE N key R with | none => none | some (o, r) => if mayB o = true then some (o, r) else none by
   unfold getO
   rw [if_neg (by rw [← HH.out.1, ← HH.out.2.1]; omega), ← HH.out.2.1, ← HH.out.2.2.2.2, if_pos HK.out.2.2.1.symm, ← HH.out.1, ← HK.out.1, ← HK.out.2.1]
   cases getE N key R with
   | none => rfl
   | some p => rfl)
  have q0 : w3.cell? ⟨b5, 0, none⟩ = some (.int .i64 (N : Int)) := HC53.out.at 0 _ rfl
  have q1 : w3.cell? ⟨b5, 1, none⟩ = some (.string ⟨#[]⟩) := HC53.out.at 1 _ rfl
  have q2 : w3.cell? ⟨b5, 2, none⟩ = some (.string ⟨#[]⟩) := HC53.out.at 2 _ rfl
  have q3 : w3.cell? ⟨b5, 3, none⟩ = some (.int .i64 0) := HC53.out.at 3 _ rfl
  have f1 : w3.frozen? ⟨b5, 1, none⟩ = false := HC53.out.free 1
  go_upto_region 10 with fail
  generalize hw4 : w3.setCell _ _ = w4
  have HC54 := Lib.hid (show Cel w4 b5 39 [.int .i64 (N : Int), .string ⟨key.toArray⟩, .string ⟨#[]⟩, .int .i64 0] by rw [← hw4]; exact HC53.out.set 1 _)
  have ho34 : Only w3 w4 b5 := by rw [← hw4]; exact only_set _ _ _ _
  have HC24 := Lib.hid (show Cel w4 b2 39 zeroOp from ho34.heap HC23.out HNE.out)
  have HB4 := Lib.hid (ho34.below HB3.out HLO5.out)
  have HR4 := Lib.hid (show Rd w4 a9 R.length c9 R from (Past.of (Below.refl _ _) ho34).rd HR3.out.1 (fun x hx => (HR3.out.2.2 x hx).1))
  clear hw4 ho34 q0 q1 q2 q3 f1
  have q0 : w4.cell? ⟨b5, 0, none⟩ = some (.int .i64 (N : Int)) := HC54.out.at 0 _ rfl
  have q1 : w4.cell? ⟨b5, 1, none⟩ = some (.string ⟨key.toArray⟩) := HC54.out.at 1 _ rfl
  have q2 : w4.cell? ⟨b5, 2, none⟩ = some (.string ⟨#[]⟩) := HC54.out.at 2 _ rfl
  have q3 : w4.cell? ⟨b5, 3, none⟩ = some (.int .i64 0) := HC54.out.at 3 _ rfl
  have f3 : w4.frozen? ⟨b5, 3, none⟩ = false := HC54.out.free 3
  by_cases hz : N = 0
  ·subst hz
   obtain ⟨u2, hu2⟩ : ∃ u2, u2 = (getL R).2 := ⟨_, rfl⟩
   obtain ⟨N2, hN2⟩ : ∃ N2, N2 = (getL R).1 := ⟨_, rfl⟩
   have HG2 := Lib.hid (fun w' (h : Rd w' a9 R.length c9 R) => get_ref a9 R.length c9 R w' h (Nat.le_trans HK.out.2.2.2.2 hn))
   rw [← hN2, ← hu2] at HG2
   have hu2n : u2 ≤ R.length := by rw [hu2]; exact getL_le R
   have hN2lt : N2 < 18446744073709551616 := by rw [hN2]; exact getL_lt R
   have HU := Lib.hid (fun w' => unfold_ref (N2 : Int) w' (by omega) (by omega))
   have HGE := Lib.hid (show getE 0 key R = if u2 = 0 then none else some (⟨((0 : Nat) : Int), key, [], unfold' (N2 : Int)⟩, R.drop u2) by unfold getE; rw [if_pos rfl, ← hu2, ← hN2]; rfl)
   rw [HGE.out] at HYE
   obtain ⟨a10, hs10, hR10, hac10, hbl10⟩ := HR3.out.1.slb HR3.out.2.1 u2 hu2n
   obtain ⟨rl, hrl⟩ : ∃ rl, rl = R.length := ⟨_, rfl⟩
   have e3 : ∀ w', (Instr.sliceAt 28 (.slice a9 rl c9) (some (.int .i64 (u2 : Int))) none none).run Tryz.prog w' = .ok (.slice a10 (rl - u2) (c9 - u2)) w' := fun w' => by rw [hrl, slice_at, slice_l w' a9 _ c9 u2 hu2n, hs10]
   have e4 : ∀ w', (Instr.slice 28 (.slice a9 rl c9) (some (.int .i64 (u2 : Int))) none none).run Tryz.prog w' = .ok (.slice a10 (rl - u2) (c9 - u2)) w' := fun w' => by rw [hrl, slice_l w' a9 _ c9 u2 hu2n, hs10]
   have HR10 := Lib.hid (show (∀ w', Rd w' a9 R.length c9 R → Rd w' a10 (rl - u2) (c9 - u2) (R.drop u2)) ∧ (a10 = none → c9 - u2 = 0) ∧ (∀ x, a10 = some x → x.block ≠ b5 ∧ x.block ≠ b2) from ⟨by rw [hrl]; exact hR10, hac10, fun x hx => by
    obtain ⟨y, hy, e⟩ := hbl10 x hx
    rw [e]; exact HR3.out.2.2 y hy⟩)
   have HRL := Lib.hid (show rl = R.length ∧ (R.drop u2).length = rl - u2 from ⟨hrl, by rw [List.length_drop, hrl]⟩)
   have hu2l : u2 ≤ rl := by rw [hrl]; exact hu2n
   rw [← hrl]
   clear hu2 hN2 hu2n hN2lt hs10 hR10 hac10 hbl10 hrl HGE
   go_wp2_with fail
   refine (show Calls Tryz.prog 68 #[.slice a9 rl c9] _ _ by rw [HRL.out.1]; exact HG2.out _ HR4.out).mono ?_
   rintro e w4b ⟨rfl, hb⟩
   have HC54 := Lib.hid (HC54.out.step hb)
   have HC24 := Lib.hid (HC24.out.step hb)
   have HB4 := Lib.hid (HB4.out.step hb)
   have HR4 := Lib.hid (HR4.out.below hb)
   clear hb q0 q1 q2 q3 f3
   have q0 : w4b.cell? ⟨b5, 0, none⟩ = some (.int .i64 ((0 : Nat) : Int)) := HC54.out.at 0 _ rfl
   have q1 : w4b.cell? ⟨b5, 1, none⟩ = some (.string ⟨key.toArray⟩) := HC54.out.at 1 _ rfl
   have q2 : w4b.cell? ⟨b5, 2, none⟩ = some (.string ⟨#[]⟩) := HC54.out.at 2 _ rfl
   have q3 : w4b.cell? ⟨b5, 3, none⟩ = some (.int .i64 0) := HC54.out.at 3 _ rfl
   have f3 : w4b.frozen? ⟨b5, 3, none⟩ = false := HC54.out.free 3
   by_cases hz2 : u2 = 0
   ·have hz2' : ((u2 : Int) == 0) = true := by simpa using hz2
    have HZ := Lib.hid hz2
    clear hz2
    have HNO := Lib.hid (show getO l = none from by
     rw [HYE.out, if_pos HZ.out])
    have d0 : w4b.cell? ⟨b2, 0, none⟩ = some (.int .i64 0) := HC24.out.at 0 _ rfl
    have d1 : w4b.cell? ⟨b2, 1, none⟩ = some (.string ⟨#[]⟩) := HC24.out.at 1 _ rfl
    have d2 : w4b.cell? ⟨b2, 2, none⟩ = some (.string ⟨#[]⟩) := HC24.out.at 2 _ rfl
    have d3 : w4b.cell? ⟨b2, 3, none⟩ = some (.int .i64 0) := HC24.out.at 3 _ rfl
    have g0 : w4b.frozen? ⟨b2, 0, none⟩ = false := HC24.out.free 0
    have g1 : w4b.frozen? ⟨b2, 1, none⟩ = false := HC24.out.free 1
    have g2 : w4b.frozen? ⟨b2, 2, none⟩ = false := HC24.out.free 2
    have g3 : w4b.frozen? ⟨b2, 3, none⟩ = false := HC24.out.free 3
    go_wp2_with fail
    generalize hwF : World.setCell (World.setCell (World.setCell (World.setCell _ _ _) _ _) _ _) _ _ = wF
    have HCF := Lib.hid (show Cel wF b2 39 zeroOp by rw [← hwF]; exact (((HC24.out.set 0 _).set 1 _).set 2 _).set 3 _)
    have HBF := Lib.hid (show Below w.heap.size w wF by rw [← hwF]; exact (((only_set _ _ _ _).trans (only_set _ _ _ _)).trans ((only_set _ _ _ _).trans (only_set _ _ _ _))).below HB4.out HLO.out)
    clear hwF
    refine bodyPost_ret (v := .tuple #[.agg zeroOp.toArray, .slice none 0 0, .int .i64 2]) ?_ rfl (by show GetP l w _ _; unfold GetP; rw [HNO.out]; exact ⟨rfl, HBF.out⟩)
    have hl := run_loadVar_mid (P := Tryz.prog) wF b2 0 39 zeroOp _ HCF.out.range Tryz.underlying39 rfl (by kernel_rfl)
    simp [results, Tryz.results70, asAddr, hl, Result.andThen]
   have hz2' : ((u2 : Int) == 0) = false := by simpa using hz2
   have HYE2 := Lib.hid (show getO l = if mayB ⟨((0 : Nat) : Int), key, [], unfold' (N2 : Int)⟩ = true then some (⟨((0 : Nat) : Int), key, [], unfold' (N2 : Int)⟩, R.drop u2) else none by rw [HYE.out, if_neg hz2])
   obtain ⟨R2, hR2⟩ : ∃ R2, R2 = R.drop u2 := ⟨_, rfl⟩
   rw [← hR2] at HYE2 HR10 HRL
   clear hz2 HYE hR2
   go_wp2_with fail
   refine (HU.out _).mono ?_
   rintro e w' ⟨rfl, rfl⟩
   go_upto_region 15 with fail
   generalize hw5 : w4b.setCell _ _ = w5
   have HC55 := Lib.hid (show Cel w5 b5 39 [.int .i64 ((0 : Nat) : Int), .string ⟨key.toArray⟩, .string ⟨#[]⟩, .int .i64 (unfold' (N2 : Int))] by rw [← hw5]; exact HC54.out.set 3 _)
   have ho45 : Only w4b w5 b5 := by rw [← hw5]; exact only_set _ _ _ _
   have HC25 := Lib.hid (show Cel w5 b2 39 zeroOp from ho45.heap HC24.out HNE.out)
   have HB5 := Lib.hid (ho45.below HB4.out HLO5.out)
   have HR5 := Lib.hid (show Rd w5 a10 R2.length (c9 - u2) R2 ∧ (a10 = none → c9 - u2 = 0) ∧ (∀ x, a10 = some x → x.block ≠ b2) from ⟨by
    rw [HRL.out.2]
    exact HR10.out.1 _ ((Past.of (Below.refl _ _) ho45).rd HR4.out (fun x hx => (HR3.out.2.2 x hx).1)), HR10.out.2.1, fun x hx => (HR10.out.2.2 x hx).2⟩)
   have hR2l : rl - u2 = R2.length := HRL.out.2.symm
   clear hw5 ho45 q0 q1 q2 q3 f3
   go_upto_region 21 with fail
   clear hR2l e1 e2 e3 e4
   obtain ⟨c10, hc10⟩ : ∃ c10, c10 = c9 - u2 := ⟨_, rfl⟩
   rw [← hc10] at HR5 ⊢
   clear hc10
   have q0 : w5.cell? ⟨b5, 0, none⟩ = some (.int .i64 ((0 : Nat) : Int)) := HC55.out.at 0 _ rfl
   have q1 : w5.cell? ⟨b5, 1, none⟩ = some (.string ⟨key.toArray⟩) := HC55.out.at 1 _ rfl
   have q2 : w5.cell? ⟨b5, 2, none⟩ = some (.string ⟨#[]⟩) := HC55.out.at 2 _ rfl
   have q3 : w5.cell? ⟨b5, 3, none⟩ = some (.int .i64 (unfold' (N2 : Int))) := HC55.out.at 3 _ rfl
   go_wp2_with fail
   refine (may_ref ((0 : Nat) : Int) (unfold' (N2 : Int)) key (([] : List UInt8)) w5 (Nat.le_trans HK.out.2.2.2.1 (by decide)) (Nat.le_trans (Nat.zero_le 8) (by decide))).mono ?_
   rintro e w8 ⟨rfl, hb⟩
   obtain ⟨mm, hmm⟩ : ∃ mm, mm = mayB ⟨((0 : Nat) : Int), key, ([] : List UInt8), unfold' (N2 : Int)⟩ := ⟨_, rfl⟩
   rw [← hmm]
   have HC58 := Lib.hid (HC55.out.step hb)
   have HC28 := Lib.hid (HC25.out.step hb)
   have HB8 := Lib.hid (HB5.out.step hb)
   have HR8 := Lib.hid (show Rd w8 a10 R2.length c10 R2 ∧ (a10 = none → c10 = 0) ∧ (∀ x, a10 = some x → x.block ≠ b2) from ⟨HR5.out.1.below hb, HR5.out.2.1, HR5.out.2.2⟩)
   have HY2 := Lib.hid (show getO l = if mm = true then some (⟨((0 : Nat) : Int), key, ([] : List UInt8), unfold' (N2 : Int)⟩, R2) else none by rw [hmm]; exact HYE2.out)
   clear hmm hb q0 q1 q2 q3
   cases mm with
   | false =>
    have HNO := Lib.hid (show getO l = none from by
     rw [HY2.out]; rfl)
    have d0 : w8.cell? ⟨b2, 0, none⟩ = some (.int .i64 0) := HC28.out.at 0 _ rfl
    have d1 : w8.cell? ⟨b2, 1, none⟩ = some (.string ⟨#[]⟩) := HC28.out.at 1 _ rfl
    have d2 : w8.cell? ⟨b2, 2, none⟩ = some (.string ⟨#[]⟩) := HC28.out.at 2 _ rfl
    have d3 : w8.cell? ⟨b2, 3, none⟩ = some (.int .i64 0) := HC28.out.at 3 _ rfl
    have g0 : w8.frozen? ⟨b2, 0, none⟩ = false := HC28.out.free 0
    have g1 : w8.frozen? ⟨b2, 1, none⟩ = false := HC28.out.free 1
    have g2 : w8.frozen? ⟨b2, 2, none⟩ = false := HC28.out.free 2
    have g3 : w8.frozen? ⟨b2, 3, none⟩ = false := HC28.out.free 3
    go_wp2_with fail
    generalize hwF : World.setCell (World.setCell (World.setCell (World.setCell _ _ _) _ _) _ _) _ _ = wF
    have HCF := Lib.hid (show Cel wF b2 39 zeroOp by rw [← hwF]; exact (((HC28.out.set 0 _).set 1 _).set 2 _).set 3 _)
    have HBF := Lib.hid (show Below w.heap.size w wF by rw [← hwF]; exact (((only_set _ _ _ _).trans (only_set _ _ _ _)).trans ((only_set _ _ _ _).trans (only_set _ _ _ _))).below HB8.out HLO.out)
    clear hwF
    refine bodyPost_ret (v := .tuple #[.agg zeroOp.toArray, .slice none 0 0, .int .i64 2]) ?_ rfl (by show GetP l w _ _; unfold GetP; rw [HNO.out]; exact ⟨rfl, HBF.out⟩)
    have hl := run_loadVar_mid (P := Tryz.prog) wF b2 0 39 zeroOp _ HCF.out.range Tryz.underlying39 rfl (by kernel_rfl)
    simp [results, Tryz.results70, asAddr, hl, Result.andThen]
   | true =>
    have HYS := Lib.hid (show getO l = some (⟨((0 : Nat) : Int), key, ([] : List UInt8), unfold' (N2 : Int)⟩, R2) from HY2.out)
    have q0 : w8.cell? ⟨b5, 0, none⟩ = some (.int .i64 ((0 : Nat) : Int)) := HC58.out.at 0 _ rfl
    have q1 : w8.cell? ⟨b5, 1, none⟩ = some (.string ⟨key.toArray⟩) := HC58.out.at 1 _ rfl
    have q2 : w8.cell? ⟨b5, 2, none⟩ = some (.string ⟨#[]⟩) := HC58.out.at 2 _ rfl
    have q3 : w8.cell? ⟨b5, 3, none⟩ = some (.int .i64 (unfold' (N2 : Int))) := HC58.out.at 3 _ rfl
    have d0 : w8.cell? ⟨b2, 0, none⟩ = some (.int .i64 0) := HC28.out.at 0 _ rfl
    have d1 : w8.cell? ⟨b2, 1, none⟩ = some (.string ⟨#[]⟩) := HC28.out.at 1 _ rfl
    have d2 : w8.cell? ⟨b2, 2, none⟩ = some (.string ⟨#[]⟩) := HC28.out.at 2 _ rfl
    have d3 : w8.cell? ⟨b2, 3, none⟩ = some (.int .i64 0) := HC28.out.at 3 _ rfl
    have g0 : w8.frozen? ⟨b2, 0, none⟩ = false := HC28.out.free 0
    have g1 : w8.frozen? ⟨b2, 1, none⟩ = false := HC28.out.free 1
    have g2 : w8.frozen? ⟨b2, 2, none⟩ = false := HC28.out.free 2
    have g3 : w8.frozen? ⟨b2, 3, none⟩ = false := HC28.out.free 3
    go_wp2_with fail
    generalize hwF : World.setCell (World.setCell (World.setCell (World.setCell _ _ _) _ _) _ _) _ _ = wF
    have hoF : Only w8 wF b2 := by rw [← hwF]; exact ((only_set _ _ _ _).trans (only_set _ _ _ _)).trans ((only_set _ _ _ _).trans (only_set _ _ _ _))
    have HCF := Lib.hid (show Cel wF b2 39 [.int .i64 ((0 : Nat) : Int), .string ⟨key.toArray⟩, .string ⟨#[]⟩, .int .i64 (unfold' (N2 : Int))] by rw [← hwF]; exact (((HC28.out.set 0 _).set 1 _).set 2 _).set 3 _)
    have HE := Lib.hid (show Rd wF a10 R2.length c10 R2 ∧ (a10 = none → c10 = 0) ∧ Below w.heap.size w wF from ⟨(Past.of (Below.refl _ _) hoF).rd HR8.out.1 HR8.out.2.2, HR8.out.2.1, hoF.below HB8.out HLO.out⟩)
    clear hwF hoF
    refine bodyPost_ret (v := .tuple #[.agg #[.int .i64 ((0 : Nat) : Int), .string ⟨key.toArray⟩, .string ⟨#[]⟩, .int .i64 (unfold' (N2 : Int))], .slice a10 R2.length c10, .int .i64 0]) ?_ rfl (by show GetP l w _ _; unfold GetP; rw [HYS.out]; exact ⟨a10, c10, rfl, HE.out⟩)
    have hl := run_loadVar_mid (P := Tryz.prog) wF b2 0 39 _ _ HCF.out.range Tryz.underlying39 rfl (by kernel_rfl)
    simp [results, Tryz.results70, asAddr, hl, Result.andThen]
  ·have hz' : ((N : Int) == 0) = false := by simp; omega
   obtain ⟨E, hE⟩ : ∃ E, E = cutT R 8 := ⟨_, rfl⟩
   obtain ⟨R2, hR2⟩ : ∃ R2, R2 = cutR R 8 := ⟨_, rfl⟩
   obtain ⟨is2, his2⟩ : ∃ is2, is2 = cutIs R 8 := ⟨_, rfl⟩
   have HGE := Lib.hid (show getE N key R = if is2 = true then some (⟨(N : Int), key, E, 0⟩, R2) else none by unfold getE; rw [if_neg hz, ← hE, ← hR2, ← his2])
   rw [HGE.out] at HYE
   have HEL := Lib.hid (show E.length ≤ 8 by
    rw [hE]
    by_cases h : cutIs R 8 = true
    ·exact (cut_got h).2
    ·unfold cutT; rw [if_neg h]; decide)
   have HCUT := Lib.hid (cut_ref a9 R.length c9 R 8 w4 HR4.out (Nat.le_trans HK.out.2.2.2.2 hn) (by decide) (by decide))
   unfold CutP at HCUT
   rw [← hE, ← hR2, ← his2] at HCUT
   obtain ⟨rl, hrl⟩ : ∃ rl, rl = R.length := ⟨_, rfl⟩
   rw [← hrl] at HCUT ⊢
   clear hE hR2 his2 HGE hz hrl
   go_wp2_with fail
   refine HCUT.out.mono ?_
   rintro e w6 ⟨v6, rfl, ho6, hb⟩
   obtain ⟨a10, c10, rfl, hr10⟩ := Rd.of_own ho6
   have hac10 := own_none ho6
   have hne10 : ∀ x, a10 = some x → x.block ≠ b5 ∧ x.block ≠ b2 := by
    rintro x rfl
    have h1 := (ho6.lt x.block rfl).1
    have h2 := HC54.out.lt
    have h3 := HC24.out.lt
    omega
   have HR6 := Lib.hid (show Rd w6 a10 R2.length c10 R2 ∧ (a10 = none → c10 = 0) ∧ (∀ x, a10 = some x → x.block ≠ b5 ∧ x.block ≠ b2) from ⟨hr10, hac10, hne10⟩)
   have HC56 := Lib.hid (HC54.out.step hb)
   have HC26 := Lib.hid (HC24.out.step hb)
   have HB6 := Lib.hid (HB4.out.step hb)
   clear ho6 hr10 hac10 hne10 hb q0 q1 q2 q3 f3
   cases is2 with
   | false =>
    have HNO := Lib.hid (show getO l = none from by
     rw [HYE.out]; rfl)
    have d0 : w6.cell? ⟨b2, 0, none⟩ = some (.int .i64 0) := HC26.out.at 0 _ rfl
    have d1 : w6.cell? ⟨b2, 1, none⟩ = some (.string ⟨#[]⟩) := HC26.out.at 1 _ rfl
    have d2 : w6.cell? ⟨b2, 2, none⟩ = some (.string ⟨#[]⟩) := HC26.out.at 2 _ rfl
    have d3 : w6.cell? ⟨b2, 3, none⟩ = some (.int .i64 0) := HC26.out.at 3 _ rfl
    have g0 : w6.frozen? ⟨b2, 0, none⟩ = false := HC26.out.free 0
    have g1 : w6.frozen? ⟨b2, 1, none⟩ = false := HC26.out.free 1
    have g2 : w6.frozen? ⟨b2, 2, none⟩ = false := HC26.out.free 2
    have g3 : w6.frozen? ⟨b2, 3, none⟩ = false := HC26.out.free 3
    go_wp2_with fail
    generalize hwF : World.setCell (World.setCell (World.setCell (World.setCell _ _ _) _ _) _ _) _ _ = wF
    have HCF := Lib.hid (show Cel wF b2 39 zeroOp by rw [← hwF]; exact (((HC26.out.set 0 _).set 1 _).set 2 _).set 3 _)
    have HBF := Lib.hid (show Below w.heap.size w wF by rw [← hwF]; exact (((only_set _ _ _ _).trans (only_set _ _ _ _)).trans ((only_set _ _ _ _).trans (only_set _ _ _ _))).below HB6.out HLO.out)
    clear hwF
    refine bodyPost_ret (v := .tuple #[.agg zeroOp.toArray, .slice none 0 0, .int .i64 2]) ?_ rfl (by show GetP l w _ _; unfold GetP; rw [HNO.out]; exact ⟨rfl, HBF.out⟩)
    have hl := run_loadVar_mid (P := Tryz.prog) wF b2 0 39 zeroOp _ HCF.out.range Tryz.underlying39 rfl (by kernel_rfl)
    simp [results, Tryz.results70, asAddr, hl, Result.andThen]
   | true =>
    have HYE2 := Lib.hid (show getO l = if mayB ⟨(N : Int), key, E, 0⟩ = true then some (⟨(N : Int), key, E, 0⟩, R2) else none from HYE.out)
    clear HYE
    have q0 : w6.cell? ⟨b5, 0, none⟩ = some (.int .i64 (N : Int)) := HC56.out.at 0 _ rfl
    have q1 : w6.cell? ⟨b5, 1, none⟩ = some (.string ⟨key.toArray⟩) := HC56.out.at 1 _ rfl
    have q2 : w6.cell? ⟨b5, 2, none⟩ = some (.string ⟨#[]⟩) := HC56.out.at 2 _ rfl
    have q3 : w6.cell? ⟨b5, 3, none⟩ = some (.int .i64 0) := HC56.out.at 3 _ rfl
    have f2 : w6.frozen? ⟨b5, 2, none⟩ = false := HC56.out.free 2
    go_upto_region 20 with fail
    generalize hw7 : w6.setCell _ _ = w7
    have HC57 := Lib.hid (show Cel w7 b5 39 [.int .i64 (N : Int), .string ⟨key.toArray⟩, .string ⟨E.toArray⟩, .int .i64 0] by rw [← hw7]; exact HC56.out.set 2 _)
    have ho67 : Only w6 w7 b5 := by rw [← hw7]; exact only_set _ _ _ _
    have HC27 := Lib.hid (show Cel w7 b2 39 zeroOp from ho67.heap HC26.out HNE.out)
    have HB7 := Lib.hid (ho67.below HB6.out HLO5.out)
    have HR7 := Lib.hid (show Rd w7 a10 R2.length c10 R2 ∧ (a10 = none → c10 = 0) ∧ (∀ x, a10 = some x → x.block ≠ b2) from ⟨(Past.of (Below.refl _ _) ho67).rd HR6.out.1 (fun x hx => (HR6.out.2.2 x hx).1), HR6.out.2.1, fun x hx => (HR6.out.2.2 x hx).2⟩)
    clear hw7 ho67 q0 q1 q2 q3 f2
    go_upto_region 21 with fail
    have q0 : w7.cell? ⟨b5, 0, none⟩ = some (.int .i64 (N : Int)) := HC57.out.at 0 _ rfl
    have q1 : w7.cell? ⟨b5, 1, none⟩ = some (.string ⟨key.toArray⟩) := HC57.out.at 1 _ rfl
    have q2 : w7.cell? ⟨b5, 2, none⟩ = some (.string ⟨E.toArray⟩) := HC57.out.at 2 _ rfl
    have q3 : w7.cell? ⟨b5, 3, none⟩ = some (.int .i64 0) := HC57.out.at 3 _ rfl
    go_wp2_with fail
    refine (may_ref (N : Int) (0) key (E) w7 (Nat.le_trans HK.out.2.2.2.1 (by decide)) (Nat.le_trans (HEL.out) (by decide))).mono ?_
    rintro e w8 ⟨rfl, hb⟩
    obtain ⟨mm, hmm⟩ : ∃ mm, mm = mayB ⟨(N : Int), key, E, 0⟩ := ⟨_, rfl⟩
    rw [← hmm]
    have HC58 := Lib.hid (HC57.out.step hb)
    have HC28 := Lib.hid (HC27.out.step hb)
    have HB8 := Lib.hid (HB7.out.step hb)
    have HR8 := Lib.hid (show Rd w8 a10 R2.length c10 R2 ∧ (a10 = none → c10 = 0) ∧ (∀ x, a10 = some x → x.block ≠ b2) from ⟨HR7.out.1.below hb, HR7.out.2.1, HR7.out.2.2⟩)
    have HY2 := Lib.hid (show getO l = if mm = true then some (⟨(N : Int), key, E, 0⟩, R2) else none by rw [hmm]; exact HYE2.out)
    clear hmm hb q0 q1 q2 q3
    cases mm with
    | false =>
     have HNO := Lib.hid (show getO l = none from by
      rw [HY2.out]; rfl)
     have d0 : w8.cell? ⟨b2, 0, none⟩ = some (.int .i64 0) := HC28.out.at 0 _ rfl
     have d1 : w8.cell? ⟨b2, 1, none⟩ = some (.string ⟨#[]⟩) := HC28.out.at 1 _ rfl
     have d2 : w8.cell? ⟨b2, 2, none⟩ = some (.string ⟨#[]⟩) := HC28.out.at 2 _ rfl
     have d3 : w8.cell? ⟨b2, 3, none⟩ = some (.int .i64 0) := HC28.out.at 3 _ rfl
     have g0 : w8.frozen? ⟨b2, 0, none⟩ = false := HC28.out.free 0
     have g1 : w8.frozen? ⟨b2, 1, none⟩ = false := HC28.out.free 1
     have g2 : w8.frozen? ⟨b2, 2, none⟩ = false := HC28.out.free 2
     have g3 : w8.frozen? ⟨b2, 3, none⟩ = false := HC28.out.free 3
     go_wp2_with fail
     generalize hwF : World.setCell (World.setCell (World.setCell (World.setCell _ _ _) _ _) _ _) _ _ = wF
     have HCF := Lib.hid (show Cel wF b2 39 zeroOp by rw [← hwF]; exact (((HC28.out.set 0 _).set 1 _).set 2 _).set 3 _)
     have HBF := Lib.hid (show Below w.heap.size w wF by rw [← hwF]; exact (((only_set _ _ _ _).trans (only_set _ _ _ _)).trans ((only_set _ _ _ _).trans (only_set _ _ _ _))).below HB8.out HLO.out)
     clear hwF
     refine bodyPost_ret (v := .tuple #[.agg zeroOp.toArray, .slice none 0 0, .int .i64 2]) ?_ rfl (by show GetP l w _ _; unfold GetP; rw [HNO.out]; exact ⟨rfl, HBF.out⟩)
     have hl := run_loadVar_mid (P := Tryz.prog) wF b2 0 39 zeroOp _ HCF.out.range Tryz.underlying39 rfl (by kernel_rfl)
     simp [results, Tryz.results70, asAddr, hl, Result.andThen]
    | true =>
     have HYS := Lib.hid (show getO l = some (⟨(N : Int), key, E, 0⟩, R2) from HY2.out)
     have q0 : w8.cell? ⟨b5, 0, none⟩ = some (.int .i64 (N : Int)) := HC58.out.at 0 _ rfl
     have q1 : w8.cell? ⟨b5, 1, none⟩ = some (.string ⟨key.toArray⟩) := HC58.out.at 1 _ rfl
     have q2 : w8.cell? ⟨b5, 2, none⟩ = some (.string ⟨E.toArray⟩) := HC58.out.at 2 _ rfl
     have q3 : w8.cell? ⟨b5, 3, none⟩ = some (.int .i64 0) := HC58.out.at 3 _ rfl
     have d0 : w8.cell? ⟨b2, 0, none⟩ = some (.int .i64 0) := HC28.out.at 0 _ rfl
     have d1 : w8.cell? ⟨b2, 1, none⟩ = some (.string ⟨#[]⟩) := HC28.out.at 1 _ rfl
     have d2 : w8.cell? ⟨b2, 2, none⟩ = some (.string ⟨#[]⟩) := HC28.out.at 2 _ rfl
     have d3 : w8.cell? ⟨b2, 3, none⟩ = some (.int .i64 0) := HC28.out.at 3 _ rfl
     have g0 : w8.frozen? ⟨b2, 0, none⟩ = false := HC28.out.free 0
     have g1 : w8.frozen? ⟨b2, 1, none⟩ = false := HC28.out.free 1
     have g2 : w8.frozen? ⟨b2, 2, none⟩ = false := HC28.out.free 2
     have g3 : w8.frozen? ⟨b2, 3, none⟩ = false := HC28.out.free 3
     go_wp2_with fail
     generalize hwF : World.setCell (World.setCell (World.setCell (World.setCell _ _ _) _ _) _ _) _ _ = wF
     have hoF : Only w8 wF b2 := by rw [← hwF]; exact ((only_set _ _ _ _).trans (only_set _ _ _ _)).trans ((only_set _ _ _ _).trans (only_set _ _ _ _))
     have HCF := Lib.hid (show Cel wF b2 39 [.int .i64 (N : Int), .string ⟨key.toArray⟩, .string ⟨E.toArray⟩, .int .i64 0] by rw [← hwF]; exact (((HC28.out.set 0 _).set 1 _).set 2 _).set 3 _)
     have HE := Lib.hid (show Rd wF a10 R2.length c10 R2 ∧ (a10 = none → c10 = 0) ∧ Below w.heap.size w wF from ⟨(Past.of (Below.refl _ _) hoF).rd HR8.out.1 HR8.out.2.2, HR8.out.2.1, hoF.below HB8.out HLO.out⟩)
     clear hwF hoF
     refine bodyPost_ret (v := .tuple #[.agg #[.int .i64 (N : Int), .string ⟨key.toArray⟩, .string ⟨E.toArray⟩, .int .i64 0], .slice a10 R2.length c10, .int .i64 0]) ?_ rfl (by show GetP l w _ _; unfold GetP; rw [HYS.out]; exact ⟨a10, c10, rfl, HE.out⟩)
     have hl := run_loadVar_mid (P := Tryz.prog) wF b2 0 39 _ _ HCF.out.range Tryz.underlying39 rfl (by kernel_rfl)
     simp [results, Tryz.results70, asAddr, hl, Result.andThen]
end Go.Proofs.YtofadpodlaakbaaGreat
