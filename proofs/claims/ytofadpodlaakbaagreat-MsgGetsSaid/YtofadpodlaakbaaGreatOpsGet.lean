/- The walk of Get, of the layer ops. -/
import Derived.Test.YtofadpodlaakbaaGreatOpsGetK
import Derived.Test.YtofadpodlaakbaaGreatEncCutRef
namespace Go.Proofs.YtofadpodlaakbaaGreat
open Go.ChangeShapes Go.WideShapes Go.ChangeAt Go.RowKit
set_option linter.unusedVariables false
def zeroOp : List Value := [.int .i64 0, .string ⟨#[]⟩, .string ⟨#[]⟩, .int .i64 0]
def GetP (l : List UInt8) (w : World) (e : Ending) (w' : World) : Prop :=
 match getO l with
 | none => e = .returned (.tuple #[.agg zeroOp.toArray, .slice none 0 0, .int .i64 2]) ∧ Below w.heap.size w w'
 | some (o, r) => ∃ a c, e = .returned (.tuple #[o.val, .slice a r.length c, .int .i64 0]) ∧ Rd w' a r.length c r ∧ (a = none → c = 0) ∧ Below w.heap.size w w'
theorem info_op : (Tryz.prog.info? 39).map (·.size) = some 4 := by kernel_rfl
set_option maxRecDepth 100000 in
set_option maxHeartbeats 4000000 in
theorem opget_any (a : Option Addr) (n c : Nat) (l : List UInt8) (w : World) (hr : Rd w a n c l) (hac : a = none → c = 0) (hn : n ≤ 140737488351232) : Calls Tryz.prog 123 #[.slice a n c] w (GetP l w) := by
 obtain ⟨N, hN⟩ : ∃ N, N = (getL l).1 := ⟨_, rfl⟩
 obtain ⟨u, hu⟩ : ∃ u, u = (getL l).2 := ⟨_, rfl⟩
 have hNlt : N < 18446744073709551616 := by rw [hN]; exact getL_lt l
 have hun : u ≤ n := by rw [hu, ← hr.len]; exact getL_le l
 have HG := Lib.hid (fun w' (h : Rd w' a n c l) => get_any a n c l w' h hn)
 rw [← hN, ← hu] at HG
 obtain ⟨a', hs, hR, hac'⟩ := hr.sl hac u hun
 have e1 : ∀ w', (Instr.sliceAt 28 (.slice a n c) (some (.int .i64 (u : Int))) none none).run Tryz.prog w' = .ok (.slice a' (n - u) (c - u)) w' := fun w' => by rw [slice_at, slice_l w' a n c u hun, hs]
 have e2 : ∀ w', (Instr.slice 28 (.slice a n c) (some (.int .i64 (u : Int))) none none).run Tryz.prog w' = .ok (.slice a' (n - u) (c - u)) w' := fun w' => by rw [slice_l w' a n c u hun, hs]
 have HR := Lib.hid hr
 obtain ⟨R1, hR1⟩ : ∃ R1, R1 = l.drop u := ⟨_, rfl⟩
 have HR1 := Lib.hid (show ∀ w', Rd w' a n c l → Rd w' a' (n - u) (c - u) R1 from fun w' h => by
  have := hR n hun (Nat.le_refl _) w' h
  rwa [List.take_of_length_le (by rw [hr.len]; exact Nat.le_refl _), ← hR1] at this)
 have HH := Lib.hid (show N = (getL l).1 ∧ u = (getL l).2 ∧ u ≤ n ∧ l.length = n ∧ R1 = l.drop u from ⟨hN, hu, hun, hr.len, hR1⟩)
 clear hN hu hr hs hR hac hac' hR1
 go_enter Tryz.func123, Tryz.ntmps123
 go_upto_region 1 with fail
 obtain ⟨b2, hb2⟩ : ∃ b2, b2 = w.heap.size := ⟨_, rfl⟩
 have hC0 := Cel.new w 39 zeroOp
 rw [← hb2] at hC0 ⊢
 generalize hw1 : w.alloc (.cells _ _) = w1
 have HC1 := Lib.hid (show Cel w1 b2 39 zeroOp by rw [← hw1]; exact hC0)
 have HB1 := Lib.hid (show Below w.heap.size w w1 by rw [← hw1]; exact (Below.refl _ _).alloc (Nat.le_refl _) _)
 have HLO := Lib.hid (show w.heap.size ≤ b2 from Nat.le_of_eq hb2.symm)
 clear hC0 hw1 hb2
 go_wp2_with fail
 refine (HG.out _ (HR.out.below HB1.out)).mono ?_
 rintro e w' ⟨rfl, rfl⟩
 by_cases h0 : u = 0
 ·have HNO := Lib.hid (show getO l = none by unfold getO; rw [if_pos (.inl (by rw [← HH.out.2.1]; exact h0))])
  subst h0
  have d0 : w1.cell? ⟨b2, 0, none⟩ = some (.int .i64 0) := HC1.out.at 0 _ rfl
  have d1 : w1.cell? ⟨b2, 1, none⟩ = some (.string ⟨#[]⟩) := HC1.out.at 1 _ rfl
  have d2 : w1.cell? ⟨b2, 2, none⟩ = some (.string ⟨#[]⟩) := HC1.out.at 2 _ rfl
  have d3 : w1.cell? ⟨b2, 3, none⟩ = some (.int .i64 0) := HC1.out.at 3 _ rfl
  have g0 : w1.frozen? ⟨b2, 0, none⟩ = false := HC1.out.free 0
  have g1 : w1.frozen? ⟨b2, 1, none⟩ = false := HC1.out.free 1
  have g2 : w1.frozen? ⟨b2, 2, none⟩ = false := HC1.out.free 2
  have g3 : w1.frozen? ⟨b2, 3, none⟩ = false := HC1.out.free 3
  go_wp2_with fail
  generalize hwF : World.setCell (World.setCell (World.setCell (World.setCell _ _ _) _ _) _ _) _ _ = wF
  have HCF := Lib.hid (show Cel wF b2 39 zeroOp by rw [← hwF]; exact (((HC1.out.set 0 _).set 1 _).set 2 _).set 3 _)
  have HBF := Lib.hid (show Below w.heap.size w wF by rw [← hwF]; exact (((only_set _ _ _ _).trans (only_set _ _ _ _)).trans ((only_set _ _ _ _).trans (only_set _ _ _ _))).below HB1.out HLO.out)
  clear hwF
  refine bodyPost_ret (v := .tuple #[.agg zeroOp.toArray, .slice none 0 0, .int .i64 2]) ?_ rfl (by show GetP l w _ _; unfold GetP; rw [HNO.out]; exact ⟨rfl, HBF.out⟩)
  have hl := run_loadVar_mid (P := Tryz.prog) wF b2 0 39 zeroOp _ HCF.out.range Tryz.underlying39 rfl (by kernel_rfl)
  simp [results, Tryz.results123, asAddr, hl, Result.andThen]
 have h0' : ((u : Int) == 0) = false := by simpa using h0
 by_cases h4 : 4 ≤ N
 ·have HNO := Lib.hid (show getO l = none by unfold getO; rw [if_pos (.inr (by rw [← HH.out.1]; exact h4))])
  have d0 : w1.cell? ⟨b2, 0, none⟩ = some (.int .i64 0) := HC1.out.at 0 _ rfl
  have d1 : w1.cell? ⟨b2, 1, none⟩ = some (.string ⟨#[]⟩) := HC1.out.at 1 _ rfl
  have d2 : w1.cell? ⟨b2, 2, none⟩ = some (.string ⟨#[]⟩) := HC1.out.at 2 _ rfl
  have d3 : w1.cell? ⟨b2, 3, none⟩ = some (.int .i64 0) := HC1.out.at 3 _ rfl
  have g0 : w1.frozen? ⟨b2, 0, none⟩ = false := HC1.out.free 0
  have g1 : w1.frozen? ⟨b2, 1, none⟩ = false := HC1.out.free 1
  have g2 : w1.frozen? ⟨b2, 2, none⟩ = false := HC1.out.free 2
  have g3 : w1.frozen? ⟨b2, 3, none⟩ = false := HC1.out.free 3
  have h4' : decide ((4 : Int) ≤ (N : Int)) = true := decide_eq_true (by omega)
  go_wp2_with fail
  generalize hwF : World.setCell (World.setCell (World.setCell (World.setCell _ _ _) _ _) _ _) _ _ = wF
  have HCF := Lib.hid (show Cel wF b2 39 zeroOp by rw [← hwF]; exact (((HC1.out.set 0 _).set 1 _).set 2 _).set 3 _)
  have HBF := Lib.hid (show Below w.heap.size w wF by rw [← hwF]; exact (((only_set _ _ _ _).trans (only_set _ _ _ _)).trans ((only_set _ _ _ _).trans (only_set _ _ _ _))).below HB1.out HLO.out)
  clear hwF
  refine bodyPost_ret (v := .tuple #[.agg zeroOp.toArray, .slice none 0 0, .int .i64 2]) ?_ rfl (by show GetP l w _ _; unfold GetP; rw [HNO.out]; exact ⟨rfl, HBF.out⟩)
  have hl := run_loadVar_mid (P := Tryz.prog) wF b2 0 39 zeroOp _ HCF.out.range Tryz.underlying39 rfl (by kernel_rfl)
  simp [results, Tryz.results123, asAddr, hl, Result.andThen]
 have h4' : decide ((4 : Int) ≤ (N : Int)) = false := decide_eq_false (by omega)
 have hwN : IntKind.i64.wrap (N : Int) = (N : Int) := by rw [wrap_i64']; omega
 go_upto_region 5 with fail
 obtain ⟨b7, hb7⟩ : ∃ b7, b7 = w1.heap.size := ⟨_, rfl⟩
 have hC7 := Cel.new w1 39 [.int .i64 (N : Int), .string ⟨#[]⟩, .string ⟨#[]⟩, .int .i64 0]
 rw [← hb7] at hC7 ⊢
 generalize hw2 : w1.alloc (.cells _ _) = w2
 have hb12 : Below w1.heap.size w1 w2 := by rw [← hw2]; exact (Below.refl _ _).alloc (Nat.le_refl _) _
 have HC7 := Lib.hid (show Cel w2 b7 39 [.int .i64 (N : Int), .string ⟨#[]⟩, .string ⟨#[]⟩, .int .i64 0] by rw [← hw2]; exact hC7)
 have HC2 := Lib.hid (HC1.out.step hb12)
 have HB2 := Lib.hid (HB1.out.step hb12)
 have HNE := Lib.hid (show b2 ≠ b7 from by have := HC1.out.lt; omega)
 have HLO7 := Lib.hid (show w.heap.size ≤ b7 from by have := HB1.out.size; omega)
 clear hb7 hC7 hw2 hb12
 go_wp2_with fail
 refine (cut_any a' (n - u) (c - u) R1 8 w2 (HR1.out _ (HR.out.below HB2.out)) (by omega) (by decide) (by decide)).mono ?_
 rintro e w3 ⟨v, rfl, ho, hb⟩
 obtain ⟨key, hkey⟩ : ∃ key, key = cutT R1 8 := ⟨_, rfl⟩
 obtain ⟨R, hRR⟩ : ∃ R, R = cutR R1 8 := ⟨_, rfl⟩
 obtain ⟨is, his⟩ : ∃ is, is = cutIs R1 8 := ⟨_, rfl⟩
 rw [← hRR] at ho
 rw [← hkey, ← his]
 obtain ⟨a9, c9, rfl, hr9⟩ := Rd.of_own ho
 have hac9 := own_none ho
 have hne9 : ∀ x, a9 = some x → x.block ≠ b7 := by
  rintro x rfl
  have h1 := (ho.lt x.block rfl).1
  have h2 := HC7.out.lt
  omega
 have hC3 := HC7.out.step hb
 have d1 : w3.cell? ⟨b7, 1, none⟩ = some (.string ⟨#[]⟩) := hC3.at 1 _ rfl
 have f1 : w3.frozen? ⟨b7, 1, none⟩ = false := hC3.free 1
 have HK := Lib.hid (show key = cutT R1 8 ∧ R = cutR R1 8 ∧ is = cutIs R1 8 ∧ key.length ≤ 8 ∧ R.length ≤ n from ⟨hkey, hRR, his, by
   rw [hkey]
   by_cases h : cutIs R1 8 = true
   ·exact (cut_got h).2
   ·unfold cutT; rw [if_neg h]; decide, by
   have h1 : R1.length ≤ n := by rw [HH.out.2.2.2.2, List.length_drop, HH.out.2.2.2.1]; omega
   rw [hRR]; unfold cutR; split
   ·rw [List.length_drop, List.length_drop]; omega
   ·exact Nat.zero_le _⟩)
 have HC23 := Lib.hid (HC2.out.step hb)
 have HB3 := Lib.hid (HB2.out.step hb)
 have HC73 := Lib.hid hC3
 have HR3 := Lib.hid (show Rd w3 a9 R.length c9 R ∧ (a9 = none → c9 = 0) ∧ (∀ x, a9 = some x → x.block ≠ b7) from ⟨hr9, hac9, hne9⟩)
 clear hkey hRR his ho hr9 hac9 hne9 hC3 hb
 go_upto_region 7 with fail
 generalize hw4 : w3.setCell _ _ = w4
 have HC7' := Lib.hid (show Cel w4 b7 39 [.int .i64 (N : Int), .string ⟨key.toArray⟩, .string ⟨#[]⟩, .int .i64 0] by rw [← hw4]; exact HC73.out.set 1 _)
 have ho4 : Only w3 w4 b7 := by rw [← hw4]; exact only_set _ _ _ _
 have HC24 := Lib.hid (show Cel w4 b2 39 zeroOp from ho4.heap HC23.out HNE.out)
 have HB4 := Lib.hid (ho4.below HB3.out HLO7.out)
 have HR4 := Lib.hid (show Rd w4 a9 R.length c9 R from (Past.of (Below.refl _ _) ho4).rd HR3.out.1 HR3.out.2.2)
 clear hw4 ho4 d1 f1
 cases is with
 | false =>
  have HNO := Lib.hid (show getO l = none by
   unfold getO
   rw [if_neg (by rw [← HH.out.1, ← HH.out.2.1]; omega), ← HH.out.2.1, ← HH.out.2.2.2.2, if_neg (by rw [← HK.out.2.2.1]; decide)])
  have d0 : w4.cell? ⟨b2, 0, none⟩ = some (.int .i64 0) := HC24.out.at 0 _ rfl
  have d1 : w4.cell? ⟨b2, 1, none⟩ = some (.string ⟨#[]⟩) := HC24.out.at 1 _ rfl
  have d2 : w4.cell? ⟨b2, 2, none⟩ = some (.string ⟨#[]⟩) := HC24.out.at 2 _ rfl
  have d3 : w4.cell? ⟨b2, 3, none⟩ = some (.int .i64 0) := HC24.out.at 3 _ rfl
  have g0 : w4.frozen? ⟨b2, 0, none⟩ = false := HC24.out.free 0
  have g1 : w4.frozen? ⟨b2, 1, none⟩ = false := HC24.out.free 1
  have g2 : w4.frozen? ⟨b2, 2, none⟩ = false := HC24.out.free 2
  have g3 : w4.frozen? ⟨b2, 3, none⟩ = false := HC24.out.free 3
  go_wp2_with fail
  generalize hwF : World.setCell (World.setCell (World.setCell (World.setCell _ _ _) _ _) _ _) _ _ = wF
  have HCF := Lib.hid (show Cel wF b2 39 zeroOp by rw [← hwF]; exact (((HC24.out.set 0 _).set 1 _).set 2 _).set 3 _)
  have HBF := Lib.hid (show Below w.heap.size w wF by rw [← hwF]; exact (((only_set _ _ _ _).trans (only_set _ _ _ _)).trans ((only_set _ _ _ _).trans (only_set _ _ _ _))).below HB4.out HLO.out)
  clear hwF
  refine bodyPost_ret (v := .tuple #[.agg zeroOp.toArray, .slice none 0 0, .int .i64 2]) ?_ rfl (by show GetP l w _ _; unfold GetP; rw [HNO.out]; exact ⟨rfl, HBF.out⟩)
  have hl := run_loadVar_mid (P := Tryz.prog) wF b2 0 39 zeroOp _ HCF.out.range Tryz.underlying39 rfl (by kernel_rfl)
  simp [results, Tryz.results123, asAddr, hl, Result.andThen]
 | true =>
  have HYE := Lib.hid (show getO l = match getE N key R with | none => none | some (o, r) => if mayB o = true then some (o, r) else none by
   unfold getO
   rw [if_neg (by rw [← HH.out.1, ← HH.out.2.1]; omega), ← HH.out.2.1, ← HH.out.2.2.2.2, if_pos HK.out.2.2.1.symm, ← HH.out.1, ← HK.out.1, ← HK.out.2.1]
   cases getE N key R with
   | none => rfl
   | some p => rfl)
  rw [getE_end] at HYE
  obtain ⟨Is, hIs⟩ : ∃ Is, Is = endIs N R := ⟨_, rfl⟩
  obtain ⟨E, hE⟩ : ∃ E, E = endE N R := ⟨_, rfl⟩
  obtain ⟨NN, hNN⟩ : ∃ NN, NN = endN N R := ⟨_, rfl⟩
  obtain ⟨R2, hR2⟩ : ∃ R2, R2 = endR N R := ⟨_, rfl⟩
  have HEL := Lib.hid (show E.length ≤ 8 ∧ R2.length ≤ n from ⟨by rw [hE]; exact endE_len _ _, by rw [hR2]; exact Nat.le_trans (endR_len _ _) HK.out.2.2.2.2⟩)
  obtain ⟨x, y, z, zf, hxyz, hzf, hget, hent⟩ : ∃ x y z zf, kindOf (N : Int) = .agg #[x, y, z] ∧ z = .func (.func zf) #[] #[] ∧ (∀ w' (hC : Cel w' b7 39 [.int .i64 (N : Int), .string ⟨key.toArray⟩, .string ⟨#[]⟩, .int .i64 0]) (hr : Rd w' a9 R.length c9 R), Calls Tryz.prog zf #[.pointer (some ⟨b7, 0, none⟩), .slice a9 R.length c9] w' (EndP N key R b7 w')) ∧ (∀ args w', (callFunc zf args).run Tryz.prog w' = .ok (.enter zf args) w') := by
   by_cases hz : N = 0
   ·subst hz
    exact ⟨_, _, _, 98, rfl, rfl, fun w' hC hr => get3_any b7 key R a9 R.length c9 w' hC hr HR3.out.2.1 HR3.out.2.2 (Nat.le_trans HK.out.2.2.2.2 hn), enters_body Tryz.func98 (by kernel_rfl) rfl⟩
   ·refine ⟨fnV 100, fnV 101, _, 102, ?_, rfl, fun w' hC hr => get6_any N b7 hz key R a9 R.length c9 w' hC hr (Nat.le_trans HK.out.2.2.2.2 hn), enters_body Tryz.func102 (by kernel_rfl) rfl⟩
    have h3 : N = 1 ∨ N = 2 ∨ N = 3 := by omega
    rcases h3 with h3 | h3 | h3 <;> rw [h3] <;> rfl
  subst hzf
  unfold EndP at hget
  rw [← hIs, ← hE, ← hNN, ← hR2] at hget HYE
  have HGET := Lib.hid hget
  have HENT := Lib.hid hent
  have HL := Lib.hid (show ∀ w' r, w'.heap[r]? = some (.map kindsE 4) → (Instr.lookup 112 (.map (some r)) (.int .i64 (N : Int)) false).run Tryz.prog w' = .ok (.agg #[x, y, .func (.func zf) #[] #[]]) w' from fun w' r h => by
   have := run_look h (N : Int) false
   rw [if_neg (by decide), hxyz] at this
   exact this)
  clear hIs hE hNN hR2 hget hent hxyz
  go_upto_region 8 with fail
  have hD : ∀ j, j < 12 → ∀ n, n < 12 → j ≠ n → dkN [38, 39, 40, 41, 42, 43, 44, 37, 45, 46, 9, 10] j ≠ dkN [38, 39, 40, 41, 42, 43, 44, 37, 45, 46, 9, 10] n := by decide +kernel
  refine region_fun (by kernel_rfl) (by kernel_rfl) (fun gv => #[.slice a n c, undef, .pointer (some ⟨b2, 0, none⟩), .slice none 0 0, .int .i64 0, .int .u64 (N : Int), .int .i64 (u : Int), .pointer (some ⟨b7, 0, none⟩), .string ⟨key.toArray⟩, gv 9, gv 10, gv 11, gv 12, gv 13, gv 14, gv 15, gv 16, gv 17, gv 18, gv 19, gv 20, gv 21, gv 22, gv 23, gv 24, gv 25, gv 26, gv 27, gv 28, gv 29, gv 30, gv 31, gv 32, gv 33, gv 34, gv 35, gv 36, gv 37, gv 38, gv 39, gv 40, gv 41, gv 42, gv 43, gv 44, gv 45, gv 46, gv 47, gv 48, gv 49, gv 50, gv 51, gv 52, gv 53, gv 54, gv 55, gv 56, gv 57]) rfl (fun f gv wx => Below w.heap.size w wx ∧ (∀ j, j < 12 → (fun j => Nat.beq j 0 || Nat.beq j 6 || Nat.beq j 7 || Nat.beq j 8 || Nat.beq j 10) j = false → On f j → gv (dkN [38, 39, 40, 41, 42, 43, 44, 37, 45, 46, 9, 10] j) = vkN [undef, .pointer (some ⟨b7, 0, none⟩), .int .i64 (N : Int), .agg #[x, y, .func (.func zf) #[] #[]], .func (.func zf) #[] #[], .slice a9 R.length c9, undef, undef, undef, .bool Is, undef, .bool Is] j) ∧ ((On f 0 → ∃ r, gv 38 = .map (some r) ∧ wx.heap[r]? = some (.map kindsE 4))) ∧ ((On f 6 → ∃ a c, gv 44 = .tuple #[.slice a R2.length c, .bool Is] ∧ Rd wx a R2.length c R2 ∧ (a = none → c = 0) ∧ Cel wx b7 39 [.int .i64 (N : Int), .string ⟨key.toArray⟩, .string ⟨E.toArray⟩, .int .i64 NN])) ∧ ((On f 7 → On f 6 ∧ ∃ a c, gv 37 = .tuple #[.slice a R2.length c, .bool Is] ∧ Rd wx a R2.length c R2 ∧ (a = none → c = 0))) ∧ ((On f 8 → On f 6 ∧ ∃ a c, gv 45 = .slice a R2.length c ∧ Rd wx a R2.length c R2 ∧ (a = none → c = 0))) ∧ ((On f 10 → (On f 5 ∧ On f 6) ∧ ∃ a c, gv 9 = .slice a R2.length c ∧ Rd wx a R2.length c R2 ∧ (a = none → c = 0))) ∧ ((¬ On f 6 → Below w4.heap.size w4 wx)) ∧ ((¬ On f 10 → gv 9 = .slice a9 R.length c9)) ∧ (Cel wx b2 39 zeroOp)) ?_ ?_ ?_
  ·have hoff : ∀ j, ¬ On (Array.replicate 12 false) j := by
    intro j hj; simp only [On, Array.getD_eq_getD_getElem?, Array.getElem?_replicate] at hj; split at hj <;> simp at hj
   exact ⟨HB4.out.drew, fun j _ _ x => absurd x (hoff _), fun x => absurd x (hoff _), fun x => absurd x (hoff _), fun x => absurd x (hoff _), fun x => absurd x (hoff _), fun x => absurd x (hoff _), fun _ => (Below.refl _ _).drew, fun _ => rfl, HC24.out.step (Below.refl _ _).drew⟩
  ·rintro i' o' f gv wm hio hs' hn he ⟨hBx, P, Q0, Q6, Q7, Q8, Q10, N6, N10, A2⟩ KK hKK
   have hi' : i' < 12 := (Array.getElem?_eq_some_iff.1 hio).1
   replace hs' : f.size = 12 := hs'
   match i', hi' with
   | 0, _ =>
    cases hio
    have off : ¬ On f 0 := on_off (by omega) hn
    have HQ := Lib.hid (And.intro P (And.intro Q0 (And.intro Q6 (And.intro Q7 (And.intro Q8 (And.intro Q10 (And.intro N6 (And.intro N10 A2))))))))
    clear P Q0 Q6 Q7 Q8 Q10 N6 N10 A2
    go_simp
    refine (kinds_any _).mono ?_
    rintro e w6 ⟨r, rfl, hm, _, hb⟩
    obtain ⟨P, Q0, Q6, Q7, Q8, Q10, N6, N10, A2⟩ := HQ.out
    obtain ⟨bk, fw, fn⟩ := on3 (f := f) (i := 0) (by omega)
    exact hKK (upd gv 38 (.map (some r))) _ (by exact ⟨hBx.step hb, vals_step (n := 0) (v := .map (some r)) hD (by decide) (by omega) P (fun h => nomatch (show true = false from h)), fun _ => ⟨r, rfl, hm⟩, fun x => by obtain ⟨a6, c6, e9, hr6, hac6, hc6⟩ := Q6 (bk 6 (by decide) x); exact ⟨_, _, e9, hr6.below hb, hac6, hc6.step hb⟩, fun x => by obtain ⟨g7, a7, c7, e9, hr7, hac7⟩ := Q7 (bk 7 (by decide) x); exact ⟨fw _ g7, a7, c7, e9, hr7.below hb, hac7⟩, fun x => by obtain ⟨g8, a8, c8, e9, hr8, hac8⟩ := Q8 (bk 8 (by decide) x); exact ⟨fw _ g8, a8, c8, e9, hr8.below hb, hac8⟩, fun x => by obtain ⟨⟨g5, g10⟩, a10, c10, e9, hr10, hac10⟩ := Q10 (bk 10 (by decide) x); exact ⟨⟨fw _ g5, fw _ g10⟩, a10, c10, e9, hr10.below hb, hac10⟩, fun x => (N6 (fun y => x (fw 6 y))).step hb, fun x => N10 (fun y => x (fw 10 y)), A2.step hb⟩)
   | 1, _ =>
    cases hio
    have off : ¬ On f 1 := on_off (by omega) hn
    have HQ := Lib.hid (And.intro P (And.intro Q0 (And.intro Q6 (And.intro Q7 (And.intro Q8 (And.intro Q10 (And.intro N6 (And.intro N10 A2))))))))
    clear P Q0 Q6 Q7 Q8 Q10 N6 N10 A2
    go_simp
    obtain ⟨P, Q0, Q6, Q7, Q8, Q10, N6, N10, A2⟩ := HQ.out
    obtain ⟨bk, fw, fn⟩ := on3 (f := f) (i := 1) (by omega)
    exact hKK (upd gv 39 (.pointer (some ⟨b7, 0, none⟩))) _ (by exact ⟨hBx, vals_step (n := 1) (v := .pointer (some ⟨b7, 0, none⟩)) hD (by decide) (by omega) P (fun _ => rfl), fun x => Q0 (bk 0 (by decide) x), fun x => Q6 (bk 6 (by decide) x), fun x => by obtain ⟨g7, a7, c7, e9, hr7, hac7⟩ := Q7 (bk 7 (by decide) x); exact ⟨fw _ g7, a7, c7, e9, hr7, hac7⟩, fun x => by obtain ⟨g8, a8, c8, e9, hr8, hac8⟩ := Q8 (bk 8 (by decide) x); exact ⟨fw _ g8, a8, c8, e9, hr8, hac8⟩, fun x => by obtain ⟨⟨g5, g10⟩, a10, c10, e9, hr10, hac10⟩ := Q10 (bk 10 (by decide) x); exact ⟨⟨fw _ g5, fw _ g10⟩, a10, c10, e9, hr10, hac10⟩, fun x => N6 (fun y => x (fw 6 y)), fun x => N10 (fun y => x (fw 10 y)), A2⟩)
   | 2, _ =>
    cases hio
    have off : ¬ On f 2 := on_off (by omega) hn
    have h1 : On f 1 := he ⟨1, .data⟩ (by simp) rfl
    have e1 : gv 39 = .pointer (some ⟨b7, 0, none⟩) := P 1 (by decide) rfl h1
    have c0 : wm.cell? ⟨b7, 0, none⟩ = some (.int .i64 (N : Int)) := by
     by_cases h6 : On f 6
     ·obtain ⟨_, _, _, _, _, hc⟩ := Q6 h6; exact hc.at 0 _ rfl
     ·exact (HC7'.out.step (N6 h6)).at 0 _ rfl
    rw [e1]
    have HQ := Lib.hid (And.intro P (And.intro Q0 (And.intro Q6 (And.intro Q7 (And.intro Q8 (And.intro Q10 (And.intro N6 (And.intro N10 A2))))))))
    clear P Q0 Q6 Q7 Q8 Q10 N6 N10 A2
    go_simp
    obtain ⟨P, Q0, Q6, Q7, Q8, Q10, N6, N10, A2⟩ := HQ.out
    obtain ⟨bk, fw, fn⟩ := on3 (f := f) (i := 2) (by omega)
    exact hKK (upd (upd gv 39 (.pointer (some ⟨b7, 0, none⟩))) 40 (.int .i64 (N : Int))) _ (by rw [upd_same e1]; exact ⟨hBx, vals_step (n := 2) (v := .int .i64 (N : Int)) hD (by decide) (by omega) P (fun _ => rfl), fun x => Q0 (bk 0 (by decide) x), fun x => Q6 (bk 6 (by decide) x), fun x => by obtain ⟨g7, a7, c7, e9, hr7, hac7⟩ := Q7 (bk 7 (by decide) x); exact ⟨fw _ g7, a7, c7, e9, hr7, hac7⟩, fun x => by obtain ⟨g8, a8, c8, e9, hr8, hac8⟩ := Q8 (bk 8 (by decide) x); exact ⟨fw _ g8, a8, c8, e9, hr8, hac8⟩, fun x => by obtain ⟨⟨g5, g10⟩, a10, c10, e9, hr10, hac10⟩ := Q10 (bk 10 (by decide) x); exact ⟨⟨fw _ g5, fw _ g10⟩, a10, c10, e9, hr10, hac10⟩, fun x => N6 (fun y => x (fw 6 y)), fun x => N10 (fun y => x (fw 10 y)), A2⟩)
   | 3, _ =>
    cases hio
    have off : ¬ On f 3 := on_off (by omega) hn
    have h0 : On f 0 := he ⟨0, .data⟩ (by simp) rfl
    obtain ⟨r, e0, hm⟩ := Q0 h0
    have h2 : On f 2 := he ⟨2, .data⟩ (by simp) rfl
    have e2 : gv 40 = .int .i64 (N : Int) := P 2 (by decide) rfl h2
    have hlk := HL.out wm r hm
    rw [e0, e2]
    have HQ := Lib.hid (And.intro P (And.intro Q0 (And.intro Q6 (And.intro Q7 (And.intro Q8 (And.intro Q10 (And.intro N6 (And.intro N10 A2))))))))
    clear P Q0 Q6 Q7 Q8 Q10 N6 N10 A2
    go_simp
    obtain ⟨P, Q0, Q6, Q7, Q8, Q10, N6, N10, A2⟩ := HQ.out
    obtain ⟨bk, fw, fn⟩ := on3 (f := f) (i := 3) (by omega)
    exact hKK (upd (upd (upd gv 38 (.map (some r))) 40 (.int .i64 (N : Int))) 41 (.agg #[x, y, .func (.func zf) #[] #[]])) _ (by rw [upd_same e0]; rw [upd_same e2]; exact ⟨hBx, vals_step (n := 3) (v := .agg #[x, y, .func (.func zf) #[] #[]]) hD (by decide) (by omega) P (fun _ => rfl), fun x => Q0 (bk 0 (by decide) x), fun x => Q6 (bk 6 (by decide) x), fun x => by obtain ⟨g7, a7, c7, e9, hr7, hac7⟩ := Q7 (bk 7 (by decide) x); exact ⟨fw _ g7, a7, c7, e9, hr7, hac7⟩, fun x => by obtain ⟨g8, a8, c8, e9, hr8, hac8⟩ := Q8 (bk 8 (by decide) x); exact ⟨fw _ g8, a8, c8, e9, hr8, hac8⟩, fun x => by obtain ⟨⟨g5, g10⟩, a10, c10, e9, hr10, hac10⟩ := Q10 (bk 10 (by decide) x); exact ⟨⟨fw _ g5, fw _ g10⟩, a10, c10, e9, hr10, hac10⟩, fun x => N6 (fun y => x (fw 6 y)), fun x => N10 (fun y => x (fw 10 y)), A2⟩)
   | 4, _ =>
    cases hio
    have off : ¬ On f 4 := on_off (by omega) hn
    have h3 : On f 3 := he ⟨3, .data⟩ (by simp) rfl
    have e3 : gv 41 = .agg #[x, y, .func (.func zf) #[] #[]] := P 3 (by decide) rfl h3
    rw [e3]
    have HQ := Lib.hid (And.intro P (And.intro Q0 (And.intro Q6 (And.intro Q7 (And.intro Q8 (And.intro Q10 (And.intro N6 (And.intro N10 A2))))))))
    clear P Q0 Q6 Q7 Q8 Q10 N6 N10 A2
    go_simp
    obtain ⟨P, Q0, Q6, Q7, Q8, Q10, N6, N10, A2⟩ := HQ.out
    obtain ⟨bk, fw, fn⟩ := on3 (f := f) (i := 4) (by omega)
    exact hKK (upd (upd gv 41 (.agg #[x, y, .func (.func zf) #[] #[]])) 42 (.func (.func zf) #[] #[])) _ (by rw [upd_same e3]; exact ⟨hBx, vals_step (n := 4) (v := .func (.func zf) #[] #[]) hD (by decide) (by omega) P (fun _ => rfl), fun x => Q0 (bk 0 (by decide) x), fun x => Q6 (bk 6 (by decide) x), fun x => by obtain ⟨g7, a7, c7, e9, hr7, hac7⟩ := Q7 (bk 7 (by decide) x); exact ⟨fw _ g7, a7, c7, e9, hr7, hac7⟩, fun x => by obtain ⟨g8, a8, c8, e9, hr8, hac8⟩ := Q8 (bk 8 (by decide) x); exact ⟨fw _ g8, a8, c8, e9, hr8, hac8⟩, fun x => by obtain ⟨⟨g5, g10⟩, a10, c10, e9, hr10, hac10⟩ := Q10 (bk 10 (by decide) x); exact ⟨⟨fw _ g5, fw _ g10⟩, a10, c10, e9, hr10, hac10⟩, fun x => N6 (fun y => x (fw 6 y)), fun x => N10 (fun y => x (fw 10 y)), A2⟩)
   | 5, _ =>
    cases hio
    have off : ¬ On f 5 := on_off (by omega) hn
    have e9 : gv 9 = .slice a9 R.length c9 := N10 (fun y => off (Q10 y).1.1)
    rw [e9]
    have HQ := Lib.hid (And.intro P (And.intro Q0 (And.intro Q6 (And.intro Q7 (And.intro Q8 (And.intro Q10 (And.intro N6 (And.intro N10 A2))))))))
    clear P Q0 Q6 Q7 Q8 Q10 N6 N10 A2
    go_simp
    obtain ⟨P, Q0, Q6, Q7, Q8, Q10, N6, N10, A2⟩ := HQ.out
    obtain ⟨bk, fw, fn⟩ := on3 (f := f) (i := 5) (by omega)
    exact hKK (upd (upd gv 9 (.slice a9 R.length c9)) 43 (.slice a9 R.length c9)) _ (by rw [upd_same e9]; exact ⟨hBx, vals_step (n := 5) (v := .slice a9 R.length c9) hD (by decide) (by omega) P (fun _ => rfl), fun x => Q0 (bk 0 (by decide) x), fun x => Q6 (bk 6 (by decide) x), fun x => by obtain ⟨g7, a7, c7, e9, hr7, hac7⟩ := Q7 (bk 7 (by decide) x); exact ⟨fw _ g7, a7, c7, e9, hr7, hac7⟩, fun x => by obtain ⟨g8, a8, c8, e9, hr8, hac8⟩ := Q8 (bk 8 (by decide) x); exact ⟨fw _ g8, a8, c8, e9, hr8, hac8⟩, fun x => by obtain ⟨⟨g5, g10⟩, a10, c10, e9, hr10, hac10⟩ := Q10 (bk 10 (by decide) x); exact ⟨⟨fw _ g5, fw _ g10⟩, a10, c10, e9, hr10, hac10⟩, fun x => N6 (fun y => x (fw 6 y)), fun x => N10 (fun y => x (fw 10 y)), A2⟩)
   | 6, _ =>
    cases hio
    have off : ¬ On f 6 := on_off (by omega) hn
    have h4 : On f 4 := he ⟨4, .data⟩ (by simp) rfl
    have e4 : gv 42 = .func (.func zf) #[] #[] := P 4 (by decide) rfl h4
    have h5 : On f 5 := he ⟨5, .data⟩ (by simp) rfl
    have e5 : gv 43 = .slice a9 R.length c9 := P 5 (by decide) rfl h5
    have nb := N6 off
    have hent := HENT.out
    rw [e4, e5]
    have HQ := Lib.hid (And.intro P (And.intro Q0 (And.intro Q6 (And.intro Q7 (And.intro Q8 (And.intro Q10 (And.intro N6 (And.intro N10 A2))))))))
    clear P Q0 Q6 Q7 Q8 Q10 N6 N10 A2
    go_simp
    refine (HGET.out wm (HC7'.out.step nb) (HR4.out.below nb)).mono ?_
    rintro e w6 ⟨a6, c6, rfl, hr6, hac6, hc6, hp6⟩
    obtain ⟨P, Q0, Q6, Q7, Q8, Q10, N6, N10, A2⟩ := HQ.out
    obtain ⟨bk, fw, fn⟩ := on3 (f := f) (i := 6) (by omega)
    exact hKK (upd (upd (upd gv 42 (.func (.func zf) #[] #[])) 43 (.slice a9 R.length c9)) 44 (.tuple #[.slice a6 R2.length c6, .bool Is])) _ (by rw [upd_same e4]; rw [upd_same e5]; exact ⟨hp6.below hBx HLO7.out, vals_step (n := 6) (v := .tuple #[.slice a6 R2.length c6, .bool Is]) hD (by decide) (by omega) P (fun h => nomatch (show true = false from h)), fun x => by obtain ⟨r', e9, hm'⟩ := Q0 (bk 0 (by decide) x); exact ⟨r', e9, (hp6.block r' (Array.getElem?_eq_some_iff.1 hm').1 (fun h => by rw [h, show wm.heap[b7]? = _ from HC7'.out.step nb] at hm'; cases hm')).trans hm'⟩, fun _ => ⟨a6, c6, rfl, hr6, hac6, hc6⟩, fun x => absurd (Q7 (bk 7 (by decide) x)).1 off, fun x => absurd (Q8 (bk 8 (by decide) x)).1 off, fun x => absurd (Q10 (bk 10 (by decide) x)).1.2 off, fun x => absurd fn x, fun x => N10 (fun y => x (fw 10 y)), hp6.cel A2 HNE.out⟩)
   | 7, _ =>
    cases hio
    have off : ¬ On f 7 := on_off (by omega) hn
    have h6 : On f 6 := he ⟨6, .data⟩ (by simp) rfl
    obtain ⟨a6, c6, e6, hr6, hac6, hc6⟩ := Q6 h6
    rw [e6]
    have HQ := Lib.hid (And.intro P (And.intro Q0 (And.intro Q6 (And.intro Q7 (And.intro Q8 (And.intro Q10 (And.intro N6 (And.intro N10 A2))))))))
    clear P Q0 Q6 Q7 Q8 Q10 N6 N10 A2
    go_simp
    obtain ⟨P, Q0, Q6, Q7, Q8, Q10, N6, N10, A2⟩ := HQ.out
    obtain ⟨bk, fw, fn⟩ := on3 (f := f) (i := 7) (by omega)
    exact hKK (upd (upd gv 44 (.tuple #[.slice a6 R2.length c6, .bool Is])) 37 (.tuple #[.slice a6 R2.length c6, .bool Is])) _ (by rw [upd_same e6]; exact ⟨hBx, vals_step (n := 7) (v := .tuple #[.slice a6 R2.length c6, .bool Is]) hD (by decide) (by omega) P (fun h => nomatch (show true = false from h)), fun x => Q0 (bk 0 (by decide) x), fun x => Q6 (bk 6 (by decide) x), fun _ => ⟨fw _ h6, a6, c6, rfl, hr6, hac6⟩, fun x => by obtain ⟨g8, a8, c8, e9, hr8, hac8⟩ := Q8 (bk 8 (by decide) x); exact ⟨fw _ g8, a8, c8, e9, hr8, hac8⟩, fun x => by obtain ⟨⟨g5, g10⟩, a10, c10, e9, hr10, hac10⟩ := Q10 (bk 10 (by decide) x); exact ⟨⟨fw _ g5, fw _ g10⟩, a10, c10, e9, hr10, hac10⟩, fun x => N6 (fun y => x (fw 6 y)), fun x => N10 (fun y => x (fw 10 y)), A2⟩)
   | 8, _ =>
    cases hio
    have off : ¬ On f 8 := on_off (by omega) hn
    have h7 : On f 7 := he ⟨7, .data⟩ (by simp) rfl
    obtain ⟨g7, a7, c7, e7, hr7, hac7⟩ := Q7 h7
    rw [e7]
    have HQ := Lib.hid (And.intro P (And.intro Q0 (And.intro Q6 (And.intro Q7 (And.intro Q8 (And.intro Q10 (And.intro N6 (And.intro N10 A2))))))))
    clear P Q0 Q6 Q7 Q8 Q10 N6 N10 A2
    go_simp
    obtain ⟨P, Q0, Q6, Q7, Q8, Q10, N6, N10, A2⟩ := HQ.out
    obtain ⟨bk, fw, fn⟩ := on3 (f := f) (i := 8) (by omega)
    exact hKK (upd (upd gv 37 (.tuple #[.slice a7 R2.length c7, .bool Is])) 45 (.slice a7 R2.length c7)) _ (by rw [upd_same e7]; exact ⟨hBx, vals_step (n := 8) (v := .slice a7 R2.length c7) hD (by decide) (by omega) P (fun h => nomatch (show true = false from h)), fun x => Q0 (bk 0 (by decide) x), fun x => Q6 (bk 6 (by decide) x), fun x => by obtain ⟨g7, a7, c7, e9, hr7, hac7⟩ := Q7 (bk 7 (by decide) x); exact ⟨fw _ g7, a7, c7, e9, hr7, hac7⟩, fun _ => ⟨fw _ g7, a7, c7, rfl, hr7, hac7⟩, fun x => by obtain ⟨⟨g5, g10⟩, a10, c10, e9, hr10, hac10⟩ := Q10 (bk 10 (by decide) x); exact ⟨⟨fw _ g5, fw _ g10⟩, a10, c10, e9, hr10, hac10⟩, fun x => N6 (fun y => x (fw 6 y)), fun x => N10 (fun y => x (fw 10 y)), A2⟩)
   | 9, _ =>
    cases hio
    have off : ¬ On f 9 := on_off (by omega) hn
    have h7 : On f 7 := he ⟨7, .data⟩ (by simp) rfl
    obtain ⟨g7, a7, c7, e7, hr7, hac7⟩ := Q7 h7
    rw [e7]
    have HQ := Lib.hid (And.intro P (And.intro Q0 (And.intro Q6 (And.intro Q7 (And.intro Q8 (And.intro Q10 (And.intro N6 (And.intro N10 A2))))))))
    clear P Q0 Q6 Q7 Q8 Q10 N6 N10 A2
    go_simp
    obtain ⟨P, Q0, Q6, Q7, Q8, Q10, N6, N10, A2⟩ := HQ.out
    obtain ⟨bk, fw, fn⟩ := on3 (f := f) (i := 9) (by omega)
    exact hKK (upd (upd gv 37 (.tuple #[.slice a7 R2.length c7, .bool Is])) 46 (.bool Is)) _ (by rw [upd_same e7]; exact ⟨hBx, vals_step (n := 9) (v := .bool Is) hD (by decide) (by omega) P (fun _ => rfl), fun x => Q0 (bk 0 (by decide) x), fun x => Q6 (bk 6 (by decide) x), fun x => by obtain ⟨g7, a7, c7, e9, hr7, hac7⟩ := Q7 (bk 7 (by decide) x); exact ⟨fw _ g7, a7, c7, e9, hr7, hac7⟩, fun x => by obtain ⟨g8, a8, c8, e9, hr8, hac8⟩ := Q8 (bk 8 (by decide) x); exact ⟨fw _ g8, a8, c8, e9, hr8, hac8⟩, fun x => by obtain ⟨⟨g5, g10⟩, a10, c10, e9, hr10, hac10⟩ := Q10 (bk 10 (by decide) x); exact ⟨⟨fw _ g5, fw _ g10⟩, a10, c10, e9, hr10, hac10⟩, fun x => N6 (fun y => x (fw 6 y)), fun x => N10 (fun y => x (fw 10 y)), A2⟩)
   | 10, _ =>
    cases hio
    have off : ¬ On f 10 := on_off (by omega) hn
    have h8 : On f 8 := he ⟨8, .data⟩ (by simp) rfl
    obtain ⟨g8, a8, c8, e8, hr8, hac8⟩ := Q8 h8
    have h5 : On f 5 := he ⟨5, .phase⟩ (by simp) rfl
    rw [e8]
    have HQ := Lib.hid (And.intro P (And.intro Q0 (And.intro Q6 (And.intro Q7 (And.intro Q8 (And.intro Q10 (And.intro N6 (And.intro N10 A2))))))))
    clear P Q0 Q6 Q7 Q8 Q10 N6 N10 A2
    go_simp
    obtain ⟨P, Q0, Q6, Q7, Q8, Q10, N6, N10, A2⟩ := HQ.out
    obtain ⟨bk, fw, fn⟩ := on3 (f := f) (i := 10) (by omega)
    exact hKK (upd (upd gv 45 (.slice a8 R2.length c8)) 9 (.slice a8 R2.length c8)) _ (by rw [upd_same e8]; exact ⟨hBx, vals_step (n := 10) (v := .slice a8 R2.length c8) hD (by decide) (by omega) P (fun h => nomatch (show true = false from h)), fun x => Q0 (bk 0 (by decide) x), fun x => Q6 (bk 6 (by decide) x), fun x => by obtain ⟨g7, a7, c7, e9, hr7, hac7⟩ := Q7 (bk 7 (by decide) x); exact ⟨fw _ g7, a7, c7, e9, hr7, hac7⟩, fun x => by obtain ⟨g8, a8, c8, e9, hr8, hac8⟩ := Q8 (bk 8 (by decide) x); exact ⟨fw _ g8, a8, c8, e9, hr8, hac8⟩, fun _ => ⟨⟨fw _ h5, fw _ g8⟩, a8, c8, rfl, hr8, hac8⟩, fun x => N6 (fun y => x (fw 6 y)), fun x => absurd fn x, A2⟩)
   | 11, _ =>
    cases hio
    have off : ¬ On f 11 := on_off (by omega) hn
    have h9 : On f 9 := he ⟨9, .data⟩ (by simp) rfl
    have e9 : gv 46 = .bool Is := P 9 (by decide) rfl h9
    rw [e9]
    have HQ := Lib.hid (And.intro P (And.intro Q0 (And.intro Q6 (And.intro Q7 (And.intro Q8 (And.intro Q10 (And.intro N6 (And.intro N10 A2))))))))
    clear P Q0 Q6 Q7 Q8 Q10 N6 N10 A2
    go_simp
    obtain ⟨P, Q0, Q6, Q7, Q8, Q10, N6, N10, A2⟩ := HQ.out
    obtain ⟨bk, fw, fn⟩ := on3 (f := f) (i := 11) (by omega)
    exact hKK (upd (upd gv 46 (.bool Is)) 10 (.bool Is)) _ (by rw [upd_same e9]; exact ⟨hBx, vals_step (n := 11) (v := .bool Is) hD (by decide) (by omega) P (fun _ => rfl), fun x => Q0 (bk 0 (by decide) x), fun x => Q6 (bk 6 (by decide) x), fun x => by obtain ⟨g7, a7, c7, e9, hr7, hac7⟩ := Q7 (bk 7 (by decide) x); exact ⟨fw _ g7, a7, c7, e9, hr7, hac7⟩, fun x => by obtain ⟨g8, a8, c8, e9, hr8, hac8⟩ := Q8 (bk 8 (by decide) x); exact ⟨fw _ g8, a8, c8, e9, hr8, hac8⟩, fun x => by obtain ⟨⟨g5, g10⟩, a10, c10, e9, hr10, hac10⟩ := Q10 (bk 10 (by decide) x); exact ⟨⟨fw _ g5, fw _ g10⟩, a10, c10, e9, hr10, hac10⟩, fun x => N6 (fun y => x (fw 6 y)), fun x => N10 (fun y => x (fw 10 y)), A2⟩)
  ·rintro f gv w5 hall hs' ⟨hBx, P, Q0, Q6, Q7, Q8, Q10, N6, N10, A2⟩
   replace hs' : f.size = 12 := hs'
   have on : ∀ j, j < 12 → On f j := fun j hj => on_all hall hs' j hj
   obtain ⟨a6, c6, e37, hr6, hac6, hC75⟩ := Q6 (on 6 (by decide))
   obtain ⟨_, a10, c10, e9, hr10, hac10⟩ := Q10 (on 10 (by decide))
   have e10 : gv 10 = .bool Is := P 11 (by decide) rfl (on 11 (by decide))
   have HC75 := Lib.hid hC75
   have HC25 := Lib.hid A2
   have HB5 := Lib.hid hBx
   have HR5 := Lib.hid (show Rd w5 a10 R2.length c10 R2 ∧ (a10 = none → c10 = 0) from ⟨hr10, hac10⟩)
   rw [e9, e10]
   clear P Q0 Q6 Q7 Q8 Q10 N6 N10 A2 hBx hall hs' on e37 e9 e10 hr6 hac6 hC75 hr10 hac10 hD
   cases Is with
   | false =>
    have HNO := Lib.hid (show getO l = none by rw [HYE.out]; rfl)
    have d0 : w5.cell? ⟨b2, 0, none⟩ = some (.int .i64 0) := HC25.out.at 0 _ rfl
    have d1 : w5.cell? ⟨b2, 1, none⟩ = some (.string ⟨#[]⟩) := HC25.out.at 1 _ rfl
    have d2 : w5.cell? ⟨b2, 2, none⟩ = some (.string ⟨#[]⟩) := HC25.out.at 2 _ rfl
    have d3 : w5.cell? ⟨b2, 3, none⟩ = some (.int .i64 0) := HC25.out.at 3 _ rfl
    have g0 : w5.frozen? ⟨b2, 0, none⟩ = false := HC25.out.free 0
    have g1 : w5.frozen? ⟨b2, 1, none⟩ = false := HC25.out.free 1
    have g2 : w5.frozen? ⟨b2, 2, none⟩ = false := HC25.out.free 2
    have g3 : w5.frozen? ⟨b2, 3, none⟩ = false := HC25.out.free 3
    go_wp2_with fail
    generalize hwF : World.setCell (World.setCell (World.setCell (World.setCell _ _ _) _ _) _ _) _ _ = wF
    have HCF := Lib.hid (show Cel wF b2 39 zeroOp by rw [← hwF]; exact (((HC25.out.set 0 _).set 1 _).set 2 _).set 3 _)
    have HBF := Lib.hid (show Below w.heap.size w wF by rw [← hwF]; exact (((only_set _ _ _ _).trans (only_set _ _ _ _)).trans ((only_set _ _ _ _).trans (only_set _ _ _ _))).below HB5.out HLO.out)
    clear hwF
    refine bodyPost_ret (v := .tuple #[.agg zeroOp.toArray, .slice none 0 0, .int .i64 2]) ?_ rfl (by show GetP l w _ _; unfold GetP; rw [HNO.out]; exact ⟨rfl, HBF.out⟩)
    have hl := run_loadVar_mid (P := Tryz.prog) wF b2 0 39 zeroOp _ HCF.out.range Tryz.underlying39 rfl (by kernel_rfl)
    simp [results, Tryz.results123, asAddr, hl, Result.andThen]
   | true =>
    have q0 : w5.cell? ⟨b7, 0, none⟩ = some (.int .i64 (N : Int)) := HC75.out.at 0 _ rfl
    have q1 : w5.cell? ⟨b7, 1, none⟩ = some (.string ⟨key.toArray⟩) := HC75.out.at 1 _ rfl
    have q2 : w5.cell? ⟨b7, 2, none⟩ = some (.string ⟨E.toArray⟩) := HC75.out.at 2 _ rfl
    have q3 : w5.cell? ⟨b7, 3, none⟩ = some (.int .i64 NN) := HC75.out.at 3 _ rfl
    go_wp2_with fail
    refine (may_any (N : Int) NN key E w5 (Nat.le_trans HK.out.2.2.2.1 (by decide)) (Nat.le_trans HEL.out.1 (by decide))).mono ?_
    rintro e w6 ⟨rfl, hb⟩
    obtain ⟨mm, hmm⟩ : ∃ mm, mm = mayB ⟨(N : Int), key, E, NN⟩ := ⟨_, rfl⟩
    rw [← hmm]
    have HC76 := Lib.hid (HC75.out.step hb)
    have HC26 := Lib.hid (HC25.out.step hb)
    have HB6 := Lib.hid (HB5.out.step hb)
    have HR6 := Lib.hid (show Rd w6 a10 R2.length c10 R2 ∧ (a10 = none → c10 = 0) from ⟨HR5.out.1.below hb, HR5.out.2⟩)
    have HY2 := Lib.hid (show getO l = if mm = true then some (⟨(N : Int), key, E, NN⟩, R2) else none by rw [hmm]; exact HYE.out)
    clear hmm hb q0 q1 q2 q3 HYE
    cases mm with
    | false =>
     have HNO := Lib.hid (show getO l = none by rw [HY2.out]; rfl)
     have d0 : w6.cell? ⟨b2, 0, none⟩ = some (.int .i64 0) := HC26.out.at 0 _ rfl
     have d1 : w6.cell? ⟨b2, 1, none⟩ = some (.string ⟨#[]⟩) := HC26.out.at 1 _ rfl
     have d2 : w6.cell? ⟨b2, 2, none⟩ = some (.string ⟨#[]⟩) := HC26.out.at 2 _ rfl
     have d3 : w6.cell? ⟨b2, 3, none⟩ = some (.int .i64 0) := HC26.out.at 3 _ rfl
     have g0 : w6.frozen? ⟨b2, 0, none⟩ = false := HC26.out.free 0
     have g1 : w6.frozen? ⟨b2, 1, none⟩ = false := HC26.out.free 1
     have g2 : w6.frozen? ⟨b2, 2, none⟩ = false := HC26.out.free 2
     have g3 : w6.frozen? ⟨b2, 3, none⟩ = false := HC26.out.free 3
     go_wp2_with fail
     generalize hwF : World.setCell (World.setCell (World.setCell (World.setCell _ _ _) _ _) _ _) _ _ = wF
     have HCF := Lib.hid (show Cel wF b2 39 zeroOp by rw [← hwF]; exact (((HC26.out.set 0 _).set 1 _).set 2 _).set 3 _)
     have HBF := Lib.hid (show Below w.heap.size w wF by rw [← hwF]; exact (((only_set _ _ _ _).trans (only_set _ _ _ _)).trans ((only_set _ _ _ _).trans (only_set _ _ _ _))).below HB6.out HLO.out)
     clear hwF
     refine bodyPost_ret (v := .tuple #[.agg zeroOp.toArray, .slice none 0 0, .int .i64 2]) ?_ rfl (by show GetP l w _ _; unfold GetP; rw [HNO.out]; exact ⟨rfl, HBF.out⟩)
     have hl := run_loadVar_mid (P := Tryz.prog) wF b2 0 39 zeroOp _ HCF.out.range Tryz.underlying39 rfl (by kernel_rfl)
     simp [results, Tryz.results123, asAddr, hl, Result.andThen]
    | true =>
     have HYS := Lib.hid (show getO l = some (⟨(N : Int), key, E, NN⟩, R2) from HY2.out)
     have HN63 := Lib.hid hn
     clear HY2 hn
     go_upto_region 11 with fail
     have hD : ∀ j, j < 6 → ∀ n, n < 6 → j ≠ n → dkN [55, 56, 57, 1003, 3, 4] j ≠ dkN [55, 56, 57, 1003, 3, 4] n := by decide +kernel
     refine region_fun (by kernel_rfl) (by kernel_rfl) (fun gv => #[.slice a n c, undef, .pointer (some ⟨b2, 0, none⟩), gv 3, gv 4, .int .u64 (N : Int), .int .i64 (u : Int), .pointer (some ⟨b7, 0, none⟩), .string ⟨key.toArray⟩, .slice a10 R2.length c10, .bool true, gv 11, gv 12, gv 13, gv 14, gv 15, gv 16, gv 17, gv 18, gv 19, gv 20, gv 21, gv 22, gv 23, gv 24, gv 25, gv 26, gv 27, gv 28, gv 29, gv 30, gv 31, gv 32, gv 33, gv 34, gv 35, gv 36, gv 37, gv 38, gv 39, gv 40, gv 41, gv 42, gv 43, gv 44, gv 45, gv 46, gv 47, gv 48, gv 49, gv 50, gv 51, gv 52, gv 53, gv 54, gv 55, gv 56, gv 57]) rfl (fun f gv wx => Below w.heap.size w wx ∧ (∀ j, j < 6 → (fun j => Nat.beq j 2 || Nat.beq j 4 || Nat.beq j 3) j = false → On f j → gv (dkN [55, 56, 57, 1003, 3, 4] j) = vkN [.agg #[.int .i64 (N : Int), .string ⟨key.toArray⟩, .string ⟨E.toArray⟩, .int .i64 NN], .slice a10 R2.length c10, undef, undef, undef, .int .i64 0] j) ∧ ((On f 2 → ∃ a c, gv 57 = .slice a R2.length c ∧ Rd wx a R2.length c R2 ∧ (a = none → c = 0) ∧ (∀ x, a = some x → x.block ≠ b2))) ∧ ((On f 4 → ∃ a c, gv 3 = .slice a R2.length c ∧ Rd wx a R2.length c R2 ∧ (a = none → c = 0) ∧ (∀ x, a = some x → x.block ≠ b2))) ∧ ((¬ On f 3 → Below w6.heap.size w6 wx)) ∧ ((On f 3 → On f 2)) ∧ ((On f 3 → Cel wx b2 39 [.int .i64 (N : Int), .string ⟨key.toArray⟩, .string ⟨E.toArray⟩, .int .i64 NN])) ∧ (Cel wx b7 39 [.int .i64 (N : Int), .string ⟨key.toArray⟩, .string ⟨E.toArray⟩, .int .i64 NN])) ?_ ?_ ?_
     ·have hoff : ∀ j, ¬ On (Array.replicate 6 false) j := by
       intro j hj; simp only [On, Array.getD_eq_getD_getElem?, Array.getElem?_replicate] at hj; split at hj <;> simp at hj
      exact ⟨HB6.out.drew, fun j _ _ x => absurd x (hoff _), fun x => absurd x (hoff _), fun x => absurd x (hoff _), fun _ => (Below.refl _ _).drew, fun x => absurd x (hoff _), fun x => absurd x (hoff _), HC76.out.step (Below.refl _ _).drew⟩
     ·rintro i' o' f gv wm hio hs' hn he ⟨hBx, P, Q2, Q4, N3, D3, R3, A7⟩ KK hKK
      have hi' : i' < 6 := (Array.getElem?_eq_some_iff.1 hio).1
      replace hs' : f.size = 6 := hs'
      match i', hi' with
      | 0, _ =>
       cases hio
       have off : ¬ On f 0 := on_off (by omega) hn
       have q0 : wm.cell? ⟨b7, 0, none⟩ = some (.int .i64 (N : Int)) := A7.at 0 _ rfl
       have q1 : wm.cell? ⟨b7, 1, none⟩ = some (.string ⟨key.toArray⟩) := A7.at 1 _ rfl
       have q2 : wm.cell? ⟨b7, 2, none⟩ = some (.string ⟨E.toArray⟩) := A7.at 2 _ rfl
       have q3 : wm.cell? ⟨b7, 3, none⟩ = some (.int .i64 NN) := A7.at 3 _ rfl
       have HQ := Lib.hid (And.intro P (And.intro Q2 (And.intro Q4 (And.intro N3 (And.intro D3 (And.intro R3 A7))))))
       clear P Q2 Q4 N3 D3 R3 A7
       go_simp
       obtain ⟨P, Q2, Q4, N3, D3, R3, A7⟩ := HQ.out
       obtain ⟨bk, fw, fn⟩ := on3 (f := f) (i := 0) (by omega)
       exact hKK (upd gv 55 (.agg #[.int .i64 (N : Int), .string ⟨key.toArray⟩, .string ⟨E.toArray⟩, .int .i64 NN])) _ (by exact ⟨hBx, vals_step (n := 0) (v := .agg #[.int .i64 (N : Int), .string ⟨key.toArray⟩, .string ⟨E.toArray⟩, .int .i64 NN]) hD (by decide) (by omega) P (fun _ => rfl), fun x => Q2 (bk 2 (by decide) x), fun x => Q4 (bk 4 (by decide) x), fun x => N3 (fun y => x (fw 3 y)), fun x => fw 2 (D3 (bk 3 (by decide) x)), fun x => R3 (bk 3 (by decide) x), A7⟩)
      | 1, _ =>
       cases hio
       have off : ¬ On f 1 := on_off (by omega) hn
       have HQ := Lib.hid (And.intro P (And.intro Q2 (And.intro Q4 (And.intro N3 (And.intro D3 (And.intro R3 A7))))))
       clear P Q2 Q4 N3 D3 R3 A7
       go_simp
       obtain ⟨P, Q2, Q4, N3, D3, R3, A7⟩ := HQ.out
       obtain ⟨bk, fw, fn⟩ := on3 (f := f) (i := 1) (by omega)
       exact hKK (upd gv 56 (.slice a10 R2.length c10)) _ (by exact ⟨hBx, vals_step (n := 1) (v := .slice a10 R2.length c10) hD (by decide) (by omega) P (fun _ => rfl), fun x => Q2 (bk 2 (by decide) x), fun x => Q4 (bk 4 (by decide) x), fun x => N3 (fun y => x (fw 3 y)), fun x => fw 2 (D3 (bk 3 (by decide) x)), fun x => R3 (bk 3 (by decide) x), A7⟩)
      | 2, _ =>
       cases hio
       have off : ¬ On f 2 := on_off (by omega) hn
       have h1 : On f 1 := he ⟨1, .data⟩ (by simp) rfl
       have e1 : gv 56 = .slice a10 R2.length c10 := P 1 (by decide) rfl h1
       have nb := N3 (fun y => off (D3 y))
       rw [e1]
       have HQ := Lib.hid (And.intro P (And.intro Q2 (And.intro Q4 (And.intro N3 (And.intro D3 (And.intro R3 A7))))))
       clear P Q2 Q4 N3 D3 R3 A7
       go_simp
       refine (clone_any a10 R2.length c10 R2 wm (HR6.out.1.below nb) HR6.out.2 (Nat.le_trans HEL.out.2 HN63.out)).mono ?_
       rintro e w8 ⟨v2, rfl, ho2, hb⟩
       obtain ⟨a2, c2, rfl, hr2⟩ := Rd.of_own ho2
       have hac2 := own_none ho2
       have hne2 : ∀ x, a2 = some x → x.block ≠ b2 := by
        rintro x rfl
        have h1 := (ho2.lt x.block rfl).1
        have h2 := (HC26.out.step nb).lt
        omega
       obtain ⟨P, Q2, Q4, N3, D3, R3, A7⟩ := HQ.out
       obtain ⟨bk, fw, fn⟩ := on3 (f := f) (i := 2) (by omega)
       exact hKK (upd (upd gv 56 (.slice a10 R2.length c10)) 57 (.slice a2 R2.length c2)) _ (by rw [upd_same e1]; exact ⟨hBx.step hb, vals_step (n := 2) (v := .slice a2 R2.length c2) hD (by decide) (by omega) P (fun h => nomatch (show true = false from h)), fun _ => ⟨a2, c2, rfl, hr2, hac2, hne2⟩, fun x => by obtain ⟨a4, c4, e9, hr4, hac4, hne4⟩ := Q4 (bk 4 (by decide) x); exact ⟨_, _, e9, hr4.below hb, hac4, hne4⟩, fun x => (N3 (fun y => x (fw 3 y))).step hb, fun x => fw 2 (D3 (bk 3 (by decide) x)), fun x => (R3 (bk 3 (by decide) x)).step hb, A7.step hb⟩)
      | 3, _ =>
       cases hio
       have off : ¬ On f 3 := on_off (by omega) hn
       have h0 : On f 0 := he ⟨0, .data⟩ (by simp) rfl
       have e0 : gv 55 = .agg #[.int .i64 (N : Int), .string ⟨key.toArray⟩, .string ⟨E.toArray⟩, .int .i64 NN] := P 0 (by decide) rfl h0
       have h2 : On f 2 := he ⟨2, .chain⟩ (by simp) rfl
       have nb := N3 off
       rw [e0]
       have HQ := Lib.hid (And.intro P (And.intro Q2 (And.intro Q4 (And.intro N3 (And.intro D3 (And.intro R3 A7))))))
       clear P Q2 Q4 N3 D3 R3 A7
       refine cel_store (by rfl) rfl 39 (.tmp 2) (.tmp 55) rfl rfl [.int .i64 (N : Int), .string ⟨key.toArray⟩, .string ⟨E.toArray⟩, .int .i64 NN] rfl (HC26.out.step nb) rfl info_op (by intro v hv; simp at hv; rcases hv with rfl | rfl | rfl | rfl <;> rfl) ?_
       intro w8 hc8 ho8
       obtain ⟨P, Q2, Q4, N3, D3, R3, A7⟩ := HQ.out
       obtain ⟨bk, fw, fn⟩ := on3 (f := f) (i := 3) (by omega)
       exact hKK (upd gv 55 (.agg #[.int .i64 (N : Int), .string ⟨key.toArray⟩, .string ⟨E.toArray⟩, .int .i64 NN])) _ (by rw [upd_same e0]; exact ⟨ho8.below hBx HLO.out, vals_keep (n := 3) (by omega) rfl P, fun x => by obtain ⟨a', c', e9, hr', hac', hne'⟩ := Q2 (bk 2 (by decide) x); exact ⟨a', c', e9, (Past.of (Below.refl _ _) ho8).rd hr' hne', hac', hne'⟩, fun x => by obtain ⟨a', c', e9, hr', hac', hne'⟩ := Q4 (bk 4 (by decide) x); exact ⟨a', c', e9, (Past.of (Below.refl _ _) ho8).rd hr' hne', hac', hne'⟩, fun x => absurd fn x, fun _ => fw 2 h2, fun _ => hc8, ho8.heap A7 (Ne.symm HNE.out)⟩)
      | 4, _ =>
       cases hio
       have off : ¬ On f 4 := on_off (by omega) hn
       have h2 : On f 2 := he ⟨2, .data⟩ (by simp) rfl
       obtain ⟨a2, c2, e2, hr2, hac2, hne2⟩ := Q2 h2
       rw [e2]
       have HQ := Lib.hid (And.intro P (And.intro Q2 (And.intro Q4 (And.intro N3 (And.intro D3 (And.intro R3 A7))))))
       clear P Q2 Q4 N3 D3 R3 A7
       go_simp
       obtain ⟨P, Q2, Q4, N3, D3, R3, A7⟩ := HQ.out
       obtain ⟨bk, fw, fn⟩ := on3 (f := f) (i := 4) (by omega)
       exact hKK (upd (upd gv 57 (.slice a2 R2.length c2)) 3 (.slice a2 R2.length c2)) _ (by rw [upd_same e2]; exact ⟨hBx, vals_step (n := 4) (v := .slice a2 R2.length c2) hD (by decide) (by omega) P (fun h => nomatch (show true = false from h)), fun x => Q2 (bk 2 (by decide) x), fun _ => ⟨a2, c2, rfl, hr2, hac2, hne2⟩, fun x => N3 (fun y => x (fw 3 y)), fun x => fw 2 (D3 (bk 3 (by decide) x)), fun x => R3 (bk 3 (by decide) x), A7⟩)
      | 5, _ =>
       cases hio
       have off : ¬ On f 5 := on_off (by omega) hn
       have HQ := Lib.hid (And.intro P (And.intro Q2 (And.intro Q4 (And.intro N3 (And.intro D3 (And.intro R3 A7))))))
       clear P Q2 Q4 N3 D3 R3 A7
       go_simp
       obtain ⟨P, Q2, Q4, N3, D3, R3, A7⟩ := HQ.out
       obtain ⟨bk, fw, fn⟩ := on3 (f := f) (i := 5) (by omega)
       exact hKK (upd gv 4 (.int .i64 0)) _ (by exact ⟨hBx, vals_step (n := 5) (v := .int .i64 0) hD (by decide) (by omega) P (fun _ => rfl), fun x => Q2 (bk 2 (by decide) x), fun x => Q4 (bk 4 (by decide) x), fun x => N3 (fun y => x (fw 3 y)), fun x => fw 2 (D3 (bk 3 (by decide) x)), fun x => R3 (bk 3 (by decide) x), A7⟩)
     ·rintro f gv w7 hall hs' ⟨hBx, P, Q2, Q4, N3, D3, R3, A7⟩
      replace hs' : f.size = 6 := hs'
      have on : ∀ j, j < 6 → On f j := fun j hj => on_all hall hs' j hj
      obtain ⟨a3, c3, e3, hr3, hac3, _⟩ := Q4 (on 4 (by decide))
      have e4 : gv 4 = .int .i64 0 := P 5 (by decide) rfl (on 5 (by decide))
      have HCF := Lib.hid (R3 (on 3 (by decide)))
      have HE := Lib.hid (show Rd w7 a3 R2.length c3 R2 ∧ (a3 = none → c3 = 0) ∧ Below w.heap.size w w7 from ⟨hr3, hac3, hBx⟩)
      rw [e3, e4]
      clear P Q2 Q4 N3 D3 R3 A7 hBx hall hs' on e3 e4 hr3 hac3 hD
      go_wp2_with fail
      refine bodyPost_ret (v := .tuple #[.agg #[.int .i64 (N : Int), .string ⟨key.toArray⟩, .string ⟨E.toArray⟩, .int .i64 NN], .slice a3 R2.length c3, .int .i64 0]) ?_ rfl (by show GetP l w _ _; unfold GetP; rw [HYS.out]; exact ⟨a3, c3, rfl, HE.out⟩)
      have hl := run_loadVar_mid (P := Tryz.prog) w7 b2 0 39 _ _ HCF.out.range Tryz.underlying39 rfl (by kernel_rfl)
      simp [results, Tryz.results123, asAddr, hl, Result.andThen]
end Go.Proofs.YtofadpodlaakbaaGreat
