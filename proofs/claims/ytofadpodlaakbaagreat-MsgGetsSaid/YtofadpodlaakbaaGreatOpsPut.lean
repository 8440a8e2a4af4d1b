/- The walk of Put, of the layer ops. -/
import Derived.Test.YtofadpodlaakbaaGreatOpsMay
import Derived.Test.YtofadpodlaakbaaGreatOpsJoin
import Derived.Test.YtofadpodlaakbaaGreatJ1
namespace Go.Proofs.YtofadpodlaakbaaGreat
open Go.ChangeShapes Go.WideShapes Go.ChangeAt Go.RowKit
set_option linter.unusedVariables false
def Txt (l : List UInt8) (w : World) (e : Ending) (w' : World) : Prop :=
 ∃ a c, e = .returned (.slice a l.length c) ∧ Rd w' a l.length c l ∧ (a = none → c = 0) ∧ Below w.heap.size w w'
theorem OwnB.txt {l : List UInt8} {w w' : World} {e : Ending} (h : OwnB l w e w') : Txt l w e w' := by
 obtain ⟨v, rfl, ho, hb⟩ := h
 obtain ⟨a, c, rfl, hr⟩ := Rd.of_own ho
 exact ⟨a, c, rfl, hr, own_none ho, hb⟩
set_option maxRecDepth 100000 in
set_option maxHeartbeats 1000000 in
theorem put2_any (k n : Int) (s1 s2 : ByteArray) (w : World) (h0 : -9223372036854775808 ≤ n) (h1 : n ≤ 9223372036854775807) : Calls Tryz.prog 97 #[.agg #[.int .i64 k, .string s1, .string s2, .int .i64 n]] w (Txt (numL (fold n).toNat) w) := by
 have HF := Lib.hid (fun w' => fold_any n w' h0 h1)
 obtain ⟨N, hN⟩ : ∃ N, N = (fold n).toNat := ⟨_, rfl⟩
 have hf : fold n = (N : Int) := by rw [hN, Int.toNat_of_nonneg (fold_lo n)]
 have hN2 : N < 18446744073709551616 := by have := fold_hi n h0 h1; omega
 rw [← hN]
 rw [hf] at HF
 have HN := Lib.hid (fun w' => num_any N hN2 w')
 clear hN hf hN2 h0 h1
 go_enter Tryz.func97, Tryz.ntmps97
 go_upto_region 1 with fail
 generalize hw1 : w.alloc _ = w1
 have d3 : w1.cell? ⟨w.heap.size, 3, none⟩ = some (.int .i64 n) := by rw [← hw1]; exact new_cell rfl
 have HB := Lib.hid (show Below w.heap.size w w1 by rw [← hw1]; exact (Below.refl _ _).alloc (Nat.le_refl _) _)
 clear hw1
 go_wp2_with fail
 refine (HF.out _).mono ?_
 rintro e w' ⟨rfl, rfl⟩
 go_wp2_with fail
 refine (HN.out _).mono ?_
 rintro e w2 ho
 obtain ⟨a, c, rfl, hr, hac, hb⟩ := ho.txt
 have HR := Lib.hid (show Rd w2 a (numL N).length c (numL N) ∧ (a = none → c = 0) ∧ Below w.heap.size w w2 from ⟨hr, hac, HB.out.step hb⟩)
 clear ho hr hac hb
 go_wp2_with fail
 go_ret
 exact ⟨a, c, rfl, HR.out⟩
set_option maxRecDepth 100000 in
set_option maxHeartbeats 1000000 in
theorem put5_any (k n : Int) (s1 : ByteArray) (elem : List UInt8) (w : World) (hl : elem.length ≤ 140737488351232) : Calls Tryz.prog 101 #[.agg #[.int .i64 k, .string s1, .string ⟨elem.toArray⟩, .int .i64 n]] w (Txt (txtL elem) w) := by
 obtain ⟨s2, hs2⟩ : ∃ s : ByteArray, s = ⟨elem.toArray⟩ := ⟨_, rfl⟩
 have HT := Lib.hid (fun w' => text_any s2 w' (by rw [hs2]; simpa [ByteArray.size] using hl))
 rw [show s2.data.toList = elem by rw [hs2]] at HT
 rw [← hs2]
 clear hs2 hl
 go_enter Tryz.func101, Tryz.ntmps101
 go_upto_region 1 with fail
 generalize hw1 : w.alloc _ = w1
 have d2 : w1.cell? ⟨w.heap.size, 2, none⟩ = some (.string s2) := by rw [← hw1]; exact new_cell rfl
 have HB := Lib.hid (show Below w.heap.size w w1 by rw [← hw1]; exact (Below.refl _ _).alloc (Nat.le_refl _) _)
 clear hw1
 go_wp2_with fail
 refine (HT.out _).mono ?_
 rintro e w2 ho
 obtain ⟨a, c, rfl, hr, hac, hb⟩ := ho.txt
 have HR := Lib.hid (show Rd w2 a (txtL elem).length c (txtL elem) ∧ (a = none → c = 0) ∧ Below w.heap.size w w2 from ⟨hr, hac, HB.out.step hb⟩)
 clear ho hr hac hb
 go_wp2_with fail
 go_ret
 exact ⟨a, c, rfl, HR.out⟩
theorem mayB_bounds {o : Opn} (h : mayB o = true) : -9223372036854775808 ≤ o.num ∧ o.num ≤ 9223372036854775807 := by
 obtain ⟨_, _, _, h4⟩ := mayB_kind h
 by_cases hk : o.kind = 0
 ·rw [if_pos hk] at h4; simp only [cntB, Bool.and_eq_true, decide_eq_true_eq] at h4; omega
 ·rw [if_neg hk] at h4; simp only [namB, Bool.and_eq_true, decide_eq_true_eq] at h4; omega
theorem endL_len {o : Opn} (h : mayB o = true) : (endL o).length ≤ 20 := by
 have hb := mayB_bounds h
 obtain ⟨_, _, _, h4⟩ := mayB_kind h
 unfold endL
 by_cases hk : o.kind = 0
 ·rw [if_pos hk]
  have := numL_le10 (fold o.num).toNat (by have := fold_hi o.num hb.1 hb.2; omega)
  omega
 ·rw [if_neg hk] at h4 ⊢
  simp only [namB, Bool.and_eq_true, decide_eq_true_eq] at h4
  have := keyB_len h4.2
  have := numL_le10 o.elem.length (by omega)
  simp only [txtL, List.length_append]; omega
def PutP (o : Opn) (w : World) (e : Ending) (w' : World) : Prop :=
 if mayB o = true then ∃ a c, e = .returned (.tuple #[.slice a (putO o).length c, .int .i64 0]) ∧ Rd w' a (putO o).length c (putO o) ∧ (a = none → c = 0) ∧ Below w.heap.size w w'
 else e = .returned (.tuple #[.slice none 0 0, .int .i64 1]) ∧ Below w.heap.size w w'
theorem enters_body {P : Program} {f : FuncId} {fn : Func} {c : Code} (hf : P.funcs[f]? = some fn) (hname : (fn.name == "runtime.NumGoroutine") = false) (hb : fn.body = some c) (args : Array Value) (w : World) :
  (callFunc f args).run P w = .ok (.enter f args) w := by
 have h1 : ¬ fn.name = "runtime.NumGoroutine" := by simpa using hname
 simp [callFunc, hf, h1, hb]
set_option maxRecDepth 100000 in
set_option maxHeartbeats 2000000 in
theorem put_any (k n : Int) (key elem : List UInt8) (w : World) (hl1 : key.length ≤ 9223372036854775807) (hl2 : elem.length ≤ 9223372036854775807) : Calls Tryz.prog 52 #[.agg #[.int .i64 k, .string ⟨key.toArray⟩, .string ⟨elem.toArray⟩, .int .i64 n]] w (PutP ⟨k, key, elem, n⟩ w) := by
 obtain ⟨s1, hs1⟩ : ∃ s : ByteArray, s = ⟨key.toArray⟩ := ⟨_, rfl⟩
 obtain ⟨s2, hs2⟩ : ∃ s : ByteArray, s = ⟨elem.toArray⟩ := ⟨_, rfl⟩
 have HMAY := Lib.hid (fun w' => may_any k n key elem w' hl1 hl2)
 rw [← hs1, ← hs2] at HMAY ⊢
 have HS := Lib.hid (show s1 = ⟨key.toArray⟩ ∧ s2 = ⟨elem.toArray⟩ from ⟨hs1, hs2⟩)
 clear hs1 hs2
 obtain ⟨o, ho⟩ : ∃ o : Opn, o = ⟨k, key, elem, n⟩ := ⟨_, rfl⟩
 rw [← ho] at HMAY ⊢
 have HO := Lib.hid ho
 clear ho
 go_enter Tryz.func52, Tryz.ntmps52
 go_upto_region 1 with fail
 obtain ⟨b0, hb0⟩ : ∃ b0, b0 = w.heap.size := ⟨_, rfl⟩
 have hC0 := Cel.new w 39 [.int .i64 k, .string s1, .string s2, .int .i64 n]
 rw [← hb0] at hC0 ⊢
 generalize hw1 : w.alloc (.cells #[.int .i64 k, .string s1, .string s2, .int .i64 n] _) = w1
 have hC : Cel w1 b0 39 [.int .i64 k, .string s1, .string s2, .int .i64 n] := by rw [← hw1]; exact hC0
 have HB1 := Lib.hid (show Below w.heap.size w w1 by rw [← hw1]; exact (Below.refl _ _).alloc (Nat.le_refl _) _)
 have d0 : w1.cell? ⟨b0, 0, none⟩ = some (.int .i64 k) := hC.at 0 _ rfl
 have d1 : w1.cell? ⟨b0, 1, none⟩ = some (.string s1) := hC.at 1 _ rfl
 have d2 : w1.cell? ⟨b0, 2, none⟩ = some (.string s2) := hC.at 2 _ rfl
 have d3 : w1.cell? ⟨b0, 3, none⟩ = some (.int .i64 n) := hC.at 3 _ rfl
 have HC1 := Lib.hid hC
 clear hb0 hC0 hw1 hC
 cases hm : mayB o with
 | false =>
  have HM := Lib.hid hm
  rw [hm] at HMAY
  clear hm
  go_wp2_with fail
  refine (HMAY.out _).mono ?_
  rintro e w2 ⟨rfl, hb⟩
  have HB2 := Lib.hid (HB1.out.step hb)
  clear hb d0 d1 d2 d3
  go_wp2_with fail
  go_ret2
  show PutP o w _ _
  unfold PutP
  rw [HM.out, if_neg (by decide)]
  exact ⟨rfl, HB2.out⟩
 | true =>
  have HM := Lib.hid hm
  rw [hm] at HMAY
  clear hm
  go_wp2_with fail
  refine (HMAY.out _).mono ?_
  rintro e w2 ⟨rfl, hb⟩
  have HB2 := Lib.hid (HB1.out.step hb)
  have HC2 := Lib.hid (HC1.out.step hb)
  clear hb d0 d1 d2 d3
  have hkk := mayB_kind HM.out
  have hbd := mayB_bounds HM.out
  have hel := endL_len HM.out
  rw [HO.out] at hkk hbd
  obtain ⟨K, rfl⟩ : ∃ K : Nat, k = (K : Int) := ⟨k.toNat, (Int.toNat_of_nonneg hkk.1).symm⟩
  have hK3 : K ≤ 3 := by have := hkk.2.1; simp only at this; omega
  have hkl := (keyB_len hkk.2.2.1).2
  simp only at hkl
  have hel8 : K ≠ 0 → elem.length ≤ 140737488351232 := fun h0 => by
   have h1 := hkk.2.2.2
   rw [if_neg (by simp only; omega)] at h1
   unfold namB at h1
   simp only [Bool.and_eq_true] at h1
   have h2 := (keyB_len h1.2).2
   omega
  obtain ⟨x, y, z, yf, hxyz, hyf, hput, hent⟩ : ∃ x y z yf, kindOf (K : Int) = .agg #[x, y, z] ∧ y = .func (.func yf) #[] #[] ∧ (∀ w', Calls Tryz.prog yf #[.agg #[.int .i64 (K : Int), .string s1, .string s2, .int .i64 n]] w' (Txt (endL o) w')) ∧ (∀ args w', (callFunc yf args).run Tryz.prog w' = .ok (.enter yf args) w') := by
   by_cases h0 : K = 0
   ·refine ⟨_, _, _, 97, by rw [h0]; rfl, rfl, fun w' => ?_, enters_body Tryz.func97 (by kernel_rfl) rfl⟩
    have he : endL o = numL (fold n).toNat := by rw [HO.out]; unfold endL; rw [if_pos (by simp [h0])]
    rw [he]
    exact put2_any _ n s1 s2 w' hbd.1 hbd.2
   ·refine ⟨fnV 100, _, fnV 102, 101, ?_, rfl, fun w' => ?_, enters_body Tryz.func101 (by kernel_rfl) rfl⟩
    ·have h3 : K = 1 ∨ K = 2 ∨ K = 3 := by omega
     rcases h3 with h3 | h3 | h3 <;> rw [h3] <;> rfl
    ·have he : endL o = txtL elem := by rw [HO.out]; unfold endL; rw [if_neg (by simp; omega)]
     rw [he, HS.out.2]
     exact put5_any _ n s1 elem w' (hel8 h0)
  subst hyf
  have HL := Lib.hid (show ∀ w' r, w'.heap[r]? = some (.map kindsE 4) → (Instr.lookup 112 (.map (some r)) (.int .i64 (K : Int)) false).run Tryz.prog w' = .ok (.agg #[x, .func (.func yf) #[] #[], z]) w' from fun w' r h => by
   have := run_look h (K : Int) false
   rw [if_neg (by decide), hxyz] at this
   exact this)
  obtain ⟨l0, hl0⟩ : ∃ l0, l0 = numL K := ⟨_, rfl⟩
  obtain ⟨l1, hl1'⟩ : ∃ l1, l1 = txtL key := ⟨_, rfl⟩
  obtain ⟨l2, hl2'⟩ : ∃ l2, l2 = endL o := ⟨_, rfl⟩
  obtain ⟨p, hp⟩ : ∃ p, p = putO o := ⟨_, rfl⟩
  have hp2 : l0 ++ (l1 ++ l2) = p := by rw [hp, hl0, hl1', hl2', HO.out]; rfl
  have hlen : l0.length + l1.length + l2.length ≤ 140737488355328 := by
   have h1 := numL_le10 K (by omega)
   have h2 := numL_le10 key.length (by omega)
   rw [hl0, hl1', hl2']
   simp only [txtL, List.length_append]
   omega
  have HNUM := Lib.hid (fun w' => show Calls Tryz.prog 18 #[.int .u64 (K : Int)] w' (Txt l0 w') from (num_any K (by omega) w').mono fun e w'' h => by rw [hl0]; exact h.txt)
  have HTXT := Lib.hid (fun w' => show Calls Tryz.prog 21 #[.string s1] w' (Txt l1 w') from (text_any s1 w' (by rw [HS.out.1]; simpa [ByteArray.size] using (show key.length ≤ 140737488351232 by omega))).mono fun e w'' h => by rw [hl1']; have := h.txt; rwa [show s1.data.toList = key by rw [HS.out.1]] at this)
  have HPUT := Lib.hid (fun w' => show Calls Tryz.prog yf #[.agg #[.int .i64 (K : Int), .string s1, .string s2, .int .i64 n]] w' (Txt l2 w') by rw [hl2']; exact hput w')
  have HJ := Lib.hid (fun w' b (h : Three w' b l0 l1 l2) => show Calls Tryz.prog 76 #[.slice (some ⟨b, 0, none⟩) 3 3, .slice none 0 0] w' (Txt p w') by rw [← hp2]; exact join_three b l0 l1 l2 w' h hlen)
  have HP := Lib.hid hp
  have HENT := Lib.hid hent
  have hK0 : 0 ≤ (K : Int) := by omega
  have hK4 : (K : Int) ≤ 3 := by omega
  have hwr : IntKind.u64.wrap (K : Int) = (K : Int) := by rw [wrap_u64]; omega
  clear hkk hbd hel hel8 hkl hxyz hput hent hl0 hl1' hl2' hp hp2 hlen hK3
  go_upto_region 3 with fail
  have hD : ∀ j, j < 18 → ∀ n, n < 18 → j ≠ n → dkN [7, 8, 9, 10, 11, 12, 13, 14, 15, 16, 17, 18, 19, 20, 21, 22, 2, 3] j ≠ dkN [7, 8, 9, 10, 11, 12, 13, 14, 15, 16, 17, 18, 19, 20, 21, 22, 2, 3] n := by decide +kernel
  refine region_fun (by kernel_rfl) (by kernel_rfl) (fun gv => #[.agg #[.int .i64 (K : Int), .string s1, .string s2, .int .i64 n], .pointer (some ⟨b0, 0, none⟩), gv 2, gv 3, .agg #[.int .i64 (K : Int), .string s1, .string s2, .int .i64 n], .bool true, .bool false, gv 7, gv 8, gv 9, gv 10, gv 11, gv 12, gv 13, gv 14, gv 15, gv 16, gv 17, gv 18, gv 19, gv 20, gv 21, gv 22]) rfl (fun f gv wx => Below w2.heap.size w2 wx ∧ (∀ j, j < 18 → (fun j => Nat.beq j 3 || Nat.beq j 6 || Nat.beq j 7 || Nat.beq j 13 || Nat.beq j 14 || Nat.beq j 15 || Nat.beq j 16) j = false → On f j → gv (dkN [7, 8, 9, 10, 11, 12, 13, 14, 15, 16, 17, 18, 19, 20, 21, 22, 2, 3] j) = vkN [.pointer (some ⟨b0, 0, none⟩), .int .i64 (K : Int), .int .u64 (K : Int), undef, .pointer (some ⟨b0, 1, none⟩), .string s1, undef, undef, .pointer (some ⟨b0, 0, none⟩), .int .i64 (K : Int), .agg #[x, .func (.func yf) #[] #[], z], .func (.func yf) #[] #[], .agg #[.int .i64 (K : Int), .string s1, .string s2, .int .i64 n], undef, undef, undef, undef, .int .i64 0] j) ∧ (On f 3 → ∃ a c, gv 10 = .slice a l0.length c ∧ Rd wx a l0.length c l0 ∧ (a = none → c = 0)) ∧ (On f 6 → ∃ a c, gv 13 = .slice a l1.length c ∧ Rd wx a l1.length c l1 ∧ (a = none → c = 0)) ∧ (On f 7 → ∃ r, gv 14 = .map (some r) ∧ wx.heap[r]? = some (.map kindsE 4)) ∧ (On f 13 → ∃ a c, gv 20 = .slice a l2.length c ∧ Rd wx a l2.length c l2 ∧ (a = none → c = 0)) ∧ (On f 14 → ∃ b, gv 21 = .slice (some ⟨b, 0, none⟩) 3 3 ∧ Three wx b l0 l1 l2) ∧ (On f 15 → ∃ a c, gv 22 = .slice a p.length c ∧ Rd wx a p.length c p ∧ (a = none → c = 0)) ∧ (On f 16 → ∃ a c, gv 2 = .slice a p.length c ∧ Rd wx a p.length c p ∧ (a = none → c = 0))) ?_ ?_ ?_
  ·have hoff : ∀ j, ¬ On (Array.replicate 18 false) j := by
    intro j hj; simp only [On, Array.getD_eq_getD_getElem?, Array.getElem?_replicate] at hj; split at hj <;> simp at hj
   exact ⟨(Below.refl _ _).drew, fun j _ _ x => absurd x (hoff _), fun x => absurd x (hoff _), fun x => absurd x (hoff _), fun x => absurd x (hoff _), fun x => absurd x (hoff _), fun x => absurd x (hoff _), fun x => absurd x (hoff _), fun x => absurd x (hoff _)⟩
  ·rintro i' o f gv wm hio hs' hn he ⟨hBx, P, Q3, Q6, Q7, Q13, Q14, Q15, Q16⟩ KK hK
   have hi' : i' < 18 := (Array.getElem?_eq_some_iff.1 hio).1
   replace hs' : f.size = 18 := hs'
   match i', hi' with
   | 0, _ =>
    cases hio
    have HQ := Lib.hid (And.intro P (And.intro Q3 (And.intro Q6 (And.intro Q7 (And.intro Q13 (And.intro Q14 (And.intro Q15 Q16)))))))
    clear P Q3 Q6 Q7 Q13 Q14 Q15 Q16
    go_simp
    exact hK (upd gv 7 (.pointer (some ⟨b0, 0, none⟩))) _ (by exact ⟨hBx, vals_step (n := 0) (v := .pointer (some ⟨b0, 0, none⟩)) hD (by decide) (by omega) HQ.out.1 (fun _ => rfl), fun x => HQ.out.2.1 (on_back (by omega) x (by decide)), fun x => HQ.out.2.2.1 (on_back (by omega) x (by decide)), fun x => HQ.out.2.2.2.1 (on_back (by omega) x (by decide)), fun x => HQ.out.2.2.2.2.1 (on_back (by omega) x (by decide)), fun x => HQ.out.2.2.2.2.2.1 (on_back (by omega) x (by decide)), fun x => HQ.out.2.2.2.2.2.2.1 (on_back (by omega) x (by decide)), fun x => HQ.out.2.2.2.2.2.2.2 (on_back (by omega) x (by decide))⟩)
   | 1, _ =>
    cases hio
    have h0 : On f 0 := he ⟨0, .data⟩ (by simp) rfl
    have e0 : gv 7 = .pointer (some ⟨b0, 0, none⟩) := P 0 (by decide) rfl h0
    have d0 : wm.cell? ⟨b0, 0, none⟩ = some (.int .i64 (K : Int)) := (HC2.out.step hBx).at 0 _ rfl
    rw [e0]
    have HQ := Lib.hid (And.intro P (And.intro Q3 (And.intro Q6 (And.intro Q7 (And.intro Q13 (And.intro Q14 (And.intro Q15 Q16)))))))
    clear P Q3 Q6 Q7 Q13 Q14 Q15 Q16
    go_simp
    exact hK (upd (upd gv 7 (.pointer (some ⟨b0, 0, none⟩))) 8 (.int .i64 (K : Int))) _ (by rw [upd_same e0]; exact ⟨hBx, vals_step (n := 1) (v := .int .i64 (K : Int)) hD (by decide) (by omega) HQ.out.1 (fun _ => rfl), fun x => HQ.out.2.1 (on_back (by omega) x (by decide)), fun x => HQ.out.2.2.1 (on_back (by omega) x (by decide)), fun x => HQ.out.2.2.2.1 (on_back (by omega) x (by decide)), fun x => HQ.out.2.2.2.2.1 (on_back (by omega) x (by decide)), fun x => HQ.out.2.2.2.2.2.1 (on_back (by omega) x (by decide)), fun x => HQ.out.2.2.2.2.2.2.1 (on_back (by omega) x (by decide)), fun x => HQ.out.2.2.2.2.2.2.2 (on_back (by omega) x (by decide))⟩)
   | 2, _ =>
    cases hio
    have h1 : On f 1 := he ⟨1, .data⟩ (by simp) rfl
    have e1 : gv 8 = .int .i64 (K : Int) := P 1 (by decide) rfl h1
    rw [e1]
    have HQ := Lib.hid (And.intro P (And.intro Q3 (And.intro Q6 (And.intro Q7 (And.intro Q13 (And.intro Q14 (And.intro Q15 Q16)))))))
    clear P Q3 Q6 Q7 Q13 Q14 Q15 Q16
    go_simp
    exact hK (upd (upd gv 8 (.int .i64 (K : Int))) 9 (.int .u64 (K : Int))) _ (by rw [upd_same e1]; exact ⟨hBx, vals_step (n := 2) (v := .int .u64 (K : Int)) hD (by decide) (by omega) HQ.out.1 (fun _ => rfl), fun x => HQ.out.2.1 (on_back (by omega) x (by decide)), fun x => HQ.out.2.2.1 (on_back (by omega) x (by decide)), fun x => HQ.out.2.2.2.1 (on_back (by omega) x (by decide)), fun x => HQ.out.2.2.2.2.1 (on_back (by omega) x (by decide)), fun x => HQ.out.2.2.2.2.2.1 (on_back (by omega) x (by decide)), fun x => HQ.out.2.2.2.2.2.2.1 (on_back (by omega) x (by decide)), fun x => HQ.out.2.2.2.2.2.2.2 (on_back (by omega) x (by decide))⟩)
   | 3, _ =>
    cases hio
    have h2 : On f 2 := he ⟨2, .data⟩ (by simp) rfl
    have e2 : gv 9 = .int .u64 (K : Int) := P 2 (by decide) rfl h2
    rw [e2]
    have HQ := Lib.hid (And.intro P (And.intro Q3 (And.intro Q6 (And.intro Q7 (And.intro Q13 (And.intro Q14 (And.intro Q15 Q16)))))))
    clear P Q3 Q6 Q7 Q13 Q14 Q15 Q16
    go_simp
    refine (HNUM.out _).mono ?_
    rintro e w6 ⟨a3, c3, rfl, hr3, hac3, hb⟩
    exact hK (upd (upd gv 9 (.int .u64 (K : Int))) 10 (.slice a3 l0.length c3)) _ (by rw [upd_same e2]; exact ⟨hBx.step hb, vals_step (n := 3) (v := .slice a3 l0.length c3) hD (by decide) (by omega) HQ.out.1 (fun h => nomatch (show true = false from h)), fun _ => ⟨a3, c3, rfl, hr3, hac3⟩, fun x => by obtain ⟨a6, c6, e9, hr6, hac6⟩ := HQ.out.2.2.1 (on_back (by omega) x (by decide)); exact ⟨_, _, e9, hr6.below hb, hac6⟩, fun x => by obtain ⟨r, e9, hm⟩ := HQ.out.2.2.2.1 (on_back (by omega) x (by decide)); exact ⟨_, e9, (hb.block _ (Array.getElem?_eq_some_iff.1 hm).1).trans hm⟩, fun x => by obtain ⟨a13, c13, e9, hr13, hac13⟩ := HQ.out.2.2.2.2.1 (on_back (by omega) x (by decide)); exact ⟨_, _, e9, hr13.below hb, hac13⟩, fun x => by obtain ⟨b, e9, h3⟩ := HQ.out.2.2.2.2.2.1 (on_back (by omega) x (by decide)); exact ⟨_, e9, h3.step hb⟩, fun x => by obtain ⟨a15, c15, e9, hr15, hac15⟩ := HQ.out.2.2.2.2.2.2.1 (on_back (by omega) x (by decide)); exact ⟨_, _, e9, hr15.below hb, hac15⟩, fun x => by obtain ⟨a16, c16, e9, hr16, hac16⟩ := HQ.out.2.2.2.2.2.2.2 (on_back (by omega) x (by decide)); exact ⟨_, _, e9, hr16.below hb, hac16⟩⟩)
   | 4, _ =>
    cases hio
    have HQ := Lib.hid (And.intro P (And.intro Q3 (And.intro Q6 (And.intro Q7 (And.intro Q13 (And.intro Q14 (And.intro Q15 Q16)))))))
    clear P Q3 Q6 Q7 Q13 Q14 Q15 Q16
    go_simp
    exact hK (upd gv 11 (.pointer (some ⟨b0, 1, none⟩))) _ (by exact ⟨hBx, vals_step (n := 4) (v := .pointer (some ⟨b0, 1, none⟩)) hD (by decide) (by omega) HQ.out.1 (fun _ => rfl), fun x => HQ.out.2.1 (on_back (by omega) x (by decide)), fun x => HQ.out.2.2.1 (on_back (by omega) x (by decide)), fun x => HQ.out.2.2.2.1 (on_back (by omega) x (by decide)), fun x => HQ.out.2.2.2.2.1 (on_back (by omega) x (by decide)), fun x => HQ.out.2.2.2.2.2.1 (on_back (by omega) x (by decide)), fun x => HQ.out.2.2.2.2.2.2.1 (on_back (by omega) x (by decide)), fun x => HQ.out.2.2.2.2.2.2.2 (on_back (by omega) x (by decide))⟩)
   | 5, _ =>
    cases hio
    have h4 : On f 4 := he ⟨4, .data⟩ (by simp) rfl
    have e4 : gv 11 = .pointer (some ⟨b0, 1, none⟩) := P 4 (by decide) rfl h4
    have d1 : wm.cell? ⟨b0, 1, none⟩ = some (.string s1) := (HC2.out.step hBx).at 1 _ rfl
    rw [e4]
    have HQ := Lib.hid (And.intro P (And.intro Q3 (And.intro Q6 (And.intro Q7 (And.intro Q13 (And.intro Q14 (And.intro Q15 Q16)))))))
    clear P Q3 Q6 Q7 Q13 Q14 Q15 Q16
    go_simp
    exact hK (upd (upd gv 11 (.pointer (some ⟨b0, 1, none⟩))) 12 (.string s1)) _ (by rw [upd_same e4]; exact ⟨hBx, vals_step (n := 5) (v := .string s1) hD (by decide) (by omega) HQ.out.1 (fun _ => rfl), fun x => HQ.out.2.1 (on_back (by omega) x (by decide)), fun x => HQ.out.2.2.1 (on_back (by omega) x (by decide)), fun x => HQ.out.2.2.2.1 (on_back (by omega) x (by decide)), fun x => HQ.out.2.2.2.2.1 (on_back (by omega) x (by decide)), fun x => HQ.out.2.2.2.2.2.1 (on_back (by omega) x (by decide)), fun x => HQ.out.2.2.2.2.2.2.1 (on_back (by omega) x (by decide)), fun x => HQ.out.2.2.2.2.2.2.2 (on_back (by omega) x (by decide))⟩)
   | 6, _ =>
    cases hio
    have h5 : On f 5 := he ⟨5, .data⟩ (by simp) rfl
    have e5 : gv 12 = .string s1 := P 5 (by decide) rfl h5
    rw [e5]
    have HQ := Lib.hid (And.intro P (And.intro Q3 (And.intro Q6 (And.intro Q7 (And.intro Q13 (And.intro Q14 (And.intro Q15 Q16)))))))
    clear P Q3 Q6 Q7 Q13 Q14 Q15 Q16
    go_simp
    refine (HTXT.out _).mono ?_
    rintro e w6 ⟨a6, c6, rfl, hr6, hac6, hb⟩
    exact hK (upd (upd gv 12 (.string s1)) 13 (.slice a6 l1.length c6)) _ (by rw [upd_same e5]; exact ⟨hBx.step hb, vals_step (n := 6) (v := .slice a6 l1.length c6) hD (by decide) (by omega) HQ.out.1 (fun h => nomatch (show true = false from h)), fun x => by obtain ⟨a3, c3, e9, hr3, hac3⟩ := HQ.out.2.1 (on_back (by omega) x (by decide)); exact ⟨_, _, e9, hr3.below hb, hac3⟩, fun _ => ⟨a6, c6, rfl, hr6, hac6⟩, fun x => by obtain ⟨r, e9, hm⟩ := HQ.out.2.2.2.1 (on_back (by omega) x (by decide)); exact ⟨_, e9, (hb.block _ (Array.getElem?_eq_some_iff.1 hm).1).trans hm⟩, fun x => by obtain ⟨a13, c13, e9, hr13, hac13⟩ := HQ.out.2.2.2.2.1 (on_back (by omega) x (by decide)); exact ⟨_, _, e9, hr13.below hb, hac13⟩, fun x => by obtain ⟨b, e9, h3⟩ := HQ.out.2.2.2.2.2.1 (on_back (by omega) x (by decide)); exact ⟨_, e9, h3.step hb⟩, fun x => by obtain ⟨a15, c15, e9, hr15, hac15⟩ := HQ.out.2.2.2.2.2.2.1 (on_back (by omega) x (by decide)); exact ⟨_, _, e9, hr15.below hb, hac15⟩, fun x => by obtain ⟨a16, c16, e9, hr16, hac16⟩ := HQ.out.2.2.2.2.2.2.2 (on_back (by omega) x (by decide)); exact ⟨_, _, e9, hr16.below hb, hac16⟩⟩)
   | 7, _ =>
    cases hio
    have HQ := Lib.hid (And.intro P (And.intro Q3 (And.intro Q6 (And.intro Q7 (And.intro Q13 (And.intro Q14 (And.intro Q15 Q16)))))))
    clear P Q3 Q6 Q7 Q13 Q14 Q15 Q16
    go_simp
    refine (kinds_any _).mono ?_
    rintro e w6 ⟨r, rfl, hm, _, hb⟩
    exact hK (upd gv 14 (.map (some r))) _ (by exact ⟨hBx.step hb, vals_step (n := 7) (v := .map (some r)) hD (by decide) (by omega) HQ.out.1 (fun h => nomatch (show true = false from h)), fun x => by obtain ⟨a3, c3, e9, hr3, hac3⟩ := HQ.out.2.1 (on_back (by omega) x (by decide)); exact ⟨_, _, e9, hr3.below hb, hac3⟩, fun x => by obtain ⟨a6, c6, e9, hr6, hac6⟩ := HQ.out.2.2.1 (on_back (by omega) x (by decide)); exact ⟨_, _, e9, hr6.below hb, hac6⟩, fun _ => ⟨r, rfl, hm⟩, fun x => by obtain ⟨a13, c13, e9, hr13, hac13⟩ := HQ.out.2.2.2.2.1 (on_back (by omega) x (by decide)); exact ⟨_, _, e9, hr13.below hb, hac13⟩, fun x => by obtain ⟨b, e9, h3⟩ := HQ.out.2.2.2.2.2.1 (on_back (by omega) x (by decide)); exact ⟨_, e9, h3.step hb⟩, fun x => by obtain ⟨a15, c15, e9, hr15, hac15⟩ := HQ.out.2.2.2.2.2.2.1 (on_back (by omega) x (by decide)); exact ⟨_, _, e9, hr15.below hb, hac15⟩, fun x => by obtain ⟨a16, c16, e9, hr16, hac16⟩ := HQ.out.2.2.2.2.2.2.2 (on_back (by omega) x (by decide)); exact ⟨_, _, e9, hr16.below hb, hac16⟩⟩)
   | 8, _ =>
    cases hio
    have HQ := Lib.hid (And.intro P (And.intro Q3 (And.intro Q6 (And.intro Q7 (And.intro Q13 (And.intro Q14 (And.intro Q15 Q16)))))))
    clear P Q3 Q6 Q7 Q13 Q14 Q15 Q16
    go_simp
    exact hK (upd gv 15 (.pointer (some ⟨b0, 0, none⟩))) _ (by exact ⟨hBx, vals_step (n := 8) (v := .pointer (some ⟨b0, 0, none⟩)) hD (by decide) (by omega) HQ.out.1 (fun _ => rfl), fun x => HQ.out.2.1 (on_back (by omega) x (by decide)), fun x => HQ.out.2.2.1 (on_back (by omega) x (by decide)), fun x => HQ.out.2.2.2.1 (on_back (by omega) x (by decide)), fun x => HQ.out.2.2.2.2.1 (on_back (by omega) x (by decide)), fun x => HQ.out.2.2.2.2.2.1 (on_back (by omega) x (by decide)), fun x => HQ.out.2.2.2.2.2.2.1 (on_back (by omega) x (by decide)), fun x => HQ.out.2.2.2.2.2.2.2 (on_back (by omega) x (by decide))⟩)
   | 9, _ =>
    cases hio
    have h8 : On f 8 := he ⟨8, .data⟩ (by simp) rfl
    have e8 : gv 15 = .pointer (some ⟨b0, 0, none⟩) := P 8 (by decide) rfl h8
    have d0 : wm.cell? ⟨b0, 0, none⟩ = some (.int .i64 (K : Int)) := (HC2.out.step hBx).at 0 _ rfl
    rw [e8]
    have HQ := Lib.hid (And.intro P (And.intro Q3 (And.intro Q6 (And.intro Q7 (And.intro Q13 (And.intro Q14 (And.intro Q15 Q16)))))))
    clear P Q3 Q6 Q7 Q13 Q14 Q15 Q16
    go_simp
    exact hK (upd (upd gv 15 (.pointer (some ⟨b0, 0, none⟩))) 16 (.int .i64 (K : Int))) _ (by rw [upd_same e8]; exact ⟨hBx, vals_step (n := 9) (v := .int .i64 (K : Int)) hD (by decide) (by omega) HQ.out.1 (fun _ => rfl), fun x => HQ.out.2.1 (on_back (by omega) x (by decide)), fun x => HQ.out.2.2.1 (on_back (by omega) x (by decide)), fun x => HQ.out.2.2.2.1 (on_back (by omega) x (by decide)), fun x => HQ.out.2.2.2.2.1 (on_back (by omega) x (by decide)), fun x => HQ.out.2.2.2.2.2.1 (on_back (by omega) x (by decide)), fun x => HQ.out.2.2.2.2.2.2.1 (on_back (by omega) x (by decide)), fun x => HQ.out.2.2.2.2.2.2.2 (on_back (by omega) x (by decide))⟩)
   | 10, _ =>
    cases hio
    have h7 : On f 7 := he ⟨7, .data⟩ (by simp) rfl
    obtain ⟨r, e7, hm⟩ := Q7 h7
    have h9 : On f 9 := he ⟨9, .data⟩ (by simp) rfl
    have e9 : gv 16 = .int .i64 (K : Int) := P 9 (by decide) rfl h9
    have hlk := HL.out wm r hm
    rw [e7, e9]
    have HQ := Lib.hid (And.intro P (And.intro Q3 (And.intro Q6 (And.intro Q7 (And.intro Q13 (And.intro Q14 (And.intro Q15 Q16)))))))
    clear P Q3 Q6 Q7 Q13 Q14 Q15 Q16
    go_simp
    exact hK (upd (upd (upd gv 14 (.map (some r))) 16 (.int .i64 (K : Int))) 17 (.agg #[x, .func (.func yf) #[] #[], z])) _ (by rw [upd_same e7]; rw [upd_same e9]; exact ⟨hBx, vals_step (n := 10) (v := .agg #[x, .func (.func yf) #[] #[], z]) hD (by decide) (by omega) HQ.out.1 (fun _ => rfl), fun x => HQ.out.2.1 (on_back (by omega) x (by decide)), fun x => HQ.out.2.2.1 (on_back (by omega) x (by decide)), fun x => HQ.out.2.2.2.1 (on_back (by omega) x (by decide)), fun x => HQ.out.2.2.2.2.1 (on_back (by omega) x (by decide)), fun x => HQ.out.2.2.2.2.2.1 (on_back (by omega) x (by decide)), fun x => HQ.out.2.2.2.2.2.2.1 (on_back (by omega) x (by decide)), fun x => HQ.out.2.2.2.2.2.2.2 (on_back (by omega) x (by decide))⟩)
   | 11, _ =>
    cases hio
    have h10 : On f 10 := he ⟨10, .data⟩ (by simp) rfl
    have e10 : gv 17 = .agg #[x, .func (.func yf) #[] #[], z] := P 10 (by decide) rfl h10
    rw [e10]
    have HQ := Lib.hid (And.intro P (And.intro Q3 (And.intro Q6 (And.intro Q7 (And.intro Q13 (And.intro Q14 (And.intro Q15 Q16)))))))
    clear P Q3 Q6 Q7 Q13 Q14 Q15 Q16
    go_simp
    exact hK (upd (upd gv 17 (.agg #[x, .func (.func yf) #[] #[], z])) 18 (.func (.func yf) #[] #[])) _ (by rw [upd_same e10]; exact ⟨hBx, vals_step (n := 11) (v := .func (.func yf) #[] #[]) hD (by decide) (by omega) HQ.out.1 (fun _ => rfl), fun x => HQ.out.2.1 (on_back (by omega) x (by decide)), fun x => HQ.out.2.2.1 (on_back (by omega) x (by decide)), fun x => HQ.out.2.2.2.1 (on_back (by omega) x (by decide)), fun x => HQ.out.2.2.2.2.1 (on_back (by omega) x (by decide)), fun x => HQ.out.2.2.2.2.2.1 (on_back (by omega) x (by decide)), fun x => HQ.out.2.2.2.2.2.2.1 (on_back (by omega) x (by decide)), fun x => HQ.out.2.2.2.2.2.2.2 (on_back (by omega) x (by decide))⟩)
   | 12, _ =>
    cases hio
    have d0 : wm.cell? ⟨b0, 0, none⟩ = some (.int .i64 (K : Int)) := (HC2.out.step hBx).at 0 _ rfl
    have d1 : wm.cell? ⟨b0, 1, none⟩ = some (.string s1) := (HC2.out.step hBx).at 1 _ rfl
    have d2 : wm.cell? ⟨b0, 2, none⟩ = some (.string s2) := (HC2.out.step hBx).at 2 _ rfl
    have d3 : wm.cell? ⟨b0, 3, none⟩ = some (.int .i64 n) := (HC2.out.step hBx).at 3 _ rfl
    have HQ := Lib.hid (And.intro P (And.intro Q3 (And.intro Q6 (And.intro Q7 (And.intro Q13 (And.intro Q14 (And.intro Q15 Q16)))))))
    clear P Q3 Q6 Q7 Q13 Q14 Q15 Q16
    go_simp
    exact hK (upd gv 19 (.agg #[.int .i64 (K : Int), .string s1, .string s2, .int .i64 n])) _ (by exact ⟨hBx, vals_step (n := 12) (v := .agg #[.int .i64 (K : Int), .string s1, .string s2, .int .i64 n]) hD (by decide) (by omega) HQ.out.1 (fun _ => rfl), fun x => HQ.out.2.1 (on_back (by omega) x (by decide)), fun x => HQ.out.2.2.1 (on_back (by omega) x (by decide)), fun x => HQ.out.2.2.2.1 (on_back (by omega) x (by decide)), fun x => HQ.out.2.2.2.2.1 (on_back (by omega) x (by decide)), fun x => HQ.out.2.2.2.2.2.1 (on_back (by omega) x (by decide)), fun x => HQ.out.2.2.2.2.2.2.1 (on_back (by omega) x (by decide)), fun x => HQ.out.2.2.2.2.2.2.2 (on_back (by omega) x (by decide))⟩)
   | 13, _ =>
    cases hio
    have h11 : On f 11 := he ⟨11, .data⟩ (by simp) rfl
    have e11 : gv 18 = .func (.func yf) #[] #[] := P 11 (by decide) rfl h11
    have h12 : On f 12 := he ⟨12, .data⟩ (by simp) rfl
    have e12 : gv 19 = .agg #[.int .i64 (K : Int), .string s1, .string s2, .int .i64 n] := P 12 (by decide) rfl h12
    have hent := HENT.out
    rw [e11, e12]
    have HQ := Lib.hid (And.intro P (And.intro Q3 (And.intro Q6 (And.intro Q7 (And.intro Q13 (And.intro Q14 (And.intro Q15 Q16)))))))
    clear P Q3 Q6 Q7 Q13 Q14 Q15 Q16
    go_simp
    refine (HPUT.out _).mono ?_
    rintro e w6 ⟨a13, c13, rfl, hr13, hac13, hb⟩
    exact hK (upd (upd (upd gv 18 (.func (.func yf) #[] #[])) 19 (.agg #[.int .i64 (K : Int), .string s1, .string s2, .int .i64 n])) 20 (.slice a13 l2.length c13)) _ (by rw [upd_same e11]; rw [upd_same e12]; exact ⟨hBx.step hb, vals_step (n := 13) (v := .slice a13 l2.length c13) hD (by decide) (by omega) HQ.out.1 (fun h => nomatch (show true = false from h)), fun x => by obtain ⟨a3, c3, e9, hr3, hac3⟩ := HQ.out.2.1 (on_back (by omega) x (by decide)); exact ⟨_, _, e9, hr3.below hb, hac3⟩, fun x => by obtain ⟨a6, c6, e9, hr6, hac6⟩ := HQ.out.2.2.1 (on_back (by omega) x (by decide)); exact ⟨_, _, e9, hr6.below hb, hac6⟩, fun x => by obtain ⟨r, e9, hm⟩ := HQ.out.2.2.2.1 (on_back (by omega) x (by decide)); exact ⟨_, e9, (hb.block _ (Array.getElem?_eq_some_iff.1 hm).1).trans hm⟩, fun _ => ⟨a13, c13, rfl, hr13, hac13⟩, fun x => by obtain ⟨b, e9, h3⟩ := HQ.out.2.2.2.2.2.1 (on_back (by omega) x (by decide)); exact ⟨_, e9, h3.step hb⟩, fun x => by obtain ⟨a15, c15, e9, hr15, hac15⟩ := HQ.out.2.2.2.2.2.2.1 (on_back (by omega) x (by decide)); exact ⟨_, _, e9, hr15.below hb, hac15⟩, fun x => by obtain ⟨a16, c16, e9, hr16, hac16⟩ := HQ.out.2.2.2.2.2.2.2 (on_back (by omega) x (by decide)); exact ⟨_, _, e9, hr16.below hb, hac16⟩⟩)
   | 14, _ =>
    cases hio
    have h3 : On f 3 := he ⟨3, .data⟩ (by simp) rfl
    obtain ⟨a3, c3, e3, hr3, hac3⟩ := Q3 h3
    have h6 : On f 6 := he ⟨6, .data⟩ (by simp) rfl
    obtain ⟨a6, c6, e6, hr6, hac6⟩ := Q6 h6
    have h13 : On f 13 := he ⟨13, .data⟩ (by simp) rfl
    obtain ⟨a13, c13, e13, hr13, hac13⟩ := Q13 h13
    rw [e3, e6, e13]
    have HQ := Lib.hid (And.intro P (And.intro Q3 (And.intro Q6 (And.intro Q7 (And.intro Q13 (And.intro Q14 (And.intro Q15 Q16)))))))
    clear P Q3 Q6 Q7 Q13 Q14 Q15 Q16
    go_simp
    obtain ⟨b, hbb⟩ : ∃ b, b = wm.heap.size := ⟨_, rfl⟩
    obtain ⟨w6, hw6⟩ : ∃ w6, w6 = wm.alloc (.cells [Value.slice a3 l0.length c3, .slice a6 l1.length c6, .slice a13 l2.length c13].toArray 28) := ⟨_, rfl⟩
    have hb : Below wm.heap.size wm w6 := by rw [hw6]; exact (Below.refl _ _).alloc (Nat.le_refl _) _
    have h3 : Three w6 b l0 l1 l2 := ⟨a3, c3, a6, c6, a13, c13, by rw [hw6, hbb]; exact Cel.new wm _ _, hr3.below hb, hr6.below hb, hr13.below hb⟩
    show KK ⟨#[_, _, _, _, _, _, _, _, _, _, _, _, _, _, _, _, _, _, _, _, _, .slice (some ⟨wm.heap.size, 0, none⟩) 3 3, _], []⟩ (wm.alloc (.cells [Value.slice a3 l0.length c3, .slice a6 l1.length c6, .slice a13 l2.length c13].toArray 28))
    rw [← hbb, ← hw6]
    exact hK (upd (upd (upd (upd gv 10 (.slice a3 l0.length c3)) 13 (.slice a6 l1.length c6)) 20 (.slice a13 l2.length c13)) 21 (.slice (some ⟨b, 0, none⟩) 3 3)) _ (by rw [upd_same e3]; rw [upd_same e6]; rw [upd_same e13]; exact ⟨hBx.step hb, vals_step (n := 14) (v := .slice (some ⟨b, 0, none⟩) 3 3) hD (by decide) (by omega) HQ.out.1 (fun h => nomatch (show true = false from h)), fun x => by obtain ⟨a3, c3, e9, hr3, hac3⟩ := HQ.out.2.1 (on_back (by omega) x (by decide)); exact ⟨_, _, e9, hr3.below hb, hac3⟩, fun x => by obtain ⟨a6, c6, e9, hr6, hac6⟩ := HQ.out.2.2.1 (on_back (by omega) x (by decide)); exact ⟨_, _, e9, hr6.below hb, hac6⟩, fun x => by obtain ⟨r, e9, hm⟩ := HQ.out.2.2.2.1 (on_back (by omega) x (by decide)); exact ⟨_, e9, (hb.block _ (Array.getElem?_eq_some_iff.1 hm).1).trans hm⟩, fun x => by obtain ⟨a13, c13, e9, hr13, hac13⟩ := HQ.out.2.2.2.2.1 (on_back (by omega) x (by decide)); exact ⟨_, _, e9, hr13.below hb, hac13⟩, fun _ => ⟨b, rfl, h3⟩, fun x => by obtain ⟨a15, c15, e9, hr15, hac15⟩ := HQ.out.2.2.2.2.2.2.1 (on_back (by omega) x (by decide)); exact ⟨_, _, e9, hr15.below hb, hac15⟩, fun x => by obtain ⟨a16, c16, e9, hr16, hac16⟩ := HQ.out.2.2.2.2.2.2.2 (on_back (by omega) x (by decide)); exact ⟨_, _, e9, hr16.below hb, hac16⟩⟩)
   | 15, _ =>
    cases hio
    have h14 : On f 14 := he ⟨14, .data⟩ (by simp) rfl
    obtain ⟨b, e14, h3⟩ := Q14 h14
    rw [e14]
    have HQ := Lib.hid (And.intro P (And.intro Q3 (And.intro Q6 (And.intro Q7 (And.intro Q13 (And.intro Q14 (And.intro Q15 Q16)))))))
    clear P Q3 Q6 Q7 Q13 Q14 Q15 Q16
    go_simp
    refine (HJ.out _ _ h3).mono ?_
    rintro e w6 ⟨a15, c15, rfl, hr15, hac15, hb⟩
    exact hK (upd (upd gv 21 (.slice (some ⟨b, 0, none⟩) 3 3)) 22 (.slice a15 p.length c15)) _ (by rw [upd_same e14]; exact ⟨hBx.step hb, vals_step (n := 15) (v := .slice a15 p.length c15) hD (by decide) (by omega) HQ.out.1 (fun h => nomatch (show true = false from h)), fun x => by obtain ⟨a3, c3, e9, hr3, hac3⟩ := HQ.out.2.1 (on_back (by omega) x (by decide)); exact ⟨_, _, e9, hr3.below hb, hac3⟩, fun x => by obtain ⟨a6, c6, e9, hr6, hac6⟩ := HQ.out.2.2.1 (on_back (by omega) x (by decide)); exact ⟨_, _, e9, hr6.below hb, hac6⟩, fun x => by obtain ⟨r, e9, hm⟩ := HQ.out.2.2.2.1 (on_back (by omega) x (by decide)); exact ⟨_, e9, (hb.block _ (Array.getElem?_eq_some_iff.1 hm).1).trans hm⟩, fun x => by obtain ⟨a13, c13, e9, hr13, hac13⟩ := HQ.out.2.2.2.2.1 (on_back (by omega) x (by decide)); exact ⟨_, _, e9, hr13.below hb, hac13⟩, fun x => by obtain ⟨b, e9, h3⟩ := HQ.out.2.2.2.2.2.1 (on_back (by omega) x (by decide)); exact ⟨_, e9, h3.step hb⟩, fun _ => ⟨a15, c15, rfl, hr15, hac15⟩, fun x => by obtain ⟨a16, c16, e9, hr16, hac16⟩ := HQ.out.2.2.2.2.2.2.2 (on_back (by omega) x (by decide)); exact ⟨_, _, e9, hr16.below hb, hac16⟩⟩)
   | 16, _ =>
    cases hio
    have h15 : On f 15 := he ⟨15, .data⟩ (by simp) rfl
    obtain ⟨a15, c15, e15, hr15, hac15⟩ := Q15 h15
    rw [e15]
    have HQ := Lib.hid (And.intro P (And.intro Q3 (And.intro Q6 (And.intro Q7 (And.intro Q13 (And.intro Q14 (And.intro Q15 Q16)))))))
    clear P Q3 Q6 Q7 Q13 Q14 Q15 Q16
    go_simp
    exact hK (upd (upd gv 22 (.slice a15 p.length c15)) 2 (.slice a15 p.length c15)) _ (by rw [upd_same e15]; exact ⟨hBx, vals_step (n := 16) (v := .slice a15 p.length c15) hD (by decide) (by omega) HQ.out.1 (fun h => nomatch (show true = false from h)), fun x => HQ.out.2.1 (on_back (by omega) x (by decide)), fun x => HQ.out.2.2.1 (on_back (by omega) x (by decide)), fun x => HQ.out.2.2.2.1 (on_back (by omega) x (by decide)), fun x => HQ.out.2.2.2.2.1 (on_back (by omega) x (by decide)), fun x => HQ.out.2.2.2.2.2.1 (on_back (by omega) x (by decide)), fun x => HQ.out.2.2.2.2.2.2.1 (on_back (by omega) x (by decide)), fun _ => ⟨a15, c15, rfl, hr15, hac15⟩⟩)
   | 17, _ =>
    cases hio
    have HQ := Lib.hid (And.intro P (And.intro Q3 (And.intro Q6 (And.intro Q7 (And.intro Q13 (And.intro Q14 (And.intro Q15 Q16)))))))
    clear P Q3 Q6 Q7 Q13 Q14 Q15 Q16
    go_simp
    exact hK (upd gv 3 (.int .i64 0)) _ (by exact ⟨hBx, vals_step (n := 17) (v := .int .i64 0) hD (by decide) (by omega) HQ.out.1 (fun _ => rfl), fun x => HQ.out.2.1 (on_back (by omega) x (by decide)), fun x => HQ.out.2.2.1 (on_back (by omega) x (by decide)), fun x => HQ.out.2.2.2.1 (on_back (by omega) x (by decide)), fun x => HQ.out.2.2.2.2.1 (on_back (by omega) x (by decide)), fun x => HQ.out.2.2.2.2.2.1 (on_back (by omega) x (by decide)), fun x => HQ.out.2.2.2.2.2.2.1 (on_back (by omega) x (by decide)), fun x => HQ.out.2.2.2.2.2.2.2 (on_back (by omega) x (by decide))⟩)
  ·rintro f gv w5 hall hs' ⟨hBx, P, Q3, Q6, Q7, Q13, Q14, Q15, Q16⟩
   replace hs' : f.size = 18 := hs'
   have on : ∀ j, j < 18 → On f j := fun j hj => on_all hall hs' j hj
   obtain ⟨a16, c16, e2, hr16, hac16⟩ := Q16 (on 16 (by decide))
   have e3 : gv 3 = .int .i64 0 := P 17 (by decide) rfl (on 17 (by decide))
   have HE := Lib.hid (show Rd w5 a16 p.length c16 p ∧ (a16 = none → c16 = 0) ∧ Below w.heap.size w w5 from ⟨hr16, hac16, HB2.out.step hBx⟩)
   rw [e2, e3]
   clear P Q3 Q6 Q7 Q13 Q14 Q15 Q16 hBx hall hs' on e2 e3 hr16 hac16 hD
   go_wp2_with fail
   go_ret2
   show PutP o w _ _
   unfold PutP
   rw [HM.out, if_pos rfl, ← HP.out]
   exact ⟨a16, c16, rfl, HE.out⟩
end Go.Proofs.YtofadpodlaakbaaGreat
