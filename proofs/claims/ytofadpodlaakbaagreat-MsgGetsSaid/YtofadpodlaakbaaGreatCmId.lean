/- The walk of the reader's id, of the layer commit. -/
import Derived.Test.YtofadpodlaakbaaGreatCmRead
import Derived.Laws.CopyRow
import Derived.Lib.SlBuf
namespace Go.Proofs.YtofadpodlaakbaaGreat
open Go.ChangeShapes Go.WideShapes Go.ChangeAt Go.RowKit
set_option linter.unusedVariables false
set_option linter.unusedSimpArgs false
theorem PastN.fresh {w w' w'' : World} {b b2 : Nat} (h : PastN w w' b) (ho : Only w' w'' b2) (hlo : w.heap.size ≤ b2) : PastN w w'' b :=
 ⟨ho.os.trans h.os, ho.tape.trans h.tape, ho.output.trans h.output, by rw [ho.size]; exact h.size, fun k hk hne => (ho.block k (by omega)).trans (h.block k hk hne)⟩
theorem Rd.pastn {w w' : World} {a : Option Addr} {n c b : Nat} {l : List UInt8} (h : Rd w a n c l) (hp : PastN w w' b) (hne : ∀ x, a = some x → 0 < n → x.block ≠ b) : Rd w' a n c l := by
 refine ⟨h.len, h.le, h.cap, ?_⟩
 by_cases hz : n = 0
 ·exact .inl hz
 rcases h.cells with h0 | ⟨b', off, rfl, hlt, hc⟩
 ·exact .inl h0
 ·exact .inr ⟨b', off, rfl, Nat.lt_of_lt_of_le hlt hp.size, fun i hi => hp.cell (hc i hi) (show b' ≠ b from hne ⟨b', off, none⟩ rfl (by omega))⟩
theorem copy_arr {w : World} {g : Nat} {t : TypeId} {vs : List Value} (hc : Cel w g t vs) (hvs : vs.length = 32) {a : Option Addr} {n c : Nat} {l : List UInt8} (hr : Rd w a n c l) (h32 : 32 ≤ n) (ty : TypeId) :
  ∃ w', (Builtin.copy_ #[28, 28] ty #[.slice (some ⟨g, 0, none⟩) 32 32, .slice a n c]).run Tryz.prog w = .ok (.int .i64 32) w' ∧ Cel w' g t (Bs (l.take 32)) ∧ Only w w' g := by
 rcases hr.cells with h0 | ⟨b, off, rfl, hlt, hcell⟩
 ·omega
 have hl := hr.len
 have hlen : (Bs (l.take 32)).length = 32 := by rw [Bs_length, List.length_take]; omega
 have hrun := run_copy_row (P := Tryz.prog) w 28 28 ty 5 g 0 32 32 ⟨b, off, none⟩ n c vs.toArray t (Bs (l.take 32)) Tryz.underlying28 (by kernel_rfl) hc (by rw [hlen]; exact (Nat.min_eq_right h32).symm) (fun j v hj => by
  have hjl := (List.getElem?_eq_some_iff.1 hj).1
  rw [hlen] at hjl
  have hadd : (⟨b, off, none⟩ : Addr).add j = ⟨b, off + j, none⟩ := by unfold Addr.add; split <;> simp_all
  rw [hadd, hcell j (by omega)]
  rw [Bs_at _ j (by rw [List.length_take]; omega)] at hj
  rw [← hj, List.getD_eq_getElem?_getD, List.getD_eq_getElem?_getD, List.getElem?_take_of_lt hjl]) (by rw [hlen, List.size_toArray, hvs]; omega) (Bs_one _)
 have hcs : (vs.toArray.toList.take 0 ++ Bs (l.take 32) ++ vs.toArray.toList.drop (0 + (Bs (l.take 32)).length)).toArray = (Bs (l.take 32)).toArray := by
  rw [hlen]
  simp [hvs]
 rw [hcs, hlen] at hrun
 refine ⟨_, hrun, ?_, ?_⟩
 ·show ((w.heap.modify g _)[g]?) = _
  rw [Array.getElem?_modify, if_pos rfl, show w.heap[g]? = some (.cells vs.toArray t (0, 0)) from hc]
  rfl
 ·refine ⟨rfl, rfl, rfl, ?_, fun k hk => ?_⟩
  ·show (w.heap.modify g _).size = _
   simp
  ·show ((w.heap.modify g _)[k]?) = _
   rw [Array.getElem?_modify, if_neg (fun h => hk h.symm)]
theorem copy_run_at {P : Program} {ops : Array Oper} {o : Oper} {ts : Array Value} {ds : List Deferred} {w : World} {K : Act → World → Prop} {Q : Exit → Act → World → Prop} {E : Prop}
  (hw : Region.wanted o (yielded ops ts) = true) (s x : Operand) (t : TypeId) (hop : o.op = Op.call { callee := Callee.builtin Builtin.copy, args := #[s, x], argTypes := #[t, t] })
  {v y v' : Value} {w' : World} (hs : Act.eval ⟨ts, ds⟩ s = v) (hx : Act.eval ⟨ts, ds⟩ x = y) (hrun : (Builtin.copy_ #[t, t] o.type #[v, y]).run P w = .ok v' w') (hK : K (Act.put ⟨ts, ds⟩ o.dst v') w') :
  if Region.wanted o (yielded ops ts) = true then o.wp P ⟨ts, ds⟩ w K Q else E := by
 rw [if_pos hw]
 exact Lib.wp_copy_run w s x t t hop v y hs hx hrun hK
def RIdP (ok : Nat → Prop) (br : Nat) (l : List UInt8) (w : World) (e : Ending) (w' : World) : Prop :=
 if 32 ≤ l.length then e = .returned (arr (l.take 32)) ∧ RdR ok w' br 134 [] (l.drop 32) ∧ PastN w w' br else e = .panicked wrongC ∧ PastN w w' br
set_option maxRecDepth 100000 in
set_option maxHeartbeats 4000000 in
theorem rid_any (ok : Nat → Prop) (br : Nat) (l : List UInt8) (w : World) (hr : RdR ok w br 134 [] l) (hl : l.length ≤ 100000) : Calls Tryz.prog 122 #[.pointer (some ⟨br, 0, none⟩)] w (RIdP ok br l w) := by
 obtain ⟨a, c, hc, hrd, hz, hne⟩ := hr
 obtain ⟨n, hn⟩ : ∃ n, n = l.length := ⟨_, rfl⟩
 rw [← hn] at hc hrd hl hne
 have hn63 : n ≤ 9223372036854775807 := by omega
 have HN := Lib.hid hn
 have HRD := Lib.hid (And.intro hrd (And.intro hz hne))
 have HC := Lib.hid hc
 clear hn hc hrd hz hne
 go_enter Tryz.func122, Tryz.ntmps122
 iterate 1 go_step
 iterate 1 go_step
 refine wpList_alloc rfl 48 rfl (Bs zero32).toArray (by kernel_rfl) ?_
 simp only [Act.put, List.setIfInBounds_toArray, List.set_cons_zero, List.set_cons_succ]
 obtain ⟨b2, hb2⟩ : ∃ b2, b2 = w.heap.size := ⟨_, rfl⟩
 have hD0 := Cel.new w 48 (Bs zero32)
 rw [← hb2] at hD0 ⊢
 generalize hw1 : w.alloc (.cells (Bs zero32).toArray _) = w1
 have HD1 := Lib.hid (show Cel w1 b2 48 (Bs zero32) by rw [← hw1]; exact hD0)
 have hb01 : Below w.heap.size w w1 := by rw [← hw1]; exact (Below.refl _ _).alloc (Nat.le_refl _) _
 have HB1 := Lib.hid hb01
 have HLO := Lib.hid (show w.heap.size ≤ b2 from Nat.le_of_eq hb2.symm)
 have HBR := Lib.hid (show br < w.heap.size from HC.out.lt)
 have p0 : w1.cell? ⟨br, 0, none⟩ = some (.slice a n c) := (HC.out.step hb01).at 0 _ rfl
 clear hD0 hw1 hb01 hb2
 by_cases h32 : 32 ≤ n
 case neg =>
  have hno : decide ((32 : Int) ≤ (n : Int)) = false := decide_eq_false (by omega)
  have HF := Lib.hid (show ∀ e w', e = .panicked wrongC → PastN w w' br → RIdP ok br l w e w' from fun e w' h1 h2 => by unfold RIdP; rw [if_neg (by rw [← HN.out]; exact h32)]; exact ⟨h1, h2⟩)
  clear h32
  go_wp2_with fail
  refine (unless_no _).mono ?_
  rintro e w' ⟨rfl, rfl⟩
  go_wp2_with fail
  exact ⟨rfl, HF.out _ _ rfl (PastN.of_below HB1.out)⟩
 have hyes : decide ((32 : Int) ≤ (n : Int)) = true := decide_eq_true (by omega)
 obtain ⟨a', hs, hR, hac, hblk⟩ := HRD.out.1.slb HRD.out.2.1 32 h32
 have hd1 : (l.drop 32).length = n - 32 := by rw [List.length_drop, ← HN.out]
 have ht1 : (l.take 32).length = 32 := by rw [List.length_take, ← HN.out]; omega
 have hsl0 : ∀ w', (Instr.slice 28 (.slice a n c) (some (.int .i64 ((32 : Nat) : Int))) none none).run Tryz.prog w' = .ok (.slice a' (n - 32) (c - 32)) w' := fun w' => by rw [slice_l w' a n c 32 h32, hs]
 have hsl : ∀ w', (Instr.slice 28 (.slice a n c) (some (.int .i64 32)) none none).run Tryz.prog w' = .ok (.slice a' (n - 32) (c - 32)) w' := hsl0
 have hsa : ∀ w', (Instr.sliceAt 28 (.slice a n c) (some (.int .i64 32)) none none).run Tryz.prog w' = .ok (.slice a' (n - 32) (c - 32)) w' := fun w' => by rw [slice_at]; exact hsl w'
 have hid := fun w' => slice_id b2 w'
 have HAP := Lib.hid (show (∀ w', Rd w' a n c l → Rd w' a' (n - 32) (c - 32) (l.drop 32)) ∧ (a' = none → c - 32 = 0) ∧ ∀ x, a' = some x → 0 < n - 32 → x.block ≠ br ∧ ok x.block from ⟨hR, hac, fun x hx hp => by
  obtain ⟨y, hy1, hy2⟩ := hblk x hx
  rw [hy2]
  exact HRD.out.2.2 y hy1 (by omega)⟩)
 have HT := Lib.hid (And.intro hd1 ht1)
 have H32 := Lib.hid h32
 have HNE := Lib.hid (show br ≠ b2 by have := HBR.out; have := HLO.out; omega)
 clear hs hR hac hblk hd1 ht1 hsl0 h32
 go_wp2_with fail
 refine (unless_yes _).mono ?_
 rintro e w' ⟨rfl, rfl⟩
 clear hyes p0
 go_upto_region 2 with fail
 have hD : ∀ j, j < 15 → ∀ n, n < 15 → j ≠ n → dkN [10, 11, 12, 13, 14, 15, 16, 17, 18, 19, 20, 21, 22, 23, 1014] j ≠ dkN [10, 11, 12, 13, 14, 15, 16, 17, 18, 19, 20, 21, 22, 23, 1014] n := by decide +kernel
 refine region_fun (by kernel_rfl) (by kernel_rfl) (fun gv => #[.pointer (some ⟨br, 0, none⟩), gv 1, .pointer (some ⟨b2, 0, none⟩), gv 3, gv 4, gv 5, gv 6, gv 7, gv 8, gv 9, gv 10, gv 11, gv 12, gv 13, gv 14, gv 15, gv 16, gv 17, gv 18, gv 19, gv 20, gv 21, gv 22, gv 23, gv 24]) rfl (fun f gv wx => True ∧ (∀ j, j < 15 → (fun j => Nat.beq j 14) j = false → On f j → gv (dkN [10, 11, 12, 13, 14, 15, 16, 17, 18, 19, 20, 21, 22, 23, 1014] j) = vkN [.pointer (some ⟨br, 0, none⟩), .pointer (some ⟨br, 0, none⟩), .pointer (some ⟨br, 0, none⟩), .pointer (some ⟨br, 0, none⟩), .slice a n c, .slice (some ⟨b2, 0, none⟩) 32 32, .pointer (some ⟨br, 0, none⟩), .pointer (some ⟨br, 0, none⟩), .pointer (some ⟨br, 0, none⟩), .slice a n c, .int .i64 32, .slice a' (n - 32) (c - 32), .pointer (some ⟨br, 0, none⟩), .pointer (some ⟨br, 0, none⟩), undef] j) ∧ (PastN w wx br) ∧ ((¬ On f 14 → Cel wx br 134 [.slice a n c]) ∧ (On f 14 → Cel wx br 134 [.slice a' (n - 32) (c - 32)])) ∧ ((¬ On f 10 → Cel wx b2 48 (Bs zero32)) ∧ (On f 10 → Cel wx b2 48 (Bs (l.take 32)))) ∧ ((On f 10 → On f 9)) ∧ ((On f 11 → On f 4 ∧ On f 9)) ∧ ((On f 14 → On f 4 ∧ On f 9))) ?_ ?_ ?_
 ·have hoff : ∀ j, ¬ On (Array.replicate 15 false) j := by
   intro j hj; simp only [On, Array.getD_eq_getD_getElem?, Array.getElem?_replicate] at hj; split at hj <;> simp at hj
  exact ⟨trivial, fun j _ _ x => absurd x (hoff _), (PastN.of_below HB1.out).step (Below.refl _ _).drew, ⟨fun _ => HC.out.step HB1.out.drew, fun x => absurd x (hoff _)⟩, ⟨fun _ => HD1.out, fun x => absurd x (hoff _)⟩, fun x => absurd x (hoff _), fun x => absurd x (hoff _), fun x => absurd x (hoff _)⟩
 ·rintro i' o' f gv wm hio hs' hn he ⟨hBx, P, hP, QC, QD, D10, D11, D14⟩ KK hKK
  have hi' : i' < 15 := (Array.getElem?_eq_some_iff.1 hio).1
  replace hs' : f.size = 15 := hs'
  match i', hi' with
  | 0, _ =>
   cases hio
   have off : ¬ On f 0 := on_off (by omega) hn
   have HQ := Lib.hid (And.intro P (And.intro hP (And.intro QC (And.intro QD (And.intro D10 (And.intro D11 D14))))))
   clear P hP QC QD D10 D11 D14
   go_simp
   obtain ⟨P, hP, QC, QD, D10, D11, D14⟩ := HQ.out
   obtain ⟨bk, fw, fn⟩ := on3 (f := f) (i := 0) (by omega)
   exact hKK (upd gv 10 (.pointer (some ⟨br, 0, none⟩))) _ (by exact ⟨trivial, vals_step (n := 0) (v := .pointer (some ⟨br, 0, none⟩)) hD (by decide) (by omega) P (fun _ => rfl), hP, ⟨fun x => QC.1 (fun y => x (fw 14 y)), fun x => QC.2 (bk 14 (by decide) x)⟩, ⟨fun x => QD.1 (fun y => x (fw 10 y)), fun x => QD.2 (bk 10 (by decide) x)⟩, fun x => fw 9 (D10 (bk 10 (by decide) x)), fun x => ⟨fw 4 (D11 (bk 11 (by decide) x)).1, fw 9 (D11 (bk 11 (by decide) x)).2⟩, fun x => ⟨fw 4 (D14 (bk 14 (by decide) x)).1, fw 9 (D14 (bk 14 (by decide) x)).2⟩⟩)
  | 1, _ =>
   cases hio
   have off : ¬ On f 1 := on_off (by omega) hn
   have HQ := Lib.hid (And.intro P (And.intro hP (And.intro QC (And.intro QD (And.intro D10 (And.intro D11 D14))))))
   clear P hP QC QD D10 D11 D14
   go_simp
   obtain ⟨P, hP, QC, QD, D10, D11, D14⟩ := HQ.out
   obtain ⟨bk, fw, fn⟩ := on3 (f := f) (i := 1) (by omega)
   exact hKK (upd gv 11 (.pointer (some ⟨br, 0, none⟩))) _ (by exact ⟨trivial, vals_step (n := 1) (v := .pointer (some ⟨br, 0, none⟩)) hD (by decide) (by omega) P (fun _ => rfl), hP, ⟨fun x => QC.1 (fun y => x (fw 14 y)), fun x => QC.2 (bk 14 (by decide) x)⟩, ⟨fun x => QD.1 (fun y => x (fw 10 y)), fun x => QD.2 (bk 10 (by decide) x)⟩, fun x => fw 9 (D10 (bk 10 (by decide) x)), fun x => ⟨fw 4 (D11 (bk 11 (by decide) x)).1, fw 9 (D11 (bk 11 (by decide) x)).2⟩, fun x => ⟨fw 4 (D14 (bk 14 (by decide) x)).1, fw 9 (D14 (bk 14 (by decide) x)).2⟩⟩)
  | 2, _ =>
   cases hio
   have off : ¬ On f 2 := on_off (by omega) hn
   have h1 : On f 1 := he ⟨1, .data⟩ (by simp) rfl
   have e1 : gv 11 = .pointer (some ⟨br, 0, none⟩) := P 1 (by decide) rfl h1
   rw [e1]
   have HQ := Lib.hid (And.intro P (And.intro hP (And.intro QC (And.intro QD (And.intro D10 (And.intro D11 D14))))))
   clear P hP QC QD D10 D11 D14
   go_simp
   obtain ⟨P, hP, QC, QD, D10, D11, D14⟩ := HQ.out
   obtain ⟨bk, fw, fn⟩ := on3 (f := f) (i := 2) (by omega)
   exact hKK (upd (upd gv 11 (.pointer (some ⟨br, 0, none⟩))) 12 (.pointer (some ⟨br, 0, none⟩))) _ (by rw [upd_same e1]; exact ⟨trivial, vals_step (n := 2) (v := .pointer (some ⟨br, 0, none⟩)) hD (by decide) (by omega) P (fun _ => rfl), hP, ⟨fun x => QC.1 (fun y => x (fw 14 y)), fun x => QC.2 (bk 14 (by decide) x)⟩, ⟨fun x => QD.1 (fun y => x (fw 10 y)), fun x => QD.2 (bk 10 (by decide) x)⟩, fun x => fw 9 (D10 (bk 10 (by decide) x)), fun x => ⟨fw 4 (D11 (bk 11 (by decide) x)).1, fw 9 (D11 (bk 11 (by decide) x)).2⟩, fun x => ⟨fw 4 (D14 (bk 14 (by decide) x)).1, fw 9 (D14 (bk 14 (by decide) x)).2⟩⟩)
  | 3, _ =>
   cases hio
   have off : ¬ On f 3 := on_off (by omega) hn
   have h2 : On f 2 := he ⟨2, .data⟩ (by simp) rfl
   have e2 : gv 12 = .pointer (some ⟨br, 0, none⟩) := P 2 (by decide) rfl h2
   rw [e2]
   have HQ := Lib.hid (And.intro P (And.intro hP (And.intro QC (And.intro QD (And.intro D10 (And.intro D11 D14))))))
   clear P hP QC QD D10 D11 D14
   go_simp
   obtain ⟨P, hP, QC, QD, D10, D11, D14⟩ := HQ.out
   obtain ⟨bk, fw, fn⟩ := on3 (f := f) (i := 3) (by omega)
   exact hKK (upd (upd gv 12 (.pointer (some ⟨br, 0, none⟩))) 13 (.pointer (some ⟨br, 0, none⟩))) _ (by rw [upd_same e2]; exact ⟨trivial, vals_step (n := 3) (v := .pointer (some ⟨br, 0, none⟩)) hD (by decide) (by omega) P (fun _ => rfl), hP, ⟨fun x => QC.1 (fun y => x (fw 14 y)), fun x => QC.2 (bk 14 (by decide) x)⟩, ⟨fun x => QD.1 (fun y => x (fw 10 y)), fun x => QD.2 (bk 10 (by decide) x)⟩, fun x => fw 9 (D10 (bk 10 (by decide) x)), fun x => ⟨fw 4 (D11 (bk 11 (by decide) x)).1, fw 9 (D11 (bk 11 (by decide) x)).2⟩, fun x => ⟨fw 4 (D14 (bk 14 (by decide) x)).1, fw 9 (D14 (bk 14 (by decide) x)).2⟩⟩)
  | 4, _ =>
   cases hio
   have off : ¬ On f 4 := on_off (by omega) hn
   have h3 : On f 3 := he ⟨3, .data⟩ (by simp) rfl
   have e3 : gv 13 = .pointer (some ⟨br, 0, none⟩) := P 3 (by decide) rfl h3
   have d0 : wm.cell? ⟨br, 0, none⟩ = some (.slice a n c) := (QC.1 (fun x => off (D14 x).1)).at 0 _ rfl
   rw [e3]
   have HQ := Lib.hid (And.intro P (And.intro hP (And.intro QC (And.intro QD (And.intro D10 (And.intro D11 D14))))))
   clear P hP QC QD D10 D11 D14
   go_simp
   obtain ⟨P, hP, QC, QD, D10, D11, D14⟩ := HQ.out
   obtain ⟨bk, fw, fn⟩ := on3 (f := f) (i := 4) (by omega)
   exact hKK (upd (upd gv 13 (.pointer (some ⟨br, 0, none⟩))) 14 (.slice a n c)) _ (by rw [upd_same e3]; exact ⟨trivial, vals_step (n := 4) (v := .slice a n c) hD (by decide) (by omega) P (fun _ => rfl), hP, ⟨fun x => QC.1 (fun y => x (fw 14 y)), fun x => QC.2 (bk 14 (by decide) x)⟩, ⟨fun x => QD.1 (fun y => x (fw 10 y)), fun x => QD.2 (bk 10 (by decide) x)⟩, fun x => fw 9 (D10 (bk 10 (by decide) x)), fun x => ⟨fw 4 (D11 (bk 11 (by decide) x)).1, fw 9 (D11 (bk 11 (by decide) x)).2⟩, fun x => ⟨fw 4 (D14 (bk 14 (by decide) x)).1, fw 9 (D14 (bk 14 (by decide) x)).2⟩⟩)
  | 5, _ =>
   cases hio
   have off : ¬ On f 5 := on_off (by omega) hn
   have HQ := Lib.hid (And.intro P (And.intro hP (And.intro QC (And.intro QD (And.intro D10 (And.intro D11 D14))))))
   clear P hP QC QD D10 D11 D14
   go_simp
   obtain ⟨P, hP, QC, QD, D10, D11, D14⟩ := HQ.out
   obtain ⟨bk, fw, fn⟩ := on3 (f := f) (i := 5) (by omega)
   exact hKK (upd gv 15 (.slice (some ⟨b2, 0, none⟩) 32 32)) _ (by exact ⟨trivial, vals_step (n := 5) (v := .slice (some ⟨b2, 0, none⟩) 32 32) hD (by decide) (by omega) P (fun _ => rfl), hP, ⟨fun x => QC.1 (fun y => x (fw 14 y)), fun x => QC.2 (bk 14 (by decide) x)⟩, ⟨fun x => QD.1 (fun y => x (fw 10 y)), fun x => QD.2 (bk 10 (by decide) x)⟩, fun x => fw 9 (D10 (bk 10 (by decide) x)), fun x => ⟨fw 4 (D11 (bk 11 (by decide) x)).1, fw 9 (D11 (bk 11 (by decide) x)).2⟩, fun x => ⟨fw 4 (D14 (bk 14 (by decide) x)).1, fw 9 (D14 (bk 14 (by decide) x)).2⟩⟩)
  | 6, _ =>
   cases hio
   have off : ¬ On f 6 := on_off (by omega) hn
   have HQ := Lib.hid (And.intro P (And.intro hP (And.intro QC (And.intro QD (And.intro D10 (And.intro D11 D14))))))
   clear P hP QC QD D10 D11 D14
   go_simp
   obtain ⟨P, hP, QC, QD, D10, D11, D14⟩ := HQ.out
   obtain ⟨bk, fw, fn⟩ := on3 (f := f) (i := 6) (by omega)
   exact hKK (upd gv 16 (.pointer (some ⟨br, 0, none⟩))) _ (by exact ⟨trivial, vals_step (n := 6) (v := .pointer (some ⟨br, 0, none⟩)) hD (by decide) (by omega) P (fun _ => rfl), hP, ⟨fun x => QC.1 (fun y => x (fw 14 y)), fun x => QC.2 (bk 14 (by decide) x)⟩, ⟨fun x => QD.1 (fun y => x (fw 10 y)), fun x => QD.2 (bk 10 (by decide) x)⟩, fun x => fw 9 (D10 (bk 10 (by decide) x)), fun x => ⟨fw 4 (D11 (bk 11 (by decide) x)).1, fw 9 (D11 (bk 11 (by decide) x)).2⟩, fun x => ⟨fw 4 (D14 (bk 14 (by decide) x)).1, fw 9 (D14 (bk 14 (by decide) x)).2⟩⟩)
  | 7, _ =>
   cases hio
   have off : ¬ On f 7 := on_off (by omega) hn
   have h6 : On f 6 := he ⟨6, .data⟩ (by simp) rfl
   have e6 : gv 16 = .pointer (some ⟨br, 0, none⟩) := P 6 (by decide) rfl h6
   rw [e6]
   have HQ := Lib.hid (And.intro P (And.intro hP (And.intro QC (And.intro QD (And.intro D10 (And.intro D11 D14))))))
   clear P hP QC QD D10 D11 D14
   go_simp
   obtain ⟨P, hP, QC, QD, D10, D11, D14⟩ := HQ.out
   obtain ⟨bk, fw, fn⟩ := on3 (f := f) (i := 7) (by omega)
   exact hKK (upd (upd gv 16 (.pointer (some ⟨br, 0, none⟩))) 17 (.pointer (some ⟨br, 0, none⟩))) _ (by rw [upd_same e6]; exact ⟨trivial, vals_step (n := 7) (v := .pointer (some ⟨br, 0, none⟩)) hD (by decide) (by omega) P (fun _ => rfl), hP, ⟨fun x => QC.1 (fun y => x (fw 14 y)), fun x => QC.2 (bk 14 (by decide) x)⟩, ⟨fun x => QD.1 (fun y => x (fw 10 y)), fun x => QD.2 (bk 10 (by decide) x)⟩, fun x => fw 9 (D10 (bk 10 (by decide) x)), fun x => ⟨fw 4 (D11 (bk 11 (by decide) x)).1, fw 9 (D11 (bk 11 (by decide) x)).2⟩, fun x => ⟨fw 4 (D14 (bk 14 (by decide) x)).1, fw 9 (D14 (bk 14 (by decide) x)).2⟩⟩)
  | 8, _ =>
   cases hio
   have off : ¬ On f 8 := on_off (by omega) hn
   have h7 : On f 7 := he ⟨7, .data⟩ (by simp) rfl
   have e7 : gv 17 = .pointer (some ⟨br, 0, none⟩) := P 7 (by decide) rfl h7
   rw [e7]
   have HQ := Lib.hid (And.intro P (And.intro hP (And.intro QC (And.intro QD (And.intro D10 (And.intro D11 D14))))))
   clear P hP QC QD D10 D11 D14
   go_simp
   obtain ⟨P, hP, QC, QD, D10, D11, D14⟩ := HQ.out
   obtain ⟨bk, fw, fn⟩ := on3 (f := f) (i := 8) (by omega)
   exact hKK (upd (upd gv 17 (.pointer (some ⟨br, 0, none⟩))) 18 (.pointer (some ⟨br, 0, none⟩))) _ (by rw [upd_same e7]; exact ⟨trivial, vals_step (n := 8) (v := .pointer (some ⟨br, 0, none⟩)) hD (by decide) (by omega) P (fun _ => rfl), hP, ⟨fun x => QC.1 (fun y => x (fw 14 y)), fun x => QC.2 (bk 14 (by decide) x)⟩, ⟨fun x => QD.1 (fun y => x (fw 10 y)), fun x => QD.2 (bk 10 (by decide) x)⟩, fun x => fw 9 (D10 (bk 10 (by decide) x)), fun x => ⟨fw 4 (D11 (bk 11 (by decide) x)).1, fw 9 (D11 (bk 11 (by decide) x)).2⟩, fun x => ⟨fw 4 (D14 (bk 14 (by decide) x)).1, fw 9 (D14 (bk 14 (by decide) x)).2⟩⟩)
  | 9, _ =>
   cases hio
   have off : ¬ On f 9 := on_off (by omega) hn
   have h8 : On f 8 := he ⟨8, .data⟩ (by simp) rfl
   have e8 : gv 18 = .pointer (some ⟨br, 0, none⟩) := P 8 (by decide) rfl h8
   have d0 : wm.cell? ⟨br, 0, none⟩ = some (.slice a n c) := (QC.1 (fun x => off (D14 x).2)).at 0 _ rfl
   rw [e8]
   have HQ := Lib.hid (And.intro P (And.intro hP (And.intro QC (And.intro QD (And.intro D10 (And.intro D11 D14))))))
   clear P hP QC QD D10 D11 D14
   go_simp
   obtain ⟨P, hP, QC, QD, D10, D11, D14⟩ := HQ.out
   obtain ⟨bk, fw, fn⟩ := on3 (f := f) (i := 9) (by omega)
   exact hKK (upd (upd gv 18 (.pointer (some ⟨br, 0, none⟩))) 19 (.slice a n c)) _ (by rw [upd_same e8]; exact ⟨trivial, vals_step (n := 9) (v := .slice a n c) hD (by decide) (by omega) P (fun _ => rfl), hP, ⟨fun x => QC.1 (fun y => x (fw 14 y)), fun x => QC.2 (bk 14 (by decide) x)⟩, ⟨fun x => QD.1 (fun y => x (fw 10 y)), fun x => QD.2 (bk 10 (by decide) x)⟩, fun x => fw 9 (D10 (bk 10 (by decide) x)), fun x => ⟨fw 4 (D11 (bk 11 (by decide) x)).1, fw 9 (D11 (bk 11 (by decide) x)).2⟩, fun x => ⟨fw 4 (D14 (bk 14 (by decide) x)).1, fw 9 (D14 (bk 14 (by decide) x)).2⟩⟩)
  | 10, _ =>
   cases hio
   have off : ¬ On f 10 := on_off (by omega) hn
   have h5 : On f 5 := he ⟨5, .data⟩ (by simp) rfl
   have e5 : gv 15 = .slice (some ⟨b2, 0, none⟩) 32 32 := P 5 (by decide) rfl h5
   have h9 : On f 9 := he ⟨9, .data⟩ (by simp) rfl
   have e9 : gv 19 = .slice a n c := P 9 (by decide) rfl h9
   obtain ⟨w6, hrun, hc6, ho6⟩ := copy_arr (QD.1 off) (by rw [Bs_length, zero32_length]) (HRD.out.1.pastn hP (fun x hx hp => (HRD.out.2.2 x hx hp).1)) H32.out 3
   rw [e5, e9]
   have HQ := Lib.hid (And.intro P (And.intro hP (And.intro QC (And.intro QD (And.intro D10 (And.intro D11 D14))))))
   clear P hP QC QD D10 D11 D14
   refine copy_run_at (by rfl) (.tmp 15) (.tmp 19) 28 rfl (by rfl) (by rfl) hrun ?_
   simp only [Act.put, List.setIfInBounds_toArray]
   obtain ⟨P, hP, QC, QD, D10, D11, D14⟩ := HQ.out
   obtain ⟨bk, fw, fn⟩ := on3 (f := f) (i := 10) (by omega)
   exact hKK (upd (upd (upd gv 15 (.slice (some ⟨b2, 0, none⟩) 32 32)) 19 (.slice a n c)) 20 (.int .i64 32)) _ (by rw [upd_same e5]; rw [upd_same e9]; exact ⟨trivial, vals_step (n := 10) (v := .int .i64 32) hD (by decide) (by omega) P (fun _ => rfl), hP.fresh ho6 HLO.out, ⟨fun x => ho6.heap (QC.1 (fun y => x (fw 14 y))) HNE.out, fun x => ho6.heap (QC.2 (bk 14 (by decide) x)) HNE.out⟩, ⟨fun x => absurd fn x, fun _ => hc6⟩, fun _ => fw 9 h9, fun x => ⟨fw 4 (D11 (bk 11 (by decide) x)).1, fw 9 (D11 (bk 11 (by decide) x)).2⟩, fun x => ⟨fw 4 (D14 (bk 14 (by decide) x)).1, fw 9 (D14 (bk 14 (by decide) x)).2⟩⟩)
  | 11, _ =>
   cases hio
   have off : ¬ On f 11 := on_off (by omega) hn
   have h4 : On f 4 := he ⟨4, .data⟩ (by simp) rfl
   have e4 : gv 14 = .slice a n c := P 4 (by decide) rfl h4
   have h10 : On f 10 := he ⟨10, .data⟩ (by simp) rfl
   have e10 : gv 20 = .int .i64 32 := P 10 (by decide) rfl h10
   rw [e4, e10]
   have HQ := Lib.hid (And.intro P (And.intro hP (And.intro QC (And.intro QD (And.intro D10 (And.intro D11 D14))))))
   clear P hP QC QD D10 D11 D14
   go_simp
   obtain ⟨P, hP, QC, QD, D10, D11, D14⟩ := HQ.out
   obtain ⟨bk, fw, fn⟩ := on3 (f := f) (i := 11) (by omega)
   exact hKK (upd (upd (upd gv 14 (.slice a n c)) 20 (.int .i64 32)) 21 (.slice a' (n - 32) (c - 32))) _ (by rw [upd_same e4]; rw [upd_same e10]; exact ⟨trivial, vals_step (n := 11) (v := .slice a' (n - 32) (c - 32)) hD (by decide) (by omega) P (fun _ => rfl), hP, ⟨fun x => QC.1 (fun y => x (fw 14 y)), fun x => QC.2 (bk 14 (by decide) x)⟩, ⟨fun x => QD.1 (fun y => x (fw 10 y)), fun x => QD.2 (bk 10 (by decide) x)⟩, fun x => fw 9 (D10 (bk 10 (by decide) x)), fun _ => ⟨fw 4 h4, fw 9 (D10 h10)⟩, fun x => ⟨fw 4 (D14 (bk 14 (by decide) x)).1, fw 9 (D14 (bk 14 (by decide) x)).2⟩⟩)
  | 12, _ =>
   cases hio
   have off : ¬ On f 12 := on_off (by omega) hn
   have h0 : On f 0 := he ⟨0, .data⟩ (by simp) rfl
   have e0 : gv 10 = .pointer (some ⟨br, 0, none⟩) := P 0 (by decide) rfl h0
   rw [e0]
   have HQ := Lib.hid (And.intro P (And.intro hP (And.intro QC (And.intro QD (And.intro D10 (And.intro D11 D14))))))
   clear P hP QC QD D10 D11 D14
   go_simp
   obtain ⟨P, hP, QC, QD, D10, D11, D14⟩ := HQ.out
   obtain ⟨bk, fw, fn⟩ := on3 (f := f) (i := 12) (by omega)
   exact hKK (upd (upd gv 10 (.pointer (some ⟨br, 0, none⟩))) 22 (.pointer (some ⟨br, 0, none⟩))) _ (by rw [upd_same e0]; exact ⟨trivial, vals_step (n := 12) (v := .pointer (some ⟨br, 0, none⟩)) hD (by decide) (by omega) P (fun _ => rfl), hP, ⟨fun x => QC.1 (fun y => x (fw 14 y)), fun x => QC.2 (bk 14 (by decide) x)⟩, ⟨fun x => QD.1 (fun y => x (fw 10 y)), fun x => QD.2 (bk 10 (by decide) x)⟩, fun x => fw 9 (D10 (bk 10 (by decide) x)), fun x => ⟨fw 4 (D11 (bk 11 (by decide) x)).1, fw 9 (D11 (bk 11 (by decide) x)).2⟩, fun x => ⟨fw 4 (D14 (bk 14 (by decide) x)).1, fw 9 (D14 (bk 14 (by decide) x)).2⟩⟩)
  | 13, _ =>
   cases hio
   have off : ¬ On f 13 := on_off (by omega) hn
   have h12 : On f 12 := he ⟨12, .data⟩ (by simp) rfl
   have e12 : gv 22 = .pointer (some ⟨br, 0, none⟩) := P 12 (by decide) rfl h12
   rw [e12]
   have HQ := Lib.hid (And.intro P (And.intro hP (And.intro QC (And.intro QD (And.intro D10 (And.intro D11 D14))))))
   clear P hP QC QD D10 D11 D14
   go_simp
   obtain ⟨P, hP, QC, QD, D10, D11, D14⟩ := HQ.out
   obtain ⟨bk, fw, fn⟩ := on3 (f := f) (i := 13) (by omega)
   exact hKK (upd (upd gv 22 (.pointer (some ⟨br, 0, none⟩))) 23 (.pointer (some ⟨br, 0, none⟩))) _ (by rw [upd_same e12]; exact ⟨trivial, vals_step (n := 13) (v := .pointer (some ⟨br, 0, none⟩)) hD (by decide) (by omega) P (fun _ => rfl), hP, ⟨fun x => QC.1 (fun y => x (fw 14 y)), fun x => QC.2 (bk 14 (by decide) x)⟩, ⟨fun x => QD.1 (fun y => x (fw 10 y)), fun x => QD.2 (bk 10 (by decide) x)⟩, fun x => fw 9 (D10 (bk 10 (by decide) x)), fun x => ⟨fw 4 (D11 (bk 11 (by decide) x)).1, fw 9 (D11 (bk 11 (by decide) x)).2⟩, fun x => ⟨fw 4 (D14 (bk 14 (by decide) x)).1, fw 9 (D14 (bk 14 (by decide) x)).2⟩⟩)
  | 14, _ =>
   cases hio
   have off : ¬ On f 14 := on_off (by omega) hn
   have h11 : On f 11 := he ⟨11, .data⟩ (by simp) rfl
   have e11 : gv 21 = .slice a' (n - 32) (c - 32) := P 11 (by decide) rfl h11
   have h13 : On f 13 := he ⟨13, .data⟩ (by simp) rfl
   have e13 : gv 23 = .pointer (some ⟨br, 0, none⟩) := P 13 (by decide) rfl h13
   have d0 : wm.cell? ⟨br, 0, none⟩ = some (.slice a n c) := (QC.1 off).at 0 _ rfl
   have d1 : wm.frozen? ⟨br, 0, none⟩ = false := (QC.1 off).free 0
   have hcz := (QC.1 off).set 0 (.slice a' (n - 32) (c - 32))
   have ho6 := only_set wm br 0 (.slice a' (n - 32) (c - 32))
   rw [e11, e13]
   have HQ := Lib.hid (And.intro P (And.intro hP (And.intro QC (And.intro QD (And.intro D10 (And.intro D11 D14))))))
   clear P hP QC QD D10 D11 D14
   go_simp
   obtain ⟨P, hP, QC, QD, D10, D11, D14⟩ := HQ.out
   obtain ⟨bk, fw, fn⟩ := on3 (f := f) (i := 14) (by omega)
   exact hKK (upd (upd gv 21 (.slice a' (n - 32) (c - 32))) 23 (.pointer (some ⟨br, 0, none⟩))) _ (by rw [upd_same e11]; rw [upd_same e13]; exact ⟨trivial, vals_keep (n := 14) (by omega) rfl P, hP.only ho6, ⟨fun x => absurd fn x, fun _ => hcz⟩, ⟨fun x => ho6.heap (QD.1 (fun y => x (fw 10 y))) HNE.out.symm, fun x => ho6.heap (QD.2 (bk 10 (by decide) x)) HNE.out.symm⟩, fun x => fw 9 (D10 (bk 10 (by decide) x)), fun x => ⟨fw 4 (D11 (bk 11 (by decide) x)).1, fw 9 (D11 (bk 11 (by decide) x)).2⟩, fun _ => ⟨fw 4 (D11 h11).1, fw 9 (D11 h11).2⟩⟩)
 ·rintro f gv w5 hall hs' ⟨hBx, P, hP, QC, QD, D10, D11, D14⟩
  replace hs' : f.size = 15 := hs'
  have on : ∀ j, j < 15 → On f j := fun j hj => on_all hall hs' j hj
  have hCF := QC.2 (on 14 (by decide))
  have hDF := QD.2 (on 10 (by decide))
  have HCR := Lib.hid hCF
  have HDF := Lib.hid hDF
  have HP := Lib.hid hP
  clear P QC QD D11 D10 D14 hP hBx hall hs' on hCF hDF hD hsl hsa hid
  go_upto_region 3 with fail
  go_step
  refine wpList_load_mid rfl 48 (.tmp 2) rfl b2 0 rfl (Bs (l.take 32)) _ HDF.out.range under_ids rfl (info_x HT.out.2) ?_
  simp only [Act.put, List.setIfInBounds_toArray, List.set_cons_zero, List.set_cons_succ]
  refine wpList_store_mid rfl 48 (.tmp 2) (.tmp 24) rfl b2 0 (Bs (l.take 32)).toArray rfl rfl ?h1 ?h2 ?h3 ?_
  case h1 => rw [List.size_toArray]; exact HDF.out.there
  case h2 => rw [List.size_toArray]; exact info_x HT.out.2
  case h3 => exact all_oneCell_toArray (Bs_one _)
  rw [List.toList_toArray]
  simp only [Act.put]
  generalize hwF : World.setCells w5 _ _ _ = wF
  have hOF : Only w5 wF b2 := by rw [← hwF]; exact only_sets _ _ _ _
  have HCF := Lib.hid (show Cel wF b2 48 (Bs (l.take 32)) by rw [← hwF]; exact Cel.sets b2 _ (Bs (l.take 32)) [] (Bs (l.take 32)) w5 rfl HDF.out)
  have HEND := Lib.hid (show RIdP ok br l w (.returned (.agg (Bs (l.take 32)).toArray)) wF from by
   unfold RIdP
   rw [if_pos (by rw [← HN.out]; exact H32.out)]
   have h3 := HP.out.fresh hOF HLO.out
   refine ⟨rfl, ⟨a', c - 32, by rw [HT.out.1]; exact hOF.heap HCR.out HNE.out, ?_, HAP.out.2.1, by rw [HT.out.1]; exact HAP.out.2.2⟩, h3⟩
   rw [HT.out.1]
   exact HAP.out.1 _ (HRD.out.1.pastn h3 (fun x hx hp => (HRD.out.2.2 x hx hp).1)))
  clear hwF hOF
  go_wp2_with fail
  refine bodyPost_ret (v := .agg (Bs (l.take 32)).toArray) ?_ rfl HEND.out
  have hld := run_loadVar_mid (P := Tryz.prog) wF b2 0 48 _ _ HCF.out.range under_ids rfl (info_x HT.out.2)
  simp [results, Tryz.results122, asAddr, hld, Result.andThen]
end Go.Proofs.YtofadpodlaakbaaGreat
