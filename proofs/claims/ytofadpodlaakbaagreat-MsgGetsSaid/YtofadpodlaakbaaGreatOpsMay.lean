/- The walks of May, of the layer ops and of its reference. -/
import Derived.Test.YtofadpodlaakbaaGreatOpsKinds
import Derived.Test.YtofadpodlaakbaaGreatJ1
namespace Go.Proofs.YtofadpodlaakbaaGreat
open Go.ChangeShapes Go.WideShapes Go.ChangeAt Go.RowKit
set_option linter.unusedVariables false
theorem empty_is {l : List UInt8} (h : l = []) : (ByteArray.toList ⟨l.toArray⟩).isEmpty = true := by rw [toList_bytes, h]; rfl
theorem empty_isnt {l : List UInt8} (h : l ≠ []) : (ByteArray.toList ⟨l.toArray⟩).isEmpty = false := by
 rw [toList_bytes]; cases l with
 | nil => exact absurd rfl h
 | cons x r => rfl
set_option maxRecDepth 100000 in
set_option maxHeartbeats 1000000 in
theorem may1_any (k n : Int) (key elem : List UInt8) (w : World) : Calls Tryz.prog 96 #[.agg #[.int .i64 k, .string ⟨key.toArray⟩, .string ⟨elem.toArray⟩, .int .i64 n]] w fun e w' => e = .returned (.bool (cntB ⟨k, key, elem, n⟩)) ∧ Below w.heap.size w w' := by
 obtain ⟨s1, hs1⟩ : ∃ s : ByteArray, s = ⟨key.toArray⟩ := ⟨_, rfl⟩
 obtain ⟨s2, hs2⟩ : ∃ s : ByteArray, s = ⟨elem.toArray⟩ := ⟨_, rfl⟩
 rw [← hs1, ← hs2]
 by_cases h0 : n = 0
 ·have HB := Lib.hid (show cntB ⟨k, key, elem, n⟩ = false by simp [cntB, h0])
  clear hs1 hs2
  subst h0
  go_enter Tryz.func96, Tryz.ntmps96
  go_wp2_with fail
  go_ret
  exact ⟨retb HB.out.symm, (Below.refl _ _).alloc (Nat.le_refl _) _⟩
 by_cases h1 : -1048576 ≤ n
 case neg =>
  have HB := Lib.hid (show cntB ⟨k, key, elem, n⟩ = false by simp [cntB, h1])
  clear hs1 hs2
  go_enter Tryz.func96, Tryz.ntmps96
  go_wp2_with fail
  go_ret
  exact ⟨retb HB.out.symm, (Below.refl _ _).alloc (Nat.le_refl _) _⟩
 by_cases h2 : n ≤ 1048576
 case neg =>
  have HB := Lib.hid (show cntB ⟨k, key, elem, n⟩ = false by simp [cntB, h2])
  clear hs1 hs2
  go_enter Tryz.func96, Tryz.ntmps96
  go_wp2_with fail
  go_ret
  exact ⟨retb HB.out.symm, (Below.refl _ _).alloc (Nat.le_refl _) _⟩
 by_cases h3 : elem = []
 ·have he : s2.toList.isEmpty = true := by rw [hs2]; exact empty_is h3
  have HB := Lib.hid (show cntB ⟨k, key, elem, n⟩ = true by simp [cntB, h0, h1, h2, h3])
  clear hs1 hs2 h3
  go_enter Tryz.func96, Tryz.ntmps96
  go_wp2_with fail
  go_ret
  exact ⟨retb (by rw [HB.out]; simpa using h0), (Below.refl _ _).alloc (Nat.le_refl _) _⟩
 ·have he : s2.toList.isEmpty = false := by rw [hs2]; exact empty_isnt h3
  have HB := Lib.hid (show cntB ⟨k, key, elem, n⟩ = false by simp [cntB, h3])
  clear hs1 hs2 h3
  go_enter Tryz.func96, Tryz.ntmps96
  go_wp2_with fail
  go_ret
  exact ⟨retb HB.out.symm, (Below.refl _ _).alloc (Nat.le_refl _) _⟩
set_option maxRecDepth 100000 in
set_option maxHeartbeats 1000000 in
theorem may4_any (k n : Int) (key elem : List UInt8) (w : World) (hl : elem.length ≤ 9223372036854775807) : Calls Tryz.prog 100 #[.agg #[.int .i64 k, .string ⟨key.toArray⟩, .string ⟨elem.toArray⟩, .int .i64 n]] w fun e w' => e = .returned (.bool (namB ⟨k, key, elem, n⟩)) ∧ Below w.heap.size w w' := by
 have HK := Lib.hid (fun w' => key_any elem w' hl)
 by_cases h0 : n = 0
 ·have HB := Lib.hid (show namB ⟨k, key, elem, n⟩ = keyB elem by simp [namB, h0])
  subst h0
  go_enter Tryz.func100, Tryz.ntmps100
  go_wp2_with fail
  refine (HK.out _).mono ?_
  rintro e w' ⟨rfl, rfl⟩
  go_wp2_with fail
  go_ret
  exact ⟨retb HB.out.symm, (Below.refl _ _).alloc (Nat.le_refl _) _⟩
 ·have HB := Lib.hid (show namB ⟨k, key, elem, n⟩ = false by simp [namB, h0])
  go_enter Tryz.func100, Tryz.ntmps100
  go_wp2_with fail
  go_ret
  exact ⟨retb HB.out.symm, (Below.refl _ _).alloc (Nat.le_refl _) _⟩
theorem info_kind : (Tryz.prog.info? 111).map (·.size) = some 3 := by kernel_rfl
set_option maxRecDepth 100000 in
set_option maxHeartbeats 2000000 in
theorem may_any (k n : Int) (key elem : List UInt8) (w : World) (hl1 : key.length ≤ 9223372036854775807) (hl2 : elem.length ≤ 9223372036854775807) : Calls Tryz.prog 62 #[.agg #[.int .i64 k, .string ⟨key.toArray⟩, .string ⟨elem.toArray⟩, .int .i64 n]] w fun e w' => e = .returned (.bool (mayB ⟨k, key, elem, n⟩)) ∧ Below w.heap.size w w' := by
 obtain ⟨x, y, z, hx, hone⟩ : ∃ x y z, kindOf k = .agg #[x, y, z] ∧ ∀ v ∈ [x, y, z], v.oneCell' = true := by
  unfold kindOf
  split
  ·exact ⟨_, _, _, rfl, by intro v hv; simp at hv; rcases hv with rfl | rfl | rfl <;> rfl⟩
  split
  ·exact ⟨_, _, _, rfl, by intro v hv; simp at hv; rcases hv with rfl | rfl | rfl <;> rfl⟩
  split
  ·exact ⟨_, _, _, rfl, by intro v hv; simp at hv; rcases hv with rfl | rfl | rfl <;> rfl⟩
  split
  ·exact ⟨_, _, _, rfl, by intro v hv; simp at hv; rcases hv with rfl | rfl | rfl <;> rfl⟩
  ·exact ⟨_, _, _, rfl, by intro v hv; simp at hv; rcases hv with rfl | rfl | rfl <;> rfl⟩
 have HXX := Lib.hid hx
 have HL := Lib.hid (show ∀ w' r, w'.heap[r]? = some (.map kindsE 4) → (Instr.lookup 112 (.map (some r)) (.int .i64 k) true).run Tryz.prog w' = .ok (.tuple #[.agg #[x, y, z], .bool (inB k)]) w' from fun w' r h => by
  have := run_look h k true
  rw [if_pos rfl, hx] at this
  exact this)
 obtain ⟨s1, hs1⟩ : ∃ s : ByteArray, s = ⟨key.toArray⟩ := ⟨_, rfl⟩
 obtain ⟨s2, hs2⟩ : ∃ s : ByteArray, s = ⟨elem.toArray⟩ := ⟨_, rfl⟩
 rw [← hs1, ← hs2]
 have HS := Lib.hid (show s1 = ⟨key.toArray⟩ ∧ s2 = ⟨elem.toArray⟩ from ⟨hs1, hs2⟩)
 clear hs1 hs2 hx
 go_enter Tryz.func62, Tryz.ntmps62
 go_upto_region 1 with fail
 obtain ⟨b0, hb0⟩ : ∃ b0, b0 = w.heap.size := ⟨_, rfl⟩
 have hC0 := Cel.new w 39 [.int .i64 k, .string s1, .string s2, .int .i64 n]
 rw [← hb0] at hC0 ⊢
 generalize hw1 : w.alloc (.cells #[.int .i64 k, .string s1, .string s2, .int .i64 n] _) = w1
 have HC := Lib.hid (show Cel w1 b0 39 [.int .i64 k, .string s1, .string s2, .int .i64 n] by rw [← hw1]; exact hC0)
 have HB1 := Lib.hid (show Below w.heap.size w w1 by rw [← hw1]; exact (Below.refl _ _).alloc (Nat.le_refl _) _)
 have HLO := Lib.hid (show w.heap.size ≤ b0 from Nat.le_of_eq hb0.symm)
 clear hb0 hC0 hw1
 have hD : ∀ j, j < 10 → ∀ n, n < 10 → j ≠ n → dkN [6, 7, 8, 9, 5, 10, 11, 3, 1008, 4] j ≠ dkN [6, 7, 8, 9, 5, 10, 11, 3, 1008, 4] n := by decide +kernel
 refine region_fun (by kernel_rfl) (by kernel_rfl) (fun gv => #[.agg #[.int .i64 k, .string s1, .string s2, .int .i64 n], .pointer (some ⟨b0, 0, none⟩), .bool false, gv 3, gv 4, gv 5, gv 6, gv 7, gv 8, gv 9, gv 10, gv 11, gv 12, gv 13, gv 14, gv 15, gv 16, gv 17, gv 18, gv 19, gv 20, gv 21, gv 22, gv 23]) rfl (fun f gv wx => Below w1.heap.size w1 wx ∧ (∀ j, j < 10 → (fun j => Nat.beq j 0 || Nat.beq j 7 || Nat.beq j 8 || Nat.beq j 8) j = false → On f j → gv (dkN [6, 7, 8, 9, 5, 10, 11, 3, 1008, 4] j) = vkN [undef, .pointer (some ⟨b0, 0, none⟩), .int .i64 k, .tuple #[.agg #[x, y, z], .bool (inB k)], .tuple #[.agg #[x, y, z], .bool (inB k)], .agg #[x, y, z], .bool (inB k), undef, undef, .bool (inB k)] j) ∧ (On f 0 → ∃ r, gv 6 = .map (some r) ∧ wx.heap[r]? = some (.map kindsE 4)) ∧ (On f 7 → ∃ b cs, gv 3 = .pointer (some ⟨b, 0, none⟩) ∧ w1.heap.size ≤ b ∧ Cel wx b 111 cs ∧ cs.length = 3 ∧ (On f 8 → cs = [x, y, z])) ∧ (On f 8 → On f 7)) ?_ ?_ ?_
 ·have hoff : ∀ j, ¬ On (Array.replicate 10 false) j := by
   intro j hj; simp only [On, Array.getD_eq_getD_getElem?, Array.getElem?_replicate] at hj; split at hj <;> simp at hj
  exact ⟨(Below.refl _ _).drew, fun j _ _ x => absurd x (hoff _), fun x => absurd x (hoff _), fun x => absurd x (hoff _), fun x => absurd x (hoff _)⟩
 ·rintro i' o f gv wm hio hs' hn he ⟨hBx, P, Q0, Q7, Q8⟩ K hK
  have hi' : i' < 10 := (Array.getElem?_eq_some_iff.1 hio).1
  replace hs' : f.size = 10 := hs'
  match i', hi' with
  | 0, _ =>
   cases hio
   have HQ := Lib.hid (And.intro P (And.intro Q0 (And.intro Q7 Q8)))
   clear P Q0 Q7 Q8
   go_simp
   refine (kinds_any _).mono ?_
   rintro e w6 ⟨r, rfl, hm, _, hb⟩
   exact hK (upd gv 6 (.map (some r))) _ (by exact ⟨hBx.step hb, vals_step (n := 0) (v := .map (some r)) hD (by decide) (by omega) HQ.out.1 (fun h => nomatch (show true = false from h)), fun _ => ⟨r, rfl, hm⟩, fun x => by obtain ⟨b, cs, e9, hlo, hc, hcl, h8⟩ := HQ.out.2.2.1 (on_back (by omega) x (by decide)); exact ⟨_, cs, e9, hlo, hc.step hb, hcl, fun x => h8 (on_back (by omega) x (by decide))⟩, fun x => by obtain q7 := HQ.out.2.2.2 (on_back (by omega) x (by decide)); exact (on_put (by omega)).2 (.inr q7)⟩)
  | 1, _ =>
   cases hio
   have HQ := Lib.hid (And.intro P (And.intro Q0 (And.intro Q7 Q8)))
   clear P Q0 Q7 Q8
   go_simp
   exact hK (upd gv 7 (.pointer (some ⟨b0, 0, none⟩))) _ (by exact ⟨hBx, vals_step (n := 1) (v := .pointer (some ⟨b0, 0, none⟩)) hD (by decide) (by omega) HQ.out.1 (fun _ => rfl), fun x => HQ.out.2.1 (on_back (by omega) x (by decide)), fun x => by obtain ⟨b, cs, e9, hlo, hc, hcl, h8⟩ := HQ.out.2.2.1 (on_back (by omega) x (by decide)); exact ⟨_, cs, e9, hlo, hc, hcl, fun x => h8 (on_back (by omega) x (by decide))⟩, fun x => by obtain q7 := HQ.out.2.2.2 (on_back (by omega) x (by decide)); exact (on_put (by omega)).2 (.inr q7)⟩)
  | 2, _ =>
   cases hio
   have h1 : On f 1 := he ⟨1, .data⟩ (by simp) rfl
   have e1 : gv 7 = .pointer (some ⟨b0, 0, none⟩) := P 1 (by decide) rfl h1
   have c0 : wm.cell? ⟨b0, 0, none⟩ = some (.int .i64 k) := (HC.out.step hBx).at 0 _ rfl
   rw [e1]
   have HQ := Lib.hid (And.intro P (And.intro Q0 (And.intro Q7 Q8)))
   clear P Q0 Q7 Q8
   go_simp
   exact hK (upd (upd gv 7 (.pointer (some ⟨b0, 0, none⟩))) 8 (.int .i64 k)) _ (by rw [upd_same e1]; exact ⟨hBx, vals_step (n := 2) (v := .int .i64 k) hD (by decide) (by omega) HQ.out.1 (fun _ => rfl), fun x => HQ.out.2.1 (on_back (by omega) x (by decide)), fun x => by obtain ⟨b, cs, e9, hlo, hc, hcl, h8⟩ := HQ.out.2.2.1 (on_back (by omega) x (by decide)); exact ⟨_, cs, e9, hlo, hc, hcl, fun x => h8 (on_back (by omega) x (by decide))⟩, fun x => by obtain q7 := HQ.out.2.2.2 (on_back (by omega) x (by decide)); exact (on_put (by omega)).2 (.inr q7)⟩)
  | 3, _ =>
   cases hio
   have h0 : On f 0 := he ⟨0, .data⟩ (by simp) rfl
   obtain ⟨r, e0, hm⟩ := Q0 h0
   have h2 : On f 2 := he ⟨2, .data⟩ (by simp) rfl
   have e2 : gv 8 = .int .i64 k := P 2 (by decide) rfl h2
   have hlk := HL.out wm r hm
   rw [e0, e2]
   have HQ := Lib.hid (And.intro P (And.intro Q0 (And.intro Q7 Q8)))
   clear P Q0 Q7 Q8
   go_simp
   exact hK (upd (upd (upd gv 6 (.map (some r))) 8 (.int .i64 k)) 9 (.tuple #[.agg #[x, y, z], .bool (inB k)])) _ (by rw [upd_same e0]; rw [upd_same e2]; exact ⟨hBx, vals_step (n := 3) (v := .tuple #[.agg #[x, y, z], .bool (inB k)]) hD (by decide) (by omega) HQ.out.1 (fun _ => rfl), fun x => HQ.out.2.1 (on_back (by omega) x (by decide)), fun x => by obtain ⟨b, cs, e9, hlo, hc, hcl, h8⟩ := HQ.out.2.2.1 (on_back (by omega) x (by decide)); exact ⟨_, cs, e9, hlo, hc, hcl, fun x => h8 (on_back (by omega) x (by decide))⟩, fun x => by obtain q7 := HQ.out.2.2.2 (on_back (by omega) x (by decide)); exact (on_put (by omega)).2 (.inr q7)⟩)
  | 4, _ =>
   cases hio
   have h3 : On f 3 := he ⟨3, .data⟩ (by simp) rfl
   have e3 : gv 9 = .tuple #[.agg #[x, y, z], .bool (inB k)] := P 3 (by decide) rfl h3
   rw [e3]
   have HQ := Lib.hid (And.intro P (And.intro Q0 (And.intro Q7 Q8)))
   clear P Q0 Q7 Q8
   go_simp
   exact hK (upd (upd gv 9 (.tuple #[.agg #[x, y, z], .bool (inB k)])) 5 (.tuple #[.agg #[x, y, z], .bool (inB k)])) _ (by rw [upd_same e3]; exact ⟨hBx, vals_step (n := 4) (v := .tuple #[.agg #[x, y, z], .bool (inB k)]) hD (by decide) (by omega) HQ.out.1 (fun _ => rfl), fun x => HQ.out.2.1 (on_back (by omega) x (by decide)), fun x => by obtain ⟨b, cs, e9, hlo, hc, hcl, h8⟩ := HQ.out.2.2.1 (on_back (by omega) x (by decide)); exact ⟨_, cs, e9, hlo, hc, hcl, fun x => h8 (on_back (by omega) x (by decide))⟩, fun x => by obtain q7 := HQ.out.2.2.2 (on_back (by omega) x (by decide)); exact (on_put (by omega)).2 (.inr q7)⟩)
  | 5, _ =>
   cases hio
   have h4 : On f 4 := he ⟨4, .data⟩ (by simp) rfl
   have e4 : gv 5 = .tuple #[.agg #[x, y, z], .bool (inB k)] := P 4 (by decide) rfl h4
   rw [e4]
   have HQ := Lib.hid (And.intro P (And.intro Q0 (And.intro Q7 Q8)))
   clear P Q0 Q7 Q8
   go_simp
   exact hK (upd (upd gv 5 (.tuple #[.agg #[x, y, z], .bool (inB k)])) 10 (.agg #[x, y, z])) _ (by rw [upd_same e4]; exact ⟨hBx, vals_step (n := 5) (v := .agg #[x, y, z]) hD (by decide) (by omega) HQ.out.1 (fun _ => rfl), fun x => HQ.out.2.1 (on_back (by omega) x (by decide)), fun x => by obtain ⟨b, cs, e9, hlo, hc, hcl, h8⟩ := HQ.out.2.2.1 (on_back (by omega) x (by decide)); exact ⟨_, cs, e9, hlo, hc, hcl, fun x => h8 (on_back (by omega) x (by decide))⟩, fun x => by obtain q7 := HQ.out.2.2.2 (on_back (by omega) x (by decide)); exact (on_put (by omega)).2 (.inr q7)⟩)
  | 6, _ =>
   cases hio
   have h4 : On f 4 := he ⟨4, .data⟩ (by simp) rfl
   have e4 : gv 5 = .tuple #[.agg #[x, y, z], .bool (inB k)] := P 4 (by decide) rfl h4
   rw [e4]
   have HQ := Lib.hid (And.intro P (And.intro Q0 (And.intro Q7 Q8)))
   clear P Q0 Q7 Q8
   go_simp
   exact hK (upd (upd gv 5 (.tuple #[.agg #[x, y, z], .bool (inB k)])) 11 (.bool (inB k))) _ (by rw [upd_same e4]; exact ⟨hBx, vals_step (n := 6) (v := .bool (inB k)) hD (by decide) (by omega) HQ.out.1 (fun _ => rfl), fun x => HQ.out.2.1 (on_back (by omega) x (by decide)), fun x => by obtain ⟨b, cs, e9, hlo, hc, hcl, h8⟩ := HQ.out.2.2.1 (on_back (by omega) x (by decide)); exact ⟨_, cs, e9, hlo, hc, hcl, fun x => h8 (on_back (by omega) x (by decide))⟩, fun x => by obtain q7 := HQ.out.2.2.2 (on_back (by omega) x (by decide)); exact (on_put (by omega)).2 (.inr q7)⟩)
  | 7, _ =>
   cases hio
   have HQ := Lib.hid (And.intro P (And.intro Q0 (And.intro Q7 Q8)))
   clear P Q0 Q7 Q8
   go_simp
   obtain ⟨b, hbb⟩ : ∃ b, b = wm.heap.size := ⟨_, rfl⟩
   obtain ⟨w6, hw6⟩ : ∃ w6, w6 = wm.alloc (.cells [Value.nilFunc, Value.nilFunc, Value.nilFunc].toArray 111) := ⟨_, rfl⟩
   have hc : Cel w6 b 111 [Value.nilFunc, Value.nilFunc, Value.nilFunc] := by rw [hw6, hbb]; exact Cel.new wm _ _
   have hb : Below wm.heap.size wm w6 := by rw [hw6]; exact (Below.refl _ _).alloc (Nat.le_refl _) _
   have n8 : ¬ On f 8 := fun x => on_off (by omega) hn (HQ.out.2.2.2 x)
   have hlo : w1.heap.size ≤ b := by rw [hbb]; exact hBx.size
   show K ⟨#[_, _, _, .pointer (some ⟨wm.heap.size, 0, none⟩), _, _, _, _, _, _, _, _, _, _, _, _, _, _, _, _, _, _, _, _], []⟩ (wm.alloc (.cells [Value.nilFunc, Value.nilFunc, Value.nilFunc].toArray 111))
   rw [← hbb, ← hw6]
   exact hK (upd gv 3 (.pointer (some ⟨b, 0, none⟩))) _ (by exact ⟨hBx.step hb, vals_step (n := 7) (v := .pointer (some ⟨b, 0, none⟩)) hD (by decide) (by omega) HQ.out.1 (fun h => nomatch (show true = false from h)), fun x => by obtain ⟨r, e9, hm⟩ := HQ.out.2.1 (on_back (by omega) x (by decide)); exact ⟨_, e9, (hb.block _ (Array.getElem?_eq_some_iff.1 hm).1).trans hm⟩, fun _ => ⟨b, _, rfl, hlo, hc, rfl, fun x => absurd (on_back (by omega) x (by decide)) n8⟩, fun x => by obtain q7 := HQ.out.2.2.2 (on_back (by omega) x (by decide)); exact (on_put (by omega)).2 (.inr q7)⟩)
  | 8, _ =>
   cases hio
   have h5 : On f 5 := he ⟨5, .data⟩ (by simp) rfl
   have e5 : gv 10 = .agg #[x, y, z] := P 5 (by decide) rfl h5
   have h7 : On f 7 := he ⟨7, .data⟩ (by simp) rfl
   obtain ⟨b, cs, e7, hlo, hc, hcl, h8⟩ := Q7 h7
   rw [e5, e7]
   have HQ := Lib.hid (And.intro P (And.intro Q0 (And.intro Q7 Q8)))
   clear P Q0 Q7 Q8
   refine cel_store (by rfl) rfl 111 (.tmp 3) (.tmp 10) rfl rfl [x, y, z] rfl hc hcl info_kind hone ?_
   intro w6 hc6 ho6
   exact hK (upd (upd gv 10 (.agg #[x, y, z])) 3 (.pointer (some ⟨b, 0, none⟩))) _ (by rw [upd_same e5]; rw [upd_same e7]; exact ⟨ho6.below hBx hlo, vals_keep (n := 8) (by omega) rfl HQ.out.1, fun x => by obtain ⟨r, e9, hm⟩ := HQ.out.2.1 (on_back (by omega) x (by decide)); exact ⟨_, e9, ho6.heap hm (fun h => by rw [h, show wm.heap[b]? = _ from hc] at hm; cases hm)⟩, fun _ => ⟨b, [x, y, z], e7, hlo, hc6, rfl, fun _ => rfl⟩, fun _ => (on_put (by omega)).2 (.inr h7)⟩)
  | 9, _ =>
   cases hio
   have h6 : On f 6 := he ⟨6, .data⟩ (by simp) rfl
   have e6 : gv 11 = .bool (inB k) := P 6 (by decide) rfl h6
   rw [e6]
   have HQ := Lib.hid (And.intro P (And.intro Q0 (And.intro Q7 Q8)))
   clear P Q0 Q7 Q8
   go_simp
   exact hK (upd (upd gv 11 (.bool (inB k))) 4 (.bool (inB k))) _ (by rw [upd_same e6]; exact ⟨hBx, vals_step (n := 9) (v := .bool (inB k)) hD (by decide) (by omega) HQ.out.1 (fun _ => rfl), fun x => HQ.out.2.1 (on_back (by omega) x (by decide)), fun x => by obtain ⟨b, cs, e9, hlo, hc, hcl, h8⟩ := HQ.out.2.2.1 (on_back (by omega) x (by decide)); exact ⟨_, cs, e9, hlo, hc, hcl, fun x => h8 (on_back (by omega) x (by decide))⟩, fun x => by obtain q7 := HQ.out.2.2.2 (on_back (by omega) x (by decide)); exact (on_put (by omega)).2 (.inr q7)⟩)
 ·rintro f gv w5 hall hs' ⟨hBx, P, Q0, Q7, Q8⟩
  replace hs' : f.size = 10 := hs'
  have on : ∀ j, j < 10 → On f j := fun j hj => on_all hall hs' j hj
  obtain ⟨b, cs, e3, hlo, hc, hcl, h8⟩ := Q7 (on 7 (by decide))
  obtain rfl := h8 (on 8 (by decide))
  have e4 : gv 4 = .bool (inB k) := P 9 (by decide) rfl (on 9 (by decide))
  have c0 : w5.cell? ⟨b, 0, none⟩ = some x := hc.at 0 _ rfl
  have d0 : w5.cell? ⟨b0, 0, none⟩ = some (.int .i64 k) := (HC.out.step hBx).at 0 _ rfl
  have d1 : w5.cell? ⟨b0, 1, none⟩ = some (.string s1) := (HC.out.step hBx).at 1 _ rfl
  have d2 : w5.cell? ⟨b0, 2, none⟩ = some (.string s2) := (HC.out.step hBx).at 2 _ rfl
  have d3 : w5.cell? ⟨b0, 3, none⟩ = some (.int .i64 n) := (HC.out.step hBx).at 3 _ rfl
  have HB5 := Lib.hid (HB1.out.step hBx)
  rw [e3, e4]
  clear P Q0 Q7 Q8 hBx hall hs' on e3 e4 hc hcl h8 hlo HC HB1 HLO hD HL
  have HKEY := Lib.hid (fun w' => show Calls Tryz.prog 84 #[.string s1] w' _ by rw [HS.out.1]; exact key_any key w' hl1)
  cases hin : inB k with
  | false =>
   have HM := Lib.hid (show mayB ⟨k, key, elem, n⟩ = false by simp [mayB, hin])
   clear hin
   go_wp2_with fail
   go_ret
   exact ⟨retb HM.out.symm, HB5.out⟩
  | true =>
   cases hkey : keyB key with
   | false =>
    have HM := Lib.hid (show mayB ⟨k, key, elem, n⟩ = false by simp [mayB, hkey])
    rw [hkey] at HKEY
    clear hin hkey
    go_wp2_with fail
    refine (HKEY.out _).mono ?_
    rintro e w' ⟨rfl, rfl⟩
    go_wp2_with fail
    go_ret
    exact ⟨retb HM.out.symm, HB5.out⟩
   | true =>
    rw [hkey] at HKEY
    by_cases hk : k = 0
    ·have HM := Lib.hid (show mayB ⟨k, key, elem, n⟩ = cntB ⟨k, key, elem, n⟩ by show (inB k && keyB key && (if k = 0 then _ else _)) = _; rw [hin, hkey, if_pos hk]; rfl)
     have hx : x = .func (.func 96) #[] #[] := by
      have := HXX.out
      rw [hk] at this
      simp [kindOf, kCnt, fnV] at this
      exact this.1.symm
     subst hx
     clear hin hkey hk
     go_wp2_with fail
     refine (HKEY.out _).mono ?_
     rintro e w' ⟨rfl, rfl⟩
     go_wp2_with fail
     refine (show Calls Tryz.prog 96 #[.agg #[.int .i64 k, .string s1, .string s2, .int .i64 n]] _ _ by rw [HS.out.1, HS.out.2]; exact may1_any k n key elem _).mono ?_
     rintro e w6 ⟨rfl, hb⟩
     have HB6 := Lib.hid (HB5.out.step hb)
     clear hb
     go_wp2_with fail
     go_ret
     exact ⟨retb HM.out.symm, HB6.out⟩
    ·have HM := Lib.hid (show mayB ⟨k, key, elem, n⟩ = namB ⟨k, key, elem, n⟩ by show (inB k && keyB key && (if k = 0 then _ else _)) = _; rw [hin, hkey, if_neg hk]; rfl)
     have hx : x = .func (.func 100) #[] #[] := by
      have h3 : k = 1 ∨ k = 2 ∨ k = 3 := by simp only [inB, Bool.and_eq_true, decide_eq_true_eq] at hin; omega
      have := HXX.out
      rcases h3 with h3 | h3 | h3 <;> rw [h3] at this <;> simp [kindOf, kNam, fnV] at this <;> exact this.1.symm
     subst hx
     clear hin hkey hk
     go_wp2_with fail
     refine (HKEY.out _).mono ?_
     rintro e w' ⟨rfl, rfl⟩
     go_wp2_with fail
     refine (show Calls Tryz.prog 100 #[.agg #[.int .i64 k, .string s1, .string s2, .int .i64 n]] _ _ by rw [HS.out.1, HS.out.2]; exact may4_any k n key elem _ hl2).mono ?_
     rintro e w6 ⟨rfl, hb⟩
     have HB6 := Lib.hid (HB5.out.step hb)
     clear hb
     go_wp2_with fail
     go_ret
     exact ⟨retb HM.out.symm, HB6.out⟩
end Go.Proofs.YtofadpodlaakbaaGreat
