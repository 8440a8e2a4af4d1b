/- The walk of the reference's Put of the layer ops. -/
import Derived.Test.YtofadpodlaakbaaGreatOpsRefMay
namespace Go.Proofs.YtofadpodlaakbaaGreat
open Go.ChangeShapes Go.WideShapes Go.ChangeAt Go.RowKit
set_option linter.unusedVariables false
theorem app_at {P : Program} {ops : Array Oper} {o : Oper} {ts : Array Value} {ds : List Deferred} {w : World} {K : Act → World → Prop} {Q : Exit → Act → World → Prop} {E : Prop}
  (hg : o.guard = none) (s x : Operand) (t : TypeId) (hop : o.op = Op.call { callee := Callee.builtin Builtin.append, args := #[s, x], argTypes := #[t, t] })
  {e : TypeId} {i : TypeInfo} {z : Value} (ht : P.underlying t = some (.slice e)) (hi : P.info? e = some i) (hz : i.zero = some z) (hsize : i.size = 1) (hby : i.bytes = 1) (hzs : z.cells.size = 1)
  (base : Nat) {v : Value} {n : Nat} {xs : List Value} (hs : Act.eval ⟨ts, ds⟩ s = v) (hown : w.ownsRow base e 1 v n xs) {ad : Option Addr} {m c : Nat} {l : List UInt8} (hx : Act.eval ⟨ts, ds⟩ x = .slice ad m c) (hr : Rd w ad m c l) (hac : ad = none → c = 0)
  (h63 : n + m ≤ 140737488355328) (hbase : base ≤ w.heap.size)
  (hK : ∀ v' w', w'.ownsRow base e 1 v' (n + m) (xs ++ l.map B) → w.grownBy w' v.ownBlock → K (Act.put ⟨ts, ds⟩ o.dst v') w') :
  if Region.wanted o (yielded ops ts) = true then o.wp P ⟨ts, ds⟩ w K Q else E :=
 step_app (a := ⟨ts, ds⟩) hg s x t hop ht hi hz hsize hby hzs base hs hown hx hr hac h63 hbase hK
set_option maxRecDepth 100000 in
set_option maxHeartbeats 2000000 in
theorem put_ref (k n : Int) (key elem : List UInt8) (w : World) (hl1 : key.length ≤ 9223372036854775807) (hl2 : elem.length ≤ 9223372036854775807) : Calls Tryz.prog 55 #[.agg #[.int .i64 k, .string ⟨key.toArray⟩, .string ⟨elem.toArray⟩, .int .i64 n]] w (PutP ⟨k, key, elem, n⟩ w) := by
 obtain ⟨s1, hs1⟩ : ∃ s : ByteArray, s = ⟨key.toArray⟩ := ⟨_, rfl⟩
 obtain ⟨s2, hs2⟩ : ∃ s : ByteArray, s = ⟨elem.toArray⟩ := ⟨_, rfl⟩
 have HMAY := Lib.hid (fun w' => may_ref k n key elem w' hl1 hl2)
 rw [← hs1, ← hs2] at HMAY ⊢
 have HS := Lib.hid (show s1 = ⟨key.toArray⟩ ∧ s2 = ⟨elem.toArray⟩ from ⟨hs1, hs2⟩)
 clear hs1 hs2
 obtain ⟨o, ho⟩ : ∃ o : Opn, o = ⟨k, key, elem, n⟩ := ⟨_, rfl⟩
 rw [← ho] at HMAY ⊢
 have HO := Lib.hid ho
 clear ho
 go_enter Tryz.func55, Tryz.ntmps55
 go_upto_region 1 with fail
 obtain ⟨b0, hb0⟩ : ∃ b0, b0 = w.heap.size := ⟨_, rfl⟩
 have hC0 := Cel.new w 39 [.int .i64 k, .string s1, .string s2, .int .i64 n]
 rw [← hb0] at hC0 ⊢
 generalize hw1 : w.alloc (.cells #[.int .i64 k, .string s1, .string s2, .int .i64 n] _) = w1
 have hC : Cel w1 b0 39 [.int .i64 k, .string s1, .string s2, .int .i64 n] := by rw [← hw1]; exact hC0
 have HB1 := Lib.hid (show Below w.heap.size w w1 by rw [← hw1]; exact (Below.refl _ _).alloc (Nat.le_refl _) _)
 have d0 : w1.cell? ⟨b0, 0, none⟩ = some (.int .i64 k) := hC.at 0 _ rfl
 have d1 : w1.cell? ⟨b0, 1, none⟩ = some (.string s1) := hC.at 1 _ rfl
 have d2 : w1.cell? ⟨b0, 2, none⟩ = some (.string s2) := hC.at 2 _ rfl
 have d3 : w1.cell? ⟨b0, 3, none⟩ = some (.int .i64 n) := hC.at 3 _ rfl
 have HC1 := Lib.hid hC
 clear hb0 hC0 hw1 hC
 cases hm : mayB o with
 | false =>
  have HM := Lib.hid hm
  rw [hm] at HMAY
  clear hm
  go_wp2_with fail
  refine (HMAY.out _).mono ?_
  rintro e w2 ⟨rfl, hb⟩
  have HB2 := Lib.hid (HB1.out.step hb)
  clear hb d0 d1 d2 d3
  go_wp2_with fail
  go_ret2
  show PutP o w _ _
  unfold PutP
  rw [HM.out, if_neg (by decide)]
  exact ⟨rfl, HB2.out⟩
 | true =>
  have HM := Lib.hid hm
  rw [hm] at HMAY
  clear hm
  go_wp2_with fail
  refine (HMAY.out _).mono ?_
  rintro e w2 ⟨rfl, hb⟩
  have HB12 := Lib.hid hb
  clear hb d0 d1 d2 d3
  have hkk := mayB_kind HM.out
  have hbd := mayB_bounds HM.out
  have hel := endL_len HM.out
  rw [HO.out] at hkk hbd
  obtain ⟨K, rfl⟩ : ∃ K : Nat, k = (K : Int) := ⟨k.toNat, (Int.toNat_of_nonneg hkk.1).symm⟩
  have hK3 : K ≤ 3 := by have := hkk.2.1; simp only at this; omega
  have hkl := (keyB_len hkk.2.2.1).2
  simp only at hkl
  have HEL8 := Lib.hid (show K ≠ 0 → elem.length ≤ 140737488351232 from fun h0 => by
   have h1 := hkk.2.2.2
   rw [if_neg (by simp only; omega)] at h1
   unfold namB at h1
   simp only [Bool.and_eq_true] at h1
   have h2 := (keyB_len h1.2).2
   omega)
  obtain ⟨l0, hl0⟩ : ∃ l0, l0 = numL K := ⟨_, rfl⟩
  obtain ⟨l1, hl1'⟩ : ∃ l1, l1 = txtL key := ⟨_, rfl⟩
  obtain ⟨l2, hl2'⟩ : ∃ l2, l2 = endL o := ⟨_, rfl⟩
  obtain ⟨p, hp⟩ : ∃ p, p = putO o := ⟨_, rfl⟩
  have hp2 : (l0 ++ l1) ++ l2 = p := by rw [hp, hl0, hl1', hl2', HO.out, List.append_assoc]; rfl
  have hlen : l0.length ≤ 10 ∧ l1.length ≤ 18 ∧ l2.length ≤ 20 := by
   have h1 := numL_le10 K (by omega)
   have h2 := numL_le10 key.length (by omega)
   rw [hl0, hl1', hl2']
   simp only [txtL, List.length_append]
   omega
  have HNUM := Lib.hid (fun w' => show Calls Tryz.prog 22 #[.int .u64 (K : Int)] w' (OwnB l0 w') by rw [hl0]; exact num_ref K (by omega) w')
  have HTXT := Lib.hid (fun w' => show Calls Tryz.prog 26 #[.string s1] w' (OwnB l1 w') by
   have := text_ref s1 w' (by rw [HS.out.1]; simpa [ByteArray.size] using (show key.length ≤ 140737488351232 by omega))
   rw [show s1.data.toList = key by rw [HS.out.1], ← hl1'] at this
   exact this)
  obtain ⟨i1, ji, jz0, jz1, jz2⟩ := info_parts info_u8
  have HI := Lib.hid (show Tryz.prog.info? 5 = some i1 ∧ i1.zero = some (.int .u8 0) ∧ i1.size = 1 ∧ i1.bytes = 1 from ⟨ji, jz0, jz1, jz2⟩)
  have HP := Lib.hid (show p = putO o ∧ (l0 ++ l1) ++ l2 = p ∧ l2 = endL o from ⟨hp, hp2, hl2'⟩)
  have HLEN := Lib.hid hlen
  have HBD := Lib.hid (show -9223372036854775808 ≤ n ∧ n ≤ 9223372036854775807 from hbd)
  have hK0 : 0 ≤ (K : Int) := by omega
  have hK4 : (K : Int) ≤ 3 := by omega
  have hwr : IntKind.u64.wrap (K : Int) = (K : Int) := by rw [wrap_u64]; omega
  clear hkk hbd hel hkl hl0 hl1' hl2' hp hp2 hlen hK3 ji jz0 jz1 jz2
  go_upto_region 4 with fail
  have hD : ∀ j, j < 9 → ∀ n, n < 9 → j ≠ n → dkN [10, 11, 12, 13, 14, 15, 16, 17, 5] j ≠ dkN [10, 11, 12, 13, 14, 15, 16, 17, 5] n := by decide +kernel
  refine region_fun (by kernel_rfl) (by kernel_rfl) (fun gv => #[.agg #[.int .i64 (K : Int), .string s1, .string s2, .int .i64 n], .pointer (some ⟨b0, 0, none⟩), .slice none 0 0, .int .i64 0, .bool true, gv 5, .agg #[.int .i64 (K : Int), .string s1, .string s2, .int .i64 n], .bool true, .bool true, .bool false, gv 10, gv 11, gv 12, gv 13, gv 14, gv 15, gv 16, gv 17, gv 18, gv 19, gv 20, gv 21, gv 22, gv 23, gv 24, gv 25, gv 26, gv 27, gv 28, gv 29, gv 30, gv 31]) rfl (fun f gv wx => Below w1.heap.size w1 wx ∧ (∀ j, j < 9 → (fun j => Nat.beq j 3 || Nat.beq j 6 || Nat.beq j 7 || Nat.beq j 8) j = false → On f j → gv (dkN [10, 11, 12, 13, 14, 15, 16, 17, 5] j) = vkN [.pointer (some ⟨b0, 0, none⟩), .int .i64 (K : Int), .int .u64 (K : Int), undef, .pointer (some ⟨b0, 1, none⟩), .string s1, undef, undef, undef] j) ∧ ((On f 3 → ∃ v, gv 13 = v ∧ (¬ On f 7 → wx.ownsRow w1.heap.size 5 1 v l0.length (l0.map B)))) ∧ ((On f 6 → ∃ a c, gv 16 = .slice a l1.length c ∧ (a = none → c = 0) ∧ (¬ On f 7 → Rd wx a l1.length c l1))) ∧ ((On f 7 → ∃ v, gv 17 = v ∧ wx.ownsRow w1.heap.size 5 1 v (l0 ++ l1).length ((l0 ++ l1).map B))) ∧ ((On f 8 → ∃ v, gv 5 = v ∧ wx.ownsRow w1.heap.size 5 1 v (l0 ++ l1).length ((l0 ++ l1).map B))) ∧ ((On f 8 → On f 7))) ?_ ?_ ?_
  ·have hoff : ∀ j, ¬ On (Array.replicate 9 false) j := by
    intro j hj; simp only [On, Array.getD_eq_getD_getElem?, Array.getElem?_replicate] at hj; split at hj <;> simp at hj
   exact ⟨HB12.out.drew, fun j _ _ x => absurd x (hoff _), fun x => absurd x (hoff _), fun x => absurd x (hoff _), fun x => absurd x (hoff _), fun x => absurd x (hoff _), fun x => absurd x (hoff _)⟩
  ·rintro i' o' f gv wm hio hs' hn he ⟨hBx, P, Q3, Q6, Q7, Q8, D8⟩ KK hKK
   have hi' : i' < 9 := (Array.getElem?_eq_some_iff.1 hio).1
   replace hs' : f.size = 9 := hs'
   match i', hi' with
   | 0, _ =>
    cases hio
    have off : ¬ On f 0 := on_off (by omega) hn
    have HQ := Lib.hid (And.intro P (And.intro Q3 (And.intro Q6 (And.intro Q7 (And.intro Q8 D8)))))
    clear P Q3 Q6 Q7 Q8 D8
    go_simp
    obtain ⟨P, Q3, Q6, Q7, Q8, D8⟩ := HQ.out
    obtain ⟨bk, fw, fn⟩ := on3 (f := f) (i := 0) (by omega)
    exact hKK (upd gv 10 (.pointer (some ⟨b0, 0, none⟩))) _ (by exact ⟨hBx, vals_step (n := 0) (v := .pointer (some ⟨b0, 0, none⟩)) hD (by decide) (by omega) P (fun _ => rfl), fun x => by obtain ⟨v3, e9, ho3⟩ := Q3 (bk 3 (by decide) x); exact ⟨_, e9, fun y => ho3 (fun z => y (fw 7 z))⟩, fun x => by obtain ⟨a6, c6, e9, hac6, hr6⟩ := Q6 (bk 6 (by decide) x); exact ⟨_, _, e9, hac6, fun y => hr6 (fun z => y (fw 7 z))⟩, fun x => Q7 (bk 7 (by decide) x), fun x => Q8 (bk 8 (by decide) x), fun x => fw 7 (D8 (bk 8 (by decide) x))⟩)
   | 1, _ =>
    cases hio
    have off : ¬ On f 1 := on_off (by omega) hn
    have h0 : On f 0 := he ⟨0, .data⟩ (by simp) rfl
    have e0 : gv 10 = .pointer (some ⟨b0, 0, none⟩) := P 0 (by decide) rfl h0
    have d0 : wm.cell? ⟨b0, 0, none⟩ = some (.int .i64 (K : Int)) := (HC1.out.step hBx).at 0 _ rfl
    rw [e0]
    have HQ := Lib.hid (And.intro P (And.intro Q3 (And.intro Q6 (And.intro Q7 (And.intro Q8 D8)))))
    clear P Q3 Q6 Q7 Q8 D8
    go_simp
    obtain ⟨P, Q3, Q6, Q7, Q8, D8⟩ := HQ.out
    obtain ⟨bk, fw, fn⟩ := on3 (f := f) (i := 1) (by omega)
    exact hKK (upd (upd gv 10 (.pointer (some ⟨b0, 0, none⟩))) 11 (.int .i64 (K : Int))) _ (by rw [upd_same e0]; exact ⟨hBx, vals_step (n := 1) (v := .int .i64 (K : Int)) hD (by decide) (by omega) P (fun _ => rfl), fun x => by obtain ⟨v3, e9, ho3⟩ := Q3 (bk 3 (by decide) x); exact ⟨_, e9, fun y => ho3 (fun z => y (fw 7 z))⟩, fun x => by obtain ⟨a6, c6, e9, hac6, hr6⟩ := Q6 (bk 6 (by decide) x); exact ⟨_, _, e9, hac6, fun y => hr6 (fun z => y (fw 7 z))⟩, fun x => Q7 (bk 7 (by decide) x), fun x => Q8 (bk 8 (by decide) x), fun x => fw 7 (D8 (bk 8 (by decide) x))⟩)
   | 2, _ =>
    cases hio
    have off : ¬ On f 2 := on_off (by omega) hn
    have h1 : On f 1 := he ⟨1, .data⟩ (by simp) rfl
    have e1 : gv 11 = .int .i64 (K : Int) := P 1 (by decide) rfl h1
    rw [e1]
    have HQ := Lib.hid (And.intro P (And.intro Q3 (And.intro Q6 (And.intro Q7 (And.intro Q8 D8)))))
    clear P Q3 Q6 Q7 Q8 D8
    go_simp
    obtain ⟨P, Q3, Q6, Q7, Q8, D8⟩ := HQ.out
    obtain ⟨bk, fw, fn⟩ := on3 (f := f) (i := 2) (by omega)
    exact hKK (upd (upd gv 11 (.int .i64 (K : Int))) 12 (.int .u64 (K : Int))) _ (by rw [upd_same e1]; exact ⟨hBx, vals_step (n := 2) (v := .int .u64 (K : Int)) hD (by decide) (by omega) P (fun _ => rfl), fun x => by obtain ⟨v3, e9, ho3⟩ := Q3 (bk 3 (by decide) x); exact ⟨_, e9, fun y => ho3 (fun z => y (fw 7 z))⟩, fun x => by obtain ⟨a6, c6, e9, hac6, hr6⟩ := Q6 (bk 6 (by decide) x); exact ⟨_, _, e9, hac6, fun y => hr6 (fun z => y (fw 7 z))⟩, fun x => Q7 (bk 7 (by decide) x), fun x => Q8 (bk 8 (by decide) x), fun x => fw 7 (D8 (bk 8 (by decide) x))⟩)
   | 3, _ =>
    cases hio
    have off : ¬ On f 3 := on_off (by omega) hn
    have h2 : On f 2 := he ⟨2, .data⟩ (by simp) rfl
    have e2 : gv 12 = .int .u64 (K : Int) := P 2 (by decide) rfl h2
    rw [e2]
    have HQ := Lib.hid (And.intro P (And.intro Q3 (And.intro Q6 (And.intro Q7 (And.intro Q8 D8)))))
    clear P Q3 Q6 Q7 Q8 D8
    go_simp
    refine (HNUM.out _).mono ?_
    rintro e w6 ⟨v3, rfl, ho3, hb⟩
    obtain ⟨P, Q3, Q6, Q7, Q8, D8⟩ := HQ.out
    obtain ⟨bk, fw, fn⟩ := on3 (f := f) (i := 3) (by omega)
    exact hKK (upd (upd gv 12 (.int .u64 (K : Int))) 13 (v3)) _ (by rw [upd_same e2]; exact ⟨hBx.step hb, vals_step (n := 3) (v := v3) hD (by decide) (by omega) P (fun h => nomatch (show true = false from h)), fun _ => ⟨v3, rfl, fun _ => ownsRow_mono ho3 hBx.size⟩, fun x => by obtain ⟨a6, c6, e9, hac6, hr6⟩ := Q6 (bk 6 (by decide) x); exact ⟨_, _, e9, hac6, fun y => (hr6 (fun z => y (fw 7 z))).below hb⟩, fun x => by obtain ⟨v7, e9, ho7⟩ := Q7 (bk 7 (by decide) x); exact ⟨_, e9, ownsRow_below ho7 hb⟩, fun x => by obtain ⟨v8, e9, ho8⟩ := Q8 (bk 8 (by decide) x); exact ⟨_, e9, ownsRow_below ho8 hb⟩, fun x => fw 7 (D8 (bk 8 (by decide) x))⟩)
   | 4, _ =>
    cases hio
    have off : ¬ On f 4 := on_off (by omega) hn
    have HQ := Lib.hid (And.intro P (And.intro Q3 (And.intro Q6 (And.intro Q7 (And.intro Q8 D8)))))
    clear P Q3 Q6 Q7 Q8 D8
    go_simp
    obtain ⟨P, Q3, Q6, Q7, Q8, D8⟩ := HQ.out
    obtain ⟨bk, fw, fn⟩ := on3 (f := f) (i := 4) (by omega)
    exact hKK (upd gv 14 (.pointer (some ⟨b0, 1, none⟩))) _ (by exact ⟨hBx, vals_step (n := 4) (v := .pointer (some ⟨b0, 1, none⟩)) hD (by decide) (by omega) P (fun _ => rfl), fun x => by obtain ⟨v3, e9, ho3⟩ := Q3 (bk 3 (by decide) x); exact ⟨_, e9, fun y => ho3 (fun z => y (fw 7 z))⟩, fun x => by obtain ⟨a6, c6, e9, hac6, hr6⟩ := Q6 (bk 6 (by decide) x); exact ⟨_, _, e9, hac6, fun y => hr6 (fun z => y (fw 7 z))⟩, fun x => Q7 (bk 7 (by decide) x), fun x => Q8 (bk 8 (by decide) x), fun x => fw 7 (D8 (bk 8 (by decide) x))⟩)
   | 5, _ =>
    cases hio
    have off : ¬ On f 5 := on_off (by omega) hn
    have h4 : On f 4 := he ⟨4, .data⟩ (by simp) rfl
    have e4 : gv 14 = .pointer (some ⟨b0, 1, none⟩) := P 4 (by decide) rfl h4
    have d1 : wm.cell? ⟨b0, 1, none⟩ = some (.string s1) := (HC1.out.step hBx).at 1 _ rfl
    rw [e4]
    have HQ := Lib.hid (And.intro P (And.intro Q3 (And.intro Q6 (And.intro Q7 (And.intro Q8 D8)))))
    clear P Q3 Q6 Q7 Q8 D8
    go_simp
    obtain ⟨P, Q3, Q6, Q7, Q8, D8⟩ := HQ.out
    obtain ⟨bk, fw, fn⟩ := on3 (f := f) (i := 5) (by omega)
    exact hKK (upd (upd gv 14 (.pointer (some ⟨b0, 1, none⟩))) 15 (.string s1)) _ (by rw [upd_same e4]; exact ⟨hBx, vals_step (n := 5) (v := .string s1) hD (by decide) (by omega) P (fun _ => rfl), fun x => by obtain ⟨v3, e9, ho3⟩ := Q3 (bk 3 (by decide) x); exact ⟨_, e9, fun y => ho3 (fun z => y (fw 7 z))⟩, fun x => by obtain ⟨a6, c6, e9, hac6, hr6⟩ := Q6 (bk 6 (by decide) x); exact ⟨_, _, e9, hac6, fun y => hr6 (fun z => y (fw 7 z))⟩, fun x => Q7 (bk 7 (by decide) x), fun x => Q8 (bk 8 (by decide) x), fun x => fw 7 (D8 (bk 8 (by decide) x))⟩)
   | 6, _ =>
    cases hio
    have off : ¬ On f 6 := on_off (by omega) hn
    have h5 : On f 5 := he ⟨5, .data⟩ (by simp) rfl
    have e5 : gv 15 = .string s1 := P 5 (by decide) rfl h5
    rw [e5]
    have HQ := Lib.hid (And.intro P (And.intro Q3 (And.intro Q6 (And.intro Q7 (And.intro Q8 D8)))))
    clear P Q3 Q6 Q7 Q8 D8
    go_simp
    refine (HTXT.out _).mono ?_
    rintro e w6 ⟨v6, rfl, ho6, hb⟩
    obtain ⟨a6, c6, rfl, hr6⟩ := Rd.of_own ho6
    obtain ⟨P, Q3, Q6, Q7, Q8, D8⟩ := HQ.out
    obtain ⟨bk, fw, fn⟩ := on3 (f := f) (i := 6) (by omega)
    exact hKK (upd (upd gv 15 (.string s1)) 16 (.slice a6 l1.length c6)) _ (by rw [upd_same e5]; exact ⟨hBx.step hb, vals_step (n := 6) (v := .slice a6 l1.length c6) hD (by decide) (by omega) P (fun h => nomatch (show true = false from h)), fun x => by obtain ⟨v3, e9, ho3⟩ := Q3 (bk 3 (by decide) x); exact ⟨_, e9, fun y => ownsRow_below (ho3 (fun z => y (fw 7 z))) hb⟩, fun _ => ⟨a6, c6, rfl, own_none ho6, fun _ => hr6⟩, fun x => by obtain ⟨v7, e9, ho7⟩ := Q7 (bk 7 (by decide) x); exact ⟨_, e9, ownsRow_below ho7 hb⟩, fun x => by obtain ⟨v8, e9, ho8⟩ := Q8 (bk 8 (by decide) x); exact ⟨_, e9, ownsRow_below ho8 hb⟩, fun x => fw 7 (D8 (bk 8 (by decide) x))⟩)
   | 7, _ =>
    cases hio
    have off : ¬ On f 7 := on_off (by omega) hn
    have h3 : On f 3 := he ⟨3, .data⟩ (by simp) rfl
    obtain ⟨v3, e3, ho3⟩ := Q3 h3
    have h6 : On f 6 := he ⟨6, .data⟩ (by simp) rfl
    obtain ⟨a6, c6, e6, hac6, hr6⟩ := Q6 h6
    rw [e3, e6]
    have HQ := Lib.hid (And.intro P (And.intro Q3 (And.intro Q6 (And.intro Q7 (And.intro Q8 D8)))))
    clear P Q3 Q6 Q7 Q8 D8
    refine app_at rfl (.tmp 13) (.tmp 16) 28 rfl Tryz.underlying28 HI.out.1 HI.out.2.1 HI.out.2.2.1 HI.out.2.2.2 rfl w1.heap.size (v := v3) (by rfl) (ho3 off) (ad := a6) (m := l1.length) (c := c6) (by rfl) (hr6 off) hac6 (by have := HLEN.out; omega) hBx.size ?_
    intro v7 w7 ho7 hg7
    simp only [Act.put, List.setIfInBounds_toArray]
    rw [← List.map_append, ← List.length_append] at ho7
    obtain ⟨P, Q3, Q6, Q7, Q8, D8⟩ := HQ.out
    obtain ⟨bk, fw, fn⟩ := on3 (f := f) (i := 7) (by omega)
    exact hKK (upd (upd (upd gv 13 (v3)) 16 (.slice a6 l1.length c6)) 17 (v7)) _ (by rw [upd_same e3]; rw [upd_same e6]; exact ⟨below_own hBx (ho3 off) hg7 hBx.size, vals_step (n := 7) (v := v7) hD (by decide) (by omega) P (fun h => nomatch (show true = false from h)), fun x => by obtain ⟨v', e9, _⟩ := Q3 (bk 3 (by decide) x); exact ⟨v', e9, fun y => absurd fn y⟩, fun x => by obtain ⟨a', c', e9, h, _⟩ := Q6 (bk 6 (by decide) x); exact ⟨a', c', e9, h, fun y => absurd fn y⟩, fun _ => ⟨v7, rfl, ho7⟩, fun x => absurd (D8 (bk 8 (by decide) x)) off, fun x => fw 7 (D8 (bk 8 (by decide) x))⟩)
   | 8, _ =>
    cases hio
    have off : ¬ On f 8 := on_off (by omega) hn
    have h7 : On f 7 := he ⟨7, .data⟩ (by simp) rfl
    obtain ⟨v7, e7, ho7⟩ := Q7 h7
    rw [e7]
    have HQ := Lib.hid (And.intro P (And.intro Q3 (And.intro Q6 (And.intro Q7 (And.intro Q8 D8)))))
    clear P Q3 Q6 Q7 Q8 D8
    go_simp
    obtain ⟨P, Q3, Q6, Q7, Q8, D8⟩ := HQ.out
    obtain ⟨bk, fw, fn⟩ := on3 (f := f) (i := 8) (by omega)
    exact hKK (upd (upd gv 17 (v7)) 5 (v7)) _ (by rw [upd_same e7]; exact ⟨hBx, vals_step (n := 8) (v := v7) hD (by decide) (by omega) P (fun h => nomatch (show true = false from h)), fun x => by obtain ⟨v3, e9, ho3⟩ := Q3 (bk 3 (by decide) x); exact ⟨_, e9, fun y => ho3 (fun z => y (fw 7 z))⟩, fun x => by obtain ⟨a6, c6, e9, hac6, hr6⟩ := Q6 (bk 6 (by decide) x); exact ⟨_, _, e9, hac6, fun y => hr6 (fun z => y (fw 7 z))⟩, fun x => Q7 (bk 7 (by decide) x), fun _ => ⟨v7, rfl, ho7⟩, fun _ => fw 7 h7⟩)
  ·rintro f gv w5 hall hs' ⟨hBx, P, Q3, Q6, Q7, Q8, D8⟩
   replace hs' : f.size = 9 := hs'
   have on : ∀ j, j < 9 → On f j := fun j hj => on_all hall hs' j hj
   obtain ⟨v5, e5, ho5⟩ := Q8 (on 8 (by decide))
   have HO5 := Lib.hid ho5
   have HB5 := Lib.hid hBx
   rw [e5]
   clear P Q3 Q6 Q7 Q8 D8 hBx hall hs' on e5 ho5 hD
   have d0 : w5.cell? ⟨b0, 0, none⟩ = some (.int .i64 (K : Int)) := (HC1.out.step HB5.out).at 0 _ rfl
   have d2 : w5.cell? ⟨b0, 2, none⟩ = some (.string s2) := (HC1.out.step HB5.out).at 2 _ rfl
   have d3 : w5.cell? ⟨b0, 3, none⟩ = some (.int .i64 n) := (HC1.out.step HB5.out).at 3 _ rfl
   have HEND := Lib.hid (show ∀ v7 w7, Below w1.heap.size w1 w7 → w7.ownsRow w1.heap.size 5 1 v7 p.length (p.map B) → ∃ a c, v7 = .slice a p.length c ∧ Rd w7 a p.length c p ∧ (a = none → c = 0) ∧ Below w.heap.size w w7 from fun v7 w7 hb ho => by
    obtain ⟨a, c, rfl, hr⟩ := Rd.of_own ho
    exact ⟨a, c, rfl, hr, own_none ho, HB1.out.step hb⟩)
   by_cases h0 : K = 0
   ·subst h0
    have he : l2 = numL (fold n).toNat := by rw [HP.out.2.2, HO.out]; simp [endL]
    have HF := Lib.hid (fun w' => fold_ref n w' HBD.out.1 HBD.out.2)
    have hf : fold n = ((fold n).toNat : Int) := by rw [Int.toNat_of_nonneg (fold_lo n)]
    have hN2 : (fold n).toNat < 18446744073709551616 := by have := fold_hi n HBD.out.1 HBD.out.2; omega
    obtain ⟨N, hN⟩ : ∃ N, N = (fold n).toNat := ⟨_, rfl⟩
    rw [← hN] at hf hN2 he
    rw [hf] at HF
    have HN := Lib.hid (fun w' => show Calls Tryz.prog 22 #[.int .u64 (N : Int)] w' (OwnB l2 w') by rw [he]; exact num_ref N hN2 w')
    clear he hf hN2 hN
    go_wp2_with fail
    refine (HF.out _).mono ?_
    rintro e w' ⟨rfl, rfl⟩
    go_wp2_with fail
    refine (HN.out _).mono ?_
    rintro e w6 ⟨v6, rfl, ho6, hb6⟩
    obtain ⟨a6, c6, rfl, hr6⟩ := Rd.of_own ho6
    have hac6 := own_none ho6
    have hb56 := HB5.out.step hb6
    obtain ⟨v7, w7, hrun7, hown7, hg7⟩ := run_app (P := Tryz.prog) (ty := 28) Tryz.underlying28 HI.out.1 HI.out.2.1 HI.out.2.2.1 HI.out.2.2.2 rfl (ownsRow_below HO5.out hb6) hr6 hac6 (by have := HLEN.out; rw [List.length_append]; omega) hb56.size
    have hb7 := below_own hb56 (ownsRow_below HO5.out hb6) hg7 hb56.size
    obtain ⟨a7, c7, rfl, hE⟩ := HEND.out v7 w7 hb7 (by
     rw [← HP.out.2.1, List.length_append, List.map_append]
     exact hown7)
    have HE := Lib.hid hE
    have HRUN := Lib.hid hrun7
    clear hown7 hg7 hb7 hE hrun7 hb56 ho6 hb6 hr6 hac6
    go_wp2_with (at_builtin; refine Lib.wpList_append_run _ rfl _ _ _ _ rfl _ _ rfl rfl _ _ HRUN.out ?_)
    go_ret2
    show PutP o w _ _
    unfold PutP
    rw [HM.out, if_pos rfl, ← HP.out.1]
    exact ⟨a7, c7, rfl, HE.out⟩
   ·have h0' : ((K : Int) == 0) = false := by simp; omega
    have he : l2 = txtL elem := by rw [HP.out.2.2, HO.out]; unfold endL; rw [if_neg (by simp; omega)]
    have HN := Lib.hid (fun w' => show Calls Tryz.prog 26 #[.string s2] w' (OwnB l2 w') by
     have := text_ref s2 w' (by rw [HS.out.2]; simpa [ByteArray.size] using (HEL8.out (by omega)))
     rw [show s2.data.toList = elem by rw [HS.out.2], ← he] at this
     exact this)
    clear he h0
    go_wp2_with fail
    refine (HN.out _).mono ?_
    rintro e w6 ⟨v6, rfl, ho6, hb6⟩
    obtain ⟨a6, c6, rfl, hr6⟩ := Rd.of_own ho6
    have hac6 := own_none ho6
    have hb56 := HB5.out.step hb6
    obtain ⟨v7, w7, hrun7, hown7, hg7⟩ := run_app (P := Tryz.prog) (ty := 28) Tryz.underlying28 HI.out.1 HI.out.2.1 HI.out.2.2.1 HI.out.2.2.2 rfl (ownsRow_below HO5.out hb6) hr6 hac6 (by have := HLEN.out; rw [List.length_append]; omega) hb56.size
    have hb7 := below_own hb56 (ownsRow_below HO5.out hb6) hg7 hb56.size
    obtain ⟨a7, c7, rfl, hE⟩ := HEND.out v7 w7 hb7 (by
     rw [← HP.out.2.1, List.length_append, List.map_append]
     exact hown7)
    have HE := Lib.hid hE
    have HRUN := Lib.hid hrun7
    clear hown7 hg7 hb7 hE hrun7 hb56 ho6 hb6 hr6 hac6
    go_wp2_with (at_builtin; refine Lib.wpList_append_run _ rfl _ _ _ _ rfl _ _ rfl rfl _ _ HRUN.out ?_)
    go_ret2
    show PutP o w _ _
    unfold PutP
    rw [HM.out, if_pos rfl, ← HP.out.1]
    exact ⟨a7, c7, rfl, HE.out⟩
end Go.Proofs.YtofadpodlaakbaaGreat
