/- The walk of Put, of the layer msg. -/
import Derived.Test.YtofadpodlaakbaaGreatMsgSame
import Derived.Test.YtofadpodlaakbaaGreatCmHash
import Derived.Test.YtofadpodlaakbaaGreatConcat
namespace Go.Proofs.YtofadpodlaakbaaGreat
open Go.ChangeShapes Go.WideShapes Go.ChangeAt Go.RowKit
set_option linter.unusedVariables false
set_option linter.unusedSimpArgs false
theorem Txs.pair {w : World} {b : Nat} {a0 a1 : Option Addr} {l0 l1 c0 c1 : Nat} {X0 X1 : List UInt8} (hc : Cel w b 28 [.slice a0 l0 c0, .slice a1 l1 c1])
  (h0 : Rd w a0 l0 c0 X0 ∧ (a0 = none → c0 = 0)) (h1 : Rd w a1 l1 c1 X1 ∧ (a1 = none → c1 = 0)) : Txs w (some ⟨b, 0, none⟩) 2 2 [X0, X1] := by
 refine ⟨rfl, Nat.le_refl _, by decide, (fun h => by cases h), .inr ⟨b, 0, rfl, fun i hi => ?_⟩⟩
 have e0 := h0.1.len
 have e1 := h1.1.len
 subst e0 e1
 match i, hi with
 | 0, _ => exact ⟨a0, c0, hc.at 0 _ rfl, h0⟩
 | 1, _ => exact ⟨a1, c1, hc.at 1 _ rfl, h1⟩
theorem Rd.grownb {w w' : World} {a : Option Addr} {n c : Nat} {l : List UInt8} {row : Option Nat} (h : Rd w a n c l) (hg : w.grownBy w' row) (hr : ∀ k, row = some k → ∀ x, a = some x → x.block ≠ k) : Rd w' a n c l := by
 refine ⟨h.len, h.le, h.cap, ?_⟩
 obtain ⟨_, _, _, g4, g5⟩ := hg
 rcases h.cells with h0 | ⟨b', off, rfl, hlt, hc⟩
 ·exact .inl h0
 ·refine .inr ⟨b', off, rfl, Nat.lt_of_lt_of_le hlt g4, fun i hi => ?_⟩
  have h6 := hc i hi
  unfold World.cell? at h6 ⊢
  rw [g5 b' hlt (by
   intro e
   exact hr b' e.symm ⟨b', off, none⟩ rfl rfl)]
  exact h6
def MPutP (m : Msg) (w : World) (e : Ending) (w' : World) : Prop :=
 if mayM m = true then ∃ a cap, e = .returned (.tuple #[.slice a (putM m).length cap, .int .i64 0]) ∧ Rd w' a (putM m).length cap (putM m) ∧ (a = none → cap = 0) ∧ Below w.heap.size w w'
 else e = .returned (.tuple #[.slice none 0 0, .int .i64 1]) ∧ Below w.heap.size w w'
theorem oneC_len {c : Cmt} (h : mayC c = true) (h32 : all32 c.par) : (oneC c).length ≤ 450 := by
 have h1 := putC_len h h32
 have h2 := hashL_length (putC c)
 have h3 := numL_le10 (putC c).length (by omega)
 unfold oneC txtL
 simp only [List.length_append]
 omega
theorem flat_le : ∀ (l : List (List UInt8)) (k : Nat), (∀ x ∈ l, x.length ≤ k) → l.flatten.length ≤ k * l.length
 | [], k, _ => by simp
 | x :: l, k, h => by
  have h1 := flat_le l k (fun y hy => h y (List.mem_cons_of_mem _ hy))
  have h2 := h x List.mem_cons_self
  rw [List.flatten_cons, List.length_append, List.length_cons, Nat.mul_succ]
  omega
set_option maxRecDepth 100000 in
set_option maxHeartbeats 16000000 in
theorem mput_any (m : Msg) (ai : Option Addr) (ci : Nat) (ac : Option Addr) (cc : Nat) (w : World) (hr : MsgR w m ai ci ac cc) : Calls Tryz.prog 7 #[m.val ai ci ac cc] w (MPutP m w) := by
 have HMAY := Lib.hid (fun w' h => mmay_any m ai ci ac cc w' h)
 obtain ⟨mm, hmm⟩ : ∃ x, x = mayM m := ⟨_, rfl⟩
 rw [← hmm] at HMAY
 have HRM := Lib.hid hr
 have HM := Lib.hid hmm
 have HA32 := Lib.hid hr.all32
 obtain ⟨n1, hn1⟩ : ∃ n, n = m.ids.length := ⟨_, rfl⟩
 obtain ⟨n2, hn2⟩ : ∃ n, n = m.cms.length := ⟨_, rfl⟩
 have hi := hr.ids
 have hc := hr.cms
 rw [← hn1] at hi
 rw [← hn2] at hc
 have hn163 : n1 ≤ 9223372036854775807 := Nat.le_trans hi.le hi.cap
 have hn263 : n2 ≤ 9223372036854775807 := Nat.le_trans hc.le hc.cap
 have HI := Lib.hid hi
 have HC := Lib.hid hc
 have HN := Lib.hid (And.intro hn1 hn2)
 unfold Msg.val Msg.cs at HMAY ⊢
 obtain ⟨kind, hk⟩ : ∃ x, x = m.kind := ⟨_, rfl⟩
 rw [← hk, ← hn1, ← hn2] at HMAY ⊢
 have HK := Lib.hid hk
 clear hr hmm hn1 hn2 hi hc hk
 go_enter Tryz.func7, Tryz.ntmps7
 go_upto_region 1 with fail
 obtain ⟨b1, hb1⟩ : ∃ b, b = w.heap.size := ⟨_, rfl⟩
 have hC0 := Cel.new w 25 [.int .i64 kind, .slice ai n1 ci, .slice ac n2 cc]
 rw [← hb1] at hC0 ⊢
 generalize hw1 : w.alloc (.cells _ _) = w1
 have HC1 := Lib.hid (show Cel w1 b1 25 [.int .i64 kind, .slice ai n1 ci, .slice ac n2 cc] by rw [← hw1]; exact hC0)
 have HB1 := Lib.hid (show Below w.heap.size w w1 by rw [← hw1]; exact (Below.refl _ _).alloc (Nat.le_refl _) _)
 clear hC0 hw1 hb1
 have p0 : w1.cell? ⟨b1, 0, none⟩ = some (.int .i64 kind) := HC1.out.at 0 _ rfl
 have p1 : w1.cell? ⟨b1, 1, none⟩ = some (.slice ai n1 ci) := HC1.out.at 1 _ rfl
 have p2 : w1.cell? ⟨b1, 2, none⟩ = some (.slice ac n2 cc) := HC1.out.at 2 _ rfl
 go_wp2_with fail
 refine (HMAY.out _ (HRM.out.below HB1.out)).mono ?_
 rintro e w2 ⟨rfl, hb⟩
 have HB2 := Lib.hid (HB1.out.step hb)
 have HC2 := Lib.hid (HC1.out.step hb)
 clear hb p0 p1 p2 HB1 HC1 HMAY
 cases mm with
 | false =>
  go_wp2_with fail
  go_ret2
  show MPutP m w _ _
  unfold MPutP
  rw [if_neg (by rw [← HM.out]; decide)]
  exact ⟨rfl, HB2.out⟩
 | true =>
  obtain ⟨K, hK, hK2, hn16, hn6, HOKS⟩ : ∃ K : Nat, kind = (K : Int) ∧ K ≤ 2 ∧ n1 ≤ 16 ∧ n2 ≤ 6 ∧ Hid (∀ x ∈ m.cms, mayC x = true ∧ all32 x.par) := by
   have h1 := HN.out.1
   have h2 := HN.out.2
   have h3 := HK.out
   rcases mayM_kind HM.out.symm with ⟨g1, g2, g3, g4⟩ | ⟨g1, g2, g3, g4⟩
   ·rw [g4, List.length_nil] at h2
    exact ⟨kind.toNat, by omega, by omega, by omega, by omega, Lib.hid (by rw [g4]; intro x hx; cases hx)⟩
   ·rw [g2, List.length_nil] at h1
    exact ⟨2, by omega, by omega, by omega, by omega, Lib.hid (fun x hx => ⟨(g4 x hx).1, HA32.out.2 x hx⟩)⟩
  subst hK
  obtain ⟨T, hT⟩ : ∃ T, T = n1 + n2 := ⟨_, rfl⟩
  have hTi : (n1 : Int) + (n2 : Int) = (T : Int) := by omega
  have hTw : IntKind.i64.wrap (T : Int) = (T : Int) := IntWalk.i64_in _ (by omega)
  have hT22 : T ≤ 22 := by omega
  have HX0 := Lib.hid (fun w' => (num_any K (by omega) w').mono fun e w'' h => OwnB.txt h)
  have HX1 := Lib.hid (fun w' => (num_any T (by omega) w').mono fun e w'' h => OwnB.txt h)
  unfold Txt at HX0 HX1
  obtain ⟨X0, hX0⟩ : ∃ X, X = numL K := ⟨_, rfl⟩
  obtain ⟨X1, hX1⟩ : ∃ X, X = numL T := ⟨_, rfl⟩
  have h010 := numL_le10 K (by omega)
  have h110 := numL_le10 T (by omega)
  rw [← hX0] at HX0 h010
  rw [← hX1] at HX1 h110
  obtain ⟨l0, hl0⟩ : ∃ l, l = X0.length := ⟨_, rfl⟩
  obtain ⟨l1, hl1⟩ : ∃ l, l = X1.length := ⟨_, rfl⟩
  rw [← hl0] at HX0
  rw [← hl1] at HX1
  obtain ⟨H, hH⟩ : ∃ H, H = X0 ++ X1 := ⟨_, rfl⟩
  have HHL := Lib.hid (show H.length ≤ 20 by rw [hH, List.length_append]; omega)
  have HCO := Lib.hid (fun w' b h => concat_any (some ⟨b, 0, none⟩) 2 2 [X0, X1] w' h (by decide) (by simp only [List.flatten_cons, List.flatten_nil, List.length_append, List.length_nil]; omega))
  rw [show [X0, X1].flatten = H by rw [hH]; simp] at HCO
  have HPM := Lib.hid (show putM m = H ++ (m.ids.flatten ++ (m.cms.map oneC).flatten) by
   unfold putM
   rw [← HK.out, Int.toNat_natCast, ← HN.out.1, ← HN.out.2, ← hT, ← hX0, ← hX1, hH, List.append_assoc])
  clear hX0 hX1 hl0 hl1 hH h010 h110 hT
  go_upto_region 3 with fail
  have hD : ∀ j, j < 16 → ∀ n, n < 16 → j ≠ n → dkN [16, 17, 18, 19, 20, 21, 22, 23, 24, 25, 26, 27, 28, 29, 30, 4] j ≠ dkN [16, 17, 18, 19, 20, 21, 22, 23, 24, 25, 26, 27, 28, 29, 30, 4] n := by decide +kernel
  refine region_fun (by kernel_rfl) (by kernel_rfl) (fun gv => #[.agg #[.int .i64 (K : Int), .slice ai n1 ci, .slice ac n2 cc], .pointer (some ⟨b1, 0, none⟩), .slice none 0 0, .int .i64 0, gv 4, gv 5, gv 6, gv 7, gv 8, gv 9, gv 10, gv 11, gv 12, gv 13, gv 14, gv 15, gv 16, gv 17, gv 18, gv 19, gv 20, gv 21, gv 22, gv 23, gv 24, gv 25, gv 26, gv 27, gv 28, gv 29, gv 30, gv 31, gv 32, gv 33, gv 34, gv 35, gv 36, gv 37, gv 38, gv 39, gv 40, gv 41, gv 42, gv 43, gv 44, gv 45, gv 46, gv 47, gv 48, gv 49, gv 50, gv 51, gv 52, gv 53, gv 54, gv 55, gv 56, gv 57, gv 58, gv 59, gv 60, gv 61, gv 62, gv 63, gv 64, gv 65, gv 66, gv 67]) rfl (fun f gv wx => Below w2.heap.size w2 wx ∧ (∀ j, j < 16 → (fun j => Nat.beq j 3 || Nat.beq j 12 || Nat.beq j 13 || Nat.beq j 14 || Nat.beq j 15) j = false → On f j → gv (dkN [16, 17, 18, 19, 20, 21, 22, 23, 24, 25, 26, 27, 28, 29, 30, 4] j) = vkN [.pointer (some ⟨b1, 0, none⟩), .int .i64 (K : Int), .int .u64 (K : Int), undef, .pointer (some ⟨b1, 1, none⟩), .slice ai n1 ci, .int .i64 (n1 : Int), .pointer (some ⟨b1, 2, none⟩), .slice ac n2 cc, .int .i64 (n2 : Int), .int .i64 (T : Int), .int .u64 (T : Int), undef, undef, undef, undef] j) ∧ ((On f 3 → ∃ a c, gv 19 = .slice a l0 c ∧ Rd wx a l0 c X0 ∧ (a = none → c = 0))) ∧ ((On f 12 → ∃ a c, gv 28 = .slice a l1 c ∧ Rd wx a l1 c X1 ∧ (a = none → c = 0))) ∧ ((On f 13 → ∃ b, gv 29 = .slice (some ⟨b, 0, none⟩) 2 2 ∧ Txs wx (some ⟨b, 0, none⟩) 2 2 [X0, X1])) ∧ ((On f 14 → ∃ v, gv 30 = v ∧ wx.ownsRow w2.heap.size 5 1 v H.length (H.map B))) ∧ ((On f 15 → ∃ v, gv 4 = v ∧ (On f 14 ∧ wx.ownsRow w2.heap.size 5 1 v H.length (H.map B))))) ?_ ?_ ?_
  ·have hoff : ∀ j, ¬ On (Array.replicate 16 false) j := by
    intro j hj; simp only [On, Array.getD_eq_getD_getElem?, Array.getElem?_replicate] at hj; split at hj <;> simp at hj
   exact ⟨(Below.refl _ _).drew, fun j _ _ x => absurd x (hoff _), fun x => absurd x (hoff _), fun x => absurd x (hoff _), fun x => absurd x (hoff _), fun x => absurd x (hoff _), fun x => absurd x (hoff _)⟩
  ·rintro i' o' f gv wm hio hs' hn he ⟨hBx, P, Q3, Q12, Q13, Q14, Q15⟩ KK hKK
   have hi' : i' < 16 := (Array.getElem?_eq_some_iff.1 hio).1
   replace hs' : f.size = 16 := hs'
   match i', hi' with
   | 0, _ =>
    cases hio
    have off : ¬ On f 0 := on_off (by omega) hn
    have HQ := Lib.hid (And.intro P (And.intro Q3 (And.intro Q12 (And.intro Q13 (And.intro Q14 Q15)))))
    clear P Q3 Q12 Q13 Q14 Q15
    go_simp
    obtain ⟨P, Q3, Q12, Q13, Q14, Q15⟩ := HQ.out
    obtain ⟨bk, fw, fn⟩ := on3 (f := f) (i := 0) (by omega)
    exact hKK (upd gv 16 (.pointer (some ⟨b1, 0, none⟩))) _ (by exact ⟨hBx, vals_step (n := 0) (v := .pointer (some ⟨b1, 0, none⟩)) hD (by decide) (by omega) P (fun _ => rfl), fun x => Q3 (bk 3 (by decide) x), fun x => Q12 (bk 12 (by decide) x), fun x => Q13 (bk 13 (by decide) x), fun x => Q14 (bk 14 (by decide) x), fun x => by obtain ⟨v15, e9, h15, ho15⟩ := Q15 (bk 15 (by decide) x); exact ⟨_, e9, fw 14 h15, ho15⟩⟩)
   | 1, _ =>
    cases hio
    have off : ¬ On f 1 := on_off (by omega) hn
    have h0 : On f 0 := he ⟨0, .data⟩ (by simp) rfl
    have e0 : gv 16 = .pointer (some ⟨b1, 0, none⟩) := P 0 (by decide) rfl h0
    have d0 : wm.cell? ⟨b1, 0, none⟩ = some (.int .i64 (K : Int)) := (HC2.out.step hBx).at 0 _ rfl
    rw [e0]
    have HQ := Lib.hid (And.intro P (And.intro Q3 (And.intro Q12 (And.intro Q13 (And.intro Q14 Q15)))))
    clear P Q3 Q12 Q13 Q14 Q15
    go_simp
    obtain ⟨P, Q3, Q12, Q13, Q14, Q15⟩ := HQ.out
    obtain ⟨bk, fw, fn⟩ := on3 (f := f) (i := 1) (by omega)
    exact hKK (upd (upd gv 16 (.pointer (some ⟨b1, 0, none⟩))) 17 (.int .i64 (K : Int))) _ (by rw [upd_same e0]; exact ⟨hBx, vals_step (n := 1) (v := .int .i64 (K : Int)) hD (by decide) (by omega) P (fun _ => rfl), fun x => Q3 (bk 3 (by decide) x), fun x => Q12 (bk 12 (by decide) x), fun x => Q13 (bk 13 (by decide) x), fun x => Q14 (bk 14 (by decide) x), fun x => by obtain ⟨v15, e9, h15, ho15⟩ := Q15 (bk 15 (by decide) x); exact ⟨_, e9, fw 14 h15, ho15⟩⟩)
   | 2, _ =>
    cases hio
    have off : ¬ On f 2 := on_off (by omega) hn
    have h1 : On f 1 := he ⟨1, .data⟩ (by simp) rfl
    have e1 : gv 17 = .int .i64 (K : Int) := P 1 (by decide) rfl h1
    have d0 : IntKind.u64.wrap (K : Int) = (K : Int) := by rw [wrap_u64]; omega
    rw [e1]
    have HQ := Lib.hid (And.intro P (And.intro Q3 (And.intro Q12 (And.intro Q13 (And.intro Q14 Q15)))))
    clear P Q3 Q12 Q13 Q14 Q15
    go_simp
    obtain ⟨P, Q3, Q12, Q13, Q14, Q15⟩ := HQ.out
    obtain ⟨bk, fw, fn⟩ := on3 (f := f) (i := 2) (by omega)
    exact hKK (upd (upd gv 17 (.int .i64 (K : Int))) 18 (.int .u64 (K : Int))) _ (by rw [upd_same e1]; exact ⟨hBx, vals_step (n := 2) (v := .int .u64 (K : Int)) hD (by decide) (by omega) P (fun _ => rfl), fun x => Q3 (bk 3 (by decide) x), fun x => Q12 (bk 12 (by decide) x), fun x => Q13 (bk 13 (by decide) x), fun x => Q14 (bk 14 (by decide) x), fun x => by obtain ⟨v15, e9, h15, ho15⟩ := Q15 (bk 15 (by decide) x); exact ⟨_, e9, fw 14 h15, ho15⟩⟩)
   | 3, _ =>
    cases hio
    have off : ¬ On f 3 := on_off (by omega) hn
    have h2 : On f 2 := he ⟨2, .data⟩ (by simp) rfl
    have e2 : gv 18 = .int .u64 (K : Int) := P 2 (by decide) rfl h2
    rw [e2]
    have HQ := Lib.hid (And.intro P (And.intro Q3 (And.intro Q12 (And.intro Q13 (And.intro Q14 Q15)))))
    clear P Q3 Q12 Q13 Q14 Q15
    go_simp
    refine (HX0.out _).mono ?_
    rintro e w6 ⟨a3, c3, rfl, hr3, hz3, hb⟩
    obtain ⟨P, Q3, Q12, Q13, Q14, Q15⟩ := HQ.out
    obtain ⟨bk, fw, fn⟩ := on3 (f := f) (i := 3) (by omega)
    exact hKK (upd (upd gv 18 (.int .u64 (K : Int))) 19 (.slice a3 l0 c3)) _ (by rw [upd_same e2]; exact ⟨hBx.step hb, vals_step (n := 3) (v := .slice a3 l0 c3) hD (by decide) (by omega) P (fun h => nomatch (show true = false from h)), fun _ => ⟨a3, c3, rfl, hr3, hz3⟩, fun x => by obtain ⟨a12, c12, e9, hr12, hz12⟩ := Q12 (bk 12 (by decide) x); exact ⟨_, _, e9, hr12.below hb, hz12⟩, fun x => by obtain ⟨b, e9, htx⟩ := Q13 (bk 13 (by decide) x); exact ⟨_, e9, htx.below hb⟩, fun x => by obtain ⟨v14, e9, ho14⟩ := Q14 (bk 14 (by decide) x); exact ⟨_, e9, ownsRow_below ho14 hb⟩, fun x => by obtain ⟨v15, e9, h15, ho15⟩ := Q15 (bk 15 (by decide) x); exact ⟨_, e9, fw 14 h15, ownsRow_below ho15 hb⟩⟩)
   | 4, _ =>
    cases hio
    have off : ¬ On f 4 := on_off (by omega) hn
    have HQ := Lib.hid (And.intro P (And.intro Q3 (And.intro Q12 (And.intro Q13 (And.intro Q14 Q15)))))
    clear P Q3 Q12 Q13 Q14 Q15
    go_simp
    obtain ⟨P, Q3, Q12, Q13, Q14, Q15⟩ := HQ.out
    obtain ⟨bk, fw, fn⟩ := on3 (f := f) (i := 4) (by omega)
    exact hKK (upd gv 20 (.pointer (some ⟨b1, 1, none⟩))) _ (by exact ⟨hBx, vals_step (n := 4) (v := .pointer (some ⟨b1, 1, none⟩)) hD (by decide) (by omega) P (fun _ => rfl), fun x => Q3 (bk 3 (by decide) x), fun x => Q12 (bk 12 (by decide) x), fun x => Q13 (bk 13 (by decide) x), fun x => Q14 (bk 14 (by decide) x), fun x => by obtain ⟨v15, e9, h15, ho15⟩ := Q15 (bk 15 (by decide) x); exact ⟨_, e9, fw 14 h15, ho15⟩⟩)
   | 5, _ =>
    cases hio
    have off : ¬ On f 5 := on_off (by omega) hn
    have h4 : On f 4 := he ⟨4, .data⟩ (by simp) rfl
    have e4 : gv 20 = .pointer (some ⟨b1, 1, none⟩) := P 4 (by decide) rfl h4
    have d0 : wm.cell? ⟨b1, 1, none⟩ = some (.slice ai n1 ci) := (HC2.out.step hBx).at 1 _ rfl
    rw [e4]
    have HQ := Lib.hid (And.intro P (And.intro Q3 (And.intro Q12 (And.intro Q13 (And.intro Q14 Q15)))))
    clear P Q3 Q12 Q13 Q14 Q15
    go_simp
    obtain ⟨P, Q3, Q12, Q13, Q14, Q15⟩ := HQ.out
    obtain ⟨bk, fw, fn⟩ := on3 (f := f) (i := 5) (by omega)
    exact hKK (upd (upd gv 20 (.pointer (some ⟨b1, 1, none⟩))) 21 (.slice ai n1 ci)) _ (by rw [upd_same e4]; exact ⟨hBx, vals_step (n := 5) (v := .slice ai n1 ci) hD (by decide) (by omega) P (fun _ => rfl), fun x => Q3 (bk 3 (by decide) x), fun x => Q12 (bk 12 (by decide) x), fun x => Q13 (bk 13 (by decide) x), fun x => Q14 (bk 14 (by decide) x), fun x => by obtain ⟨v15, e9, h15, ho15⟩ := Q15 (bk 15 (by decide) x); exact ⟨_, e9, fw 14 h15, ho15⟩⟩)
   | 6, _ =>
    cases hio
    have off : ¬ On f 6 := on_off (by omega) hn
    have h5 : On f 5 := he ⟨5, .data⟩ (by simp) rfl
    have e5 : gv 21 = .slice ai n1 ci := P 5 (by decide) rfl h5
    rw [e5]
    have HQ := Lib.hid (And.intro P (And.intro Q3 (And.intro Q12 (And.intro Q13 (And.intro Q14 Q15)))))
    clear P Q3 Q12 Q13 Q14 Q15
    go_simp
    obtain ⟨P, Q3, Q12, Q13, Q14, Q15⟩ := HQ.out
    obtain ⟨bk, fw, fn⟩ := on3 (f := f) (i := 6) (by omega)
    exact hKK (upd (upd gv 21 (.slice ai n1 ci)) 22 (.int .i64 (n1 : Int))) _ (by rw [upd_same e5]; exact ⟨hBx, vals_step (n := 6) (v := .int .i64 (n1 : Int)) hD (by decide) (by omega) P (fun _ => rfl), fun x => Q3 (bk 3 (by decide) x), fun x => Q12 (bk 12 (by decide) x), fun x => Q13 (bk 13 (by decide) x), fun x => Q14 (bk 14 (by decide) x), fun x => by obtain ⟨v15, e9, h15, ho15⟩ := Q15 (bk 15 (by decide) x); exact ⟨_, e9, fw 14 h15, ho15⟩⟩)
   | 7, _ =>
    cases hio
    have off : ¬ On f 7 := on_off (by omega) hn
    have HQ := Lib.hid (And.intro P (And.intro Q3 (And.intro Q12 (And.intro Q13 (And.intro Q14 Q15)))))
    clear P Q3 Q12 Q13 Q14 Q15
    go_simp
    obtain ⟨P, Q3, Q12, Q13, Q14, Q15⟩ := HQ.out
    obtain ⟨bk, fw, fn⟩ := on3 (f := f) (i := 7) (by omega)
    exact hKK (upd gv 23 (.pointer (some ⟨b1, 2, none⟩))) _ (by exact ⟨hBx, vals_step (n := 7) (v := .pointer (some ⟨b1, 2, none⟩)) hD (by decide) (by omega) P (fun _ => rfl), fun x => Q3 (bk 3 (by decide) x), fun x => Q12 (bk 12 (by decide) x), fun x => Q13 (bk 13 (by decide) x), fun x => Q14 (bk 14 (by decide) x), fun x => by obtain ⟨v15, e9, h15, ho15⟩ := Q15 (bk 15 (by decide) x); exact ⟨_, e9, fw 14 h15, ho15⟩⟩)
   | 8, _ =>
    cases hio
    have off : ¬ On f 8 := on_off (by omega) hn
    have h7 : On f 7 := he ⟨7, .data⟩ (by simp) rfl
    have e7 : gv 23 = .pointer (some ⟨b1, 2, none⟩) := P 7 (by decide) rfl h7
    have d0 : wm.cell? ⟨b1, 2, none⟩ = some (.slice ac n2 cc) := (HC2.out.step hBx).at 2 _ rfl
    rw [e7]
    have HQ := Lib.hid (And.intro P (And.intro Q3 (And.intro Q12 (And.intro Q13 (And.intro Q14 Q15)))))
    clear P Q3 Q12 Q13 Q14 Q15
    go_simp
    obtain ⟨P, Q3, Q12, Q13, Q14, Q15⟩ := HQ.out
    obtain ⟨bk, fw, fn⟩ := on3 (f := f) (i := 8) (by omega)
    exact hKK (upd (upd gv 23 (.pointer (some ⟨b1, 2, none⟩))) 24 (.slice ac n2 cc)) _ (by rw [upd_same e7]; exact ⟨hBx, vals_step (n := 8) (v := .slice ac n2 cc) hD (by decide) (by omega) P (fun _ => rfl), fun x => Q3 (bk 3 (by decide) x), fun x => Q12 (bk 12 (by decide) x), fun x => Q13 (bk 13 (by decide) x), fun x => Q14 (bk 14 (by decide) x), fun x => by obtain ⟨v15, e9, h15, ho15⟩ := Q15 (bk 15 (by decide) x); exact ⟨_, e9, fw 14 h15, ho15⟩⟩)
   | 9, _ =>
    cases hio
    have off : ¬ On f 9 := on_off (by omega) hn
    have h8 : On f 8 := he ⟨8, .data⟩ (by simp) rfl
    have e8 : gv 24 = .slice ac n2 cc := P 8 (by decide) rfl h8
    rw [e8]
    have HQ := Lib.hid (And.intro P (And.intro Q3 (And.intro Q12 (And.intro Q13 (And.intro Q14 Q15)))))
    clear P Q3 Q12 Q13 Q14 Q15
    go_simp
    obtain ⟨P, Q3, Q12, Q13, Q14, Q15⟩ := HQ.out
    obtain ⟨bk, fw, fn⟩ := on3 (f := f) (i := 9) (by omega)
    exact hKK (upd (upd gv 24 (.slice ac n2 cc)) 25 (.int .i64 (n2 : Int))) _ (by rw [upd_same e8]; exact ⟨hBx, vals_step (n := 9) (v := .int .i64 (n2 : Int)) hD (by decide) (by omega) P (fun _ => rfl), fun x => Q3 (bk 3 (by decide) x), fun x => Q12 (bk 12 (by decide) x), fun x => Q13 (bk 13 (by decide) x), fun x => Q14 (bk 14 (by decide) x), fun x => by obtain ⟨v15, e9, h15, ho15⟩ := Q15 (bk 15 (by decide) x); exact ⟨_, e9, fw 14 h15, ho15⟩⟩)
   | 10, _ =>
    cases hio
    have off : ¬ On f 10 := on_off (by omega) hn
    have h6 : On f 6 := he ⟨6, .data⟩ (by simp) rfl
    have e6 : gv 22 = .int .i64 (n1 : Int) := P 6 (by decide) rfl h6
    have h9 : On f 9 := he ⟨9, .data⟩ (by simp) rfl
    have e9 : gv 25 = .int .i64 (n2 : Int) := P 9 (by decide) rfl h9
    rw [e6, e9]
    have HQ := Lib.hid (And.intro P (And.intro Q3 (And.intro Q12 (And.intro Q13 (And.intro Q14 Q15)))))
    clear P Q3 Q12 Q13 Q14 Q15
    go_simp
    obtain ⟨P, Q3, Q12, Q13, Q14, Q15⟩ := HQ.out
    obtain ⟨bk, fw, fn⟩ := on3 (f := f) (i := 10) (by omega)
    exact hKK (upd (upd (upd gv 22 (.int .i64 (n1 : Int))) 25 (.int .i64 (n2 : Int))) 26 (.int .i64 (T : Int))) _ (by rw [upd_same e6]; rw [upd_same e9]; exact ⟨hBx, vals_step (n := 10) (v := .int .i64 (T : Int)) hD (by decide) (by omega) P (fun _ => rfl), fun x => Q3 (bk 3 (by decide) x), fun x => Q12 (bk 12 (by decide) x), fun x => Q13 (bk 13 (by decide) x), fun x => Q14 (bk 14 (by decide) x), fun x => by obtain ⟨v15, e9, h15, ho15⟩ := Q15 (bk 15 (by decide) x); exact ⟨_, e9, fw 14 h15, ho15⟩⟩)
   | 11, _ =>
    cases hio
    have off : ¬ On f 11 := on_off (by omega) hn
    have h10 : On f 10 := he ⟨10, .data⟩ (by simp) rfl
    have e10 : gv 26 = .int .i64 (T : Int) := P 10 (by decide) rfl h10
    have d0 : IntKind.u64.wrap (T : Int) = (T : Int) := by rw [wrap_u64]; omega
    rw [e10]
    have HQ := Lib.hid (And.intro P (And.intro Q3 (And.intro Q12 (And.intro Q13 (And.intro Q14 Q15)))))
    clear P Q3 Q12 Q13 Q14 Q15
    go_simp
    obtain ⟨P, Q3, Q12, Q13, Q14, Q15⟩ := HQ.out
    obtain ⟨bk, fw, fn⟩ := on3 (f := f) (i := 11) (by omega)
    exact hKK (upd (upd gv 26 (.int .i64 (T : Int))) 27 (.int .u64 (T : Int))) _ (by rw [upd_same e10]; exact ⟨hBx, vals_step (n := 11) (v := .int .u64 (T : Int)) hD (by decide) (by omega) P (fun _ => rfl), fun x => Q3 (bk 3 (by decide) x), fun x => Q12 (bk 12 (by decide) x), fun x => Q13 (bk 13 (by decide) x), fun x => Q14 (bk 14 (by decide) x), fun x => by obtain ⟨v15, e9, h15, ho15⟩ := Q15 (bk 15 (by decide) x); exact ⟨_, e9, fw 14 h15, ho15⟩⟩)
   | 12, _ =>
    cases hio
    have off : ¬ On f 12 := on_off (by omega) hn
    have h11 : On f 11 := he ⟨11, .data⟩ (by simp) rfl
    have e11 : gv 27 = .int .u64 (T : Int) := P 11 (by decide) rfl h11
    rw [e11]
    have HQ := Lib.hid (And.intro P (And.intro Q3 (And.intro Q12 (And.intro Q13 (And.intro Q14 Q15)))))
    clear P Q3 Q12 Q13 Q14 Q15
    go_simp
    refine (HX1.out _).mono ?_
    rintro e w6 ⟨a12, c12, rfl, hr12, hz12, hb⟩
    obtain ⟨P, Q3, Q12, Q13, Q14, Q15⟩ := HQ.out
    obtain ⟨bk, fw, fn⟩ := on3 (f := f) (i := 12) (by omega)
    exact hKK (upd (upd gv 27 (.int .u64 (T : Int))) 28 (.slice a12 l1 c12)) _ (by rw [upd_same e11]; exact ⟨hBx.step hb, vals_step (n := 12) (v := .slice a12 l1 c12) hD (by decide) (by omega) P (fun h => nomatch (show true = false from h)), fun x => by obtain ⟨a3, c3, e9, hr3, hz3⟩ := Q3 (bk 3 (by decide) x); exact ⟨_, _, e9, hr3.below hb, hz3⟩, fun _ => ⟨a12, c12, rfl, hr12, hz12⟩, fun x => by obtain ⟨b, e9, htx⟩ := Q13 (bk 13 (by decide) x); exact ⟨_, e9, htx.below hb⟩, fun x => by obtain ⟨v14, e9, ho14⟩ := Q14 (bk 14 (by decide) x); exact ⟨_, e9, ownsRow_below ho14 hb⟩, fun x => by obtain ⟨v15, e9, h15, ho15⟩ := Q15 (bk 15 (by decide) x); exact ⟨_, e9, fw 14 h15, ownsRow_below ho15 hb⟩⟩)
   | 13, _ =>
    cases hio
    have off : ¬ On f 13 := on_off (by omega) hn
    have h3 : On f 3 := he ⟨3, .data⟩ (by simp) rfl
    obtain ⟨a3, c3, e3, hr3, hz3⟩ := Q3 h3
    have h12 : On f 12 := he ⟨12, .data⟩ (by simp) rfl
    obtain ⟨a12, c12, e12, hr12, hz12⟩ := Q12 h12
    rw [e3, e12]
    have HQ := Lib.hid (And.intro P (And.intro Q3 (And.intro Q12 (And.intro Q13 (And.intro Q14 Q15)))))
    clear P Q3 Q12 Q13 Q14 Q15
    go_simp
    obtain ⟨b, hbb⟩ : ∃ b, b = wm.heap.size := ⟨_, rfl⟩
    obtain ⟨w6, hw6⟩ : ∃ w6, w6 = wm.alloc (.cells ([.slice a3 l0 c3, .slice a12 l1 c12] : List Value).toArray 28) := ⟨_, rfl⟩
    have hb : Below wm.heap.size wm w6 := by rw [hw6]; exact (Below.refl _ _).alloc (Nat.le_refl _) _
    have hcb : Cel w6 b 28 [.slice a3 l0 c3, .slice a12 l1 c12] := by rw [hw6, hbb]; exact Cel.new wm _ _
    show KK ⟨#[_, _, _, _, _, _, _, _, _, _, _, _, _, _, _, _, _, _, _, _, _, _, _, _, _, _, _, _, _, .slice (some ⟨wm.heap.size, 0, none⟩) 2 2, _, _, _, _, _, _, _, _, _, _, _, _, _, _, _, _, _, _, _, _, _, _, _, _, _, _, _, _, _, _, _, _, _, _, _, _, _, _], []⟩ (wm.alloc (.cells ([.slice a3 l0 c3, .slice a12 l1 c12] : List Value).toArray 28))
    rw [← hbb, ← hw6]
    obtain ⟨P, Q3, Q12, Q13, Q14, Q15⟩ := HQ.out
    obtain ⟨bk, fw, fn⟩ := on3 (f := f) (i := 13) (by omega)
    exact hKK (upd (upd (upd gv 19 (.slice a3 l0 c3)) 28 (.slice a12 l1 c12)) 29 (.slice (some ⟨b, 0, none⟩) 2 2)) _ (by rw [upd_same e3]; rw [upd_same e12]; exact ⟨hBx.step hb, vals_step (n := 13) (v := .slice (some ⟨b, 0, none⟩) 2 2) hD (by decide) (by omega) P (fun h => nomatch (show true = false from h)), fun x => by obtain ⟨a3, c3, e9, hr3, hz3⟩ := Q3 (bk 3 (by decide) x); exact ⟨_, _, e9, hr3.below hb, hz3⟩, fun x => by obtain ⟨a12, c12, e9, hr12, hz12⟩ := Q12 (bk 12 (by decide) x); exact ⟨_, _, e9, hr12.below hb, hz12⟩, fun _ => ⟨b, rfl, Txs.pair hcb ⟨hr3.below hb, hz3⟩ ⟨hr12.below hb, hz12⟩⟩, fun x => by obtain ⟨v14, e9, ho14⟩ := Q14 (bk 14 (by decide) x); exact ⟨_, e9, ownsRow_below ho14 hb⟩, fun x => by obtain ⟨v15, e9, h15, ho15⟩ := Q15 (bk 15 (by decide) x); exact ⟨_, e9, fw 14 h15, ownsRow_below ho15 hb⟩⟩)
   | 14, _ =>
    cases hio
    have off : ¬ On f 14 := on_off (by omega) hn
    have h13 : On f 13 := he ⟨13, .data⟩ (by simp) rfl
    obtain ⟨b, e13, htx⟩ := Q13 h13
    rw [e13]
    have HQ := Lib.hid (And.intro P (And.intro Q3 (And.intro Q12 (And.intro Q13 (And.intro Q14 Q15)))))
    clear P Q3 Q12 Q13 Q14 Q15
    go_simp
    refine (HCO.out _ _ htx).mono ?_
    rintro e w6 ⟨v14, rfl, ho, hb⟩
    have ho14 := ownsRow_mono ho hBx.size
    obtain ⟨P, Q3, Q12, Q13, Q14, Q15⟩ := HQ.out
    obtain ⟨bk, fw, fn⟩ := on3 (f := f) (i := 14) (by omega)
    exact hKK (upd (upd gv 29 (.slice (some ⟨b, 0, none⟩) 2 2)) 30 (v14)) _ (by rw [upd_same e13]; exact ⟨hBx.step hb, vals_step (n := 14) (v := v14) hD (by decide) (by omega) P (fun h => nomatch (show true = false from h)), fun x => by obtain ⟨a3, c3, e9, hr3, hz3⟩ := Q3 (bk 3 (by decide) x); exact ⟨_, _, e9, hr3.below hb, hz3⟩, fun x => by obtain ⟨a12, c12, e9, hr12, hz12⟩ := Q12 (bk 12 (by decide) x); exact ⟨_, _, e9, hr12.below hb, hz12⟩, fun x => by obtain ⟨b, e9, htx⟩ := Q13 (bk 13 (by decide) x); exact ⟨_, e9, htx.below hb⟩, fun _ => ⟨v14, rfl, ho14⟩, fun x => by obtain ⟨v15, e9, h15, ho15⟩ := Q15 (bk 15 (by decide) x); exact ⟨_, e9, fw 14 h15, ownsRow_below ho15 hb⟩⟩)
   | 15, _ =>
    cases hio
    have off : ¬ On f 15 := on_off (by omega) hn
    have h14 : On f 14 := he ⟨14, .data⟩ (by simp) rfl
    obtain ⟨v14, e14, ho14⟩ := Q14 h14
    rw [e14]
    have HQ := Lib.hid (And.intro P (And.intro Q3 (And.intro Q12 (And.intro Q13 (And.intro Q14 Q15)))))
    clear P Q3 Q12 Q13 Q14 Q15
    go_simp
    obtain ⟨P, Q3, Q12, Q13, Q14, Q15⟩ := HQ.out
    obtain ⟨bk, fw, fn⟩ := on3 (f := f) (i := 15) (by omega)
    exact hKK (upd (upd gv 30 (v14)) 4 (v14)) _ (by rw [upd_same e14]; exact ⟨hBx, vals_step (n := 15) (v := v14) hD (by decide) (by omega) P (fun h => nomatch (show true = false from h)), fun x => Q3 (bk 3 (by decide) x), fun x => Q12 (bk 12 (by decide) x), fun x => Q13 (bk 13 (by decide) x), fun x => Q14 (bk 14 (by decide) x), fun _ => ⟨v14, rfl, fw 14 h14, ho14⟩⟩)
  ·rintro f gv w5 hall hs' ⟨hBx, P, Q3, Q12, Q13, Q14, Q15⟩
   replace hs' : f.size = 16 := hs'
   have on : ∀ j, j < 16 → On f j := fun j hj => on_all hall hs' j hj
   obtain ⟨v, e4, _, ho⟩ := Q15 (on 15 (by decide))
   have HO := Lib.hid ho
   have HBX := Lib.hid (Lib.hid hBx)
   have HB3 := Lib.hid (HB2.out.step hBx)
   have HC3 := Lib.hid (HC2.out.step hBx)
   rw [e4]
   rename Nat → Value => gz
   clear P Q3 Q12 Q13 Q14 Q15 hBx hall hs' on hD e4 ho HX0 HX1 HCO
   have p0 : w5.cell? ⟨b1, 0, none⟩ = some (.int .i64 (K : Int)) := HC3.out.at 0 _ rfl
   have p1 : w5.cell? ⟨b1, 1, none⟩ = some (.slice ai n1 ci) := HC3.out.at 1 _ rfl
   have p2 : w5.cell? ⟨b1, 2, none⟩ = some (.slice ac n2 cc) := HC3.out.at 2 _ rfl
   obtain ⟨fl, hfl⟩ : ∃ fl : Nat → List UInt8, fl = fun i => H ++ (m.ids.take i).flatten := ⟨_, rfl⟩
   have hall : all32 m.ids := HA32.out.1
   have HFL0 := Lib.hid (show fl 0 = H by rw [hfl]; simp)
   have HFLS := Lib.hid (show ∀ i, i < n1 → fl (i + 1) = fl i ++ m.ids.getD i [] from fun i hi => by
    rw [hfl]
    simp only
    rw [List.take_add_one, List.getD_eq_getElem?_getD, List.getElem?_eq_getElem (by rw [← HN.out.1]; exact hi), List.flatten_append, List.append_assoc]
    simp)
   have HFLN := Lib.hid (show fl n1 = H ++ m.ids.flatten by rw [hfl, HN.out.1]; simp only; rw [List.take_of_length_le (Nat.le_refl _)])
   have HFLL := Lib.hid (show ∀ i, i ≤ n1 → (fl i).length ≤ 20 + 32 * i from fun i hi => by
    rw [hfl]
    simp only
    rw [List.length_append, flat_len _ (fun x hx => hall x (List.mem_of_mem_take hx)), List.length_take]
    have := HHL.out
    omega)
   clear hfl hall
   go_wp2_with fail
   go_loopw [4, 34] (fun v4 v34 wr => ∃ i : Nat, i ≤ n1 ∧ v34 = .int .i64 (i : Int) ∧ Hid (wr.ownsRow w2.heap.size 5 1 v4 (fl i).length ((fl i).map B)) ∧ Hid (Below w2.heap.size w2 wr)) (fun _ v34 _ => n1 - (intOf v34).toNat)
   case atStart => exact ⟨0, Nat.zero_le _, rfl, Lib.hid (by rw [HFL0.out]; exact HO.out), HBX.out⟩
   case round =>
    obtain ⟨i, hi, rfl, hO, hB⟩ := hrel
    by_cases hin : i < n1
    ·obtain ⟨b, fo, e1, f1⟩ := ((HI.out.below HB2.out).below hB.out).cells.resolve_left (by omega)
     obtain ⟨x, hx⟩ : ∃ x, x = m.ids.getD i [] := ⟨_, rfl⟩
     have hx32 : x.length = 32 := by rw [hx]; exact HI.out.at32 i hin
     have hrg := f1 i hin
     rw [← hx] at hrg
     have HX := Lib.hid hx
     rw [e1]
     clear f1 hx
     have hii : (i : Int) < (n1 : Int) := by omega
     have hi0 : 0 ≤ (i : Int) := by omega
     go_upto_region 6 with fail
     iterate 3 go_step
     rename_i K38 hK38
     refine hK38 _ _ ?_
     clear hK38 K38
     refine wpList_load_mid rfl 48 (.tmp 36) rfl b (fo + i * 32) rfl (Bs x) _ hrg under_ids rfl (info_x hx32) ?_
     simp only [Act.put, List.setIfInBounds_toArray, List.set_cons_zero, List.set_cons_succ]
     refine wpList_new_store rfl rfl 48 6 (.tmp 37) rfl rfl rfl rfl (Bs zero32) (Bs x) (by kernel_rfl) (by simp) rfl (by rw [Bs_length, Bs_length, zero32_length, hx32]) (info_x hx32) (Bs_one x) ?_
     intro w6 hc6 hb6
     obtain ⟨b6, hbb⟩ : ∃ b, b = wr.heap.size := ⟨_, rfl⟩
     rw [← hbb] at hc6 ⊢
     have hrd6 := hc6.rd (by omega)
     rw [hx32] at hrd6
     obtain ⟨i0, hi0', hz0, hz1, hz2⟩ := info_parts info_u8
     have hfl := HFLL.out i hi
     obtain ⟨v', w7, hrun, hown, hg⟩ := run_app (P := Tryz.prog) (ty := 28) Tryz.underlying28 hi0' hz0 hz1 hz2 rfl (ownsRow_below hO.out hb6) hrd6 (fun h => by cases h) (by omega) (Nat.le_trans hB.out.size hb6.size)
     have HRUN := Lib.hid hrun
     have HO' := Lib.hid (show w7.ownsRow w2.heap.size 5 1 v' (fl (i + 1)).length ((fl (i + 1)).map B) by
      rw [HFLS.out i hin, ← HX.out, List.length_append, List.map_append, hx32]
      exact hown)
     have HB' := Lib.hid (below_own (hB.out.step hb6) (ownsRow_below hO.out hb6) hg (Nat.le_trans hB.out.size hb6.size))
     have hsl := fun b w' => slice_id b w'
     clear hrun hown hg hrd6 hc6 hb6 hbb hfl hi0' hz0 hz1 hz2 hrg e1
     go_wp2_with (at_builtin; refine Lib.wpList_append_run _ rfl _ _ _ _ rfl _ _ rfl rfl _ _ HRUN.out ?_)
     refine ⟨⟨i + 1, by omega, by go_num, HO', HB'⟩, ?_⟩
     simp [intOf]; omega
    ·obtain rfl : n1 = i := by omega
     have HE := hO.out
     rw [HFLN.out] at HE
     have HE2 := Lib.hid HE
     have HBL := Lib.hid hB.out
     have HD := Lib.hid (HC2.out.step hB.out)
     have HFLN1 := Lib.hid (show (H ++ m.ids.flatten).length ≤ 600 by rw [← HFLN.out]; have := HFLL.out n1 (Nat.le_refl _); omega)
     have hnn : ¬ (n1 : Int) < (n1 : Int) := by omega
     clear p0 p1 p2 HE hO hB HFLL HFLS HFL0
     have p0 : wr.cell? ⟨b1, 0, none⟩ = some (.int .i64 (K : Int)) := HD.out.at 0 _ rfl
     have p1 : wr.cell? ⟨b1, 1, none⟩ = some (.slice ai n1 ci) := HD.out.at 1 _ rfl
     have p2 : wr.cell? ⟨b1, 2, none⟩ = some (.slice ac n2 cc) := HD.out.at 2 _ rfl
     obtain ⟨gl, hgl⟩ : ∃ gl : Nat → List UInt8, gl = fun i => (H ++ m.ids.flatten) ++ ((m.cms.take i).map oneC).flatten := ⟨_, rfl⟩
     have hoks := HOKS.out
     have HGL0 := Lib.hid (show gl 0 = H ++ m.ids.flatten by rw [hgl]; simp)
     have HGLS := Lib.hid (show ∀ i, i < n2 → gl (i + 1) = (gl i ++ hashL (putC (m.cms.getD i noC))) ++ txtL (putC (m.cms.getD i noC)) from fun i hi => by
      rw [hgl]
      simp only
      rw [List.take_add_one, List.getD_eq_getElem?_getD, List.getElem?_eq_getElem (by rw [← HN.out.2]; exact hi), List.map_append, List.flatten_append]
      simp [oneC, List.append_assoc])
     have HGLN := Lib.hid (show gl n2 = putM m by rw [hgl, HN.out.2]; simp only; rw [List.take_of_length_le (Nat.le_refl _), HPM.out, List.append_assoc])
     have HGLL := Lib.hid (show ∀ i, i ≤ n2 → (gl i).length ≤ 600 + 450 * i from fun i hi => by
      have h1 := flat_le ((m.cms.take i).map oneC) 450 (fun x hx => by
       obtain ⟨y, hy, rfl⟩ := List.mem_map.1 hx
       obtain ⟨g1, g2⟩ := hoks y (List.mem_of_mem_take hy)
       exact oneC_len g1 g2)
      rw [List.length_map, List.length_take] at h1
      have h2 := HFLN1.out
      have h3 : 450 * min i m.cms.length ≤ 450 * i := Nat.mul_le_mul (Nat.le_refl _) (Nat.min_le_left _ _)
      rw [hgl]
      simp only
      rw [List.length_append]
      omega)
     have HEL := Lib.hid (show ∀ i, i < n2 → mayC (m.cms.getD i noC) = true ∧ all32 (m.cms.getD i noC).par from fun i hi => by
      have hil : i < m.cms.length := by rw [← HN.out.2]; exact hi
      have e : m.cms.getD i noC = m.cms[i] := by rw [List.getD_eq_getElem?_getD, List.getElem?_eq_getElem hil]; rfl
      rw [e]
      exact hoks _ (List.getElem_mem hil))
     clear hgl hoks
     go_wp2_with fail
     go_loopw [4, 45] (fun v4 v45 wr => ∃ (i : Nat) (v : Value), i ≤ n2 ∧ v45 = .int .i64 (i : Int) ∧ v = v4 ∧ Hid (wr.ownsRow w2.heap.size 5 1 v (gl i).length ((gl i).map B)) ∧ Hid (Below w2.heap.size w2 wr)) (fun _ v45 _ => n2 - (intOf v45).toNat)
     case atStart => exact ⟨0, _, Nat.zero_le _, rfl, rfl, Lib.hid (by rw [HGL0.out]; exact HE2.out), HBL⟩
     case round =>
      obtain ⟨i, v4, hi, rfl, rfl, hO, hB⟩ := hrel
      by_cases hin : i < n2
      ·obtain ⟨b, off, rfl, hcc⟩ := ((HC.out.below HB2.out).below hB.out).cells.resolve_left (by omega)
       obtain ⟨pa, pc, hrg2, hcm⟩ := hcc i hin
       obtain ⟨hmx, h32x⟩ := HEL.out i hin
       have hgs := HGLS.out i hin
       obtain ⟨x, hx⟩ : ∃ x, x = m.cms.getD i noC := ⟨_, rfl⟩
       rw [← hx] at hrg2 hcm hmx h32x hgs
       have HCM := Lib.hid hcm
       have HGS := Lib.hid hgs
       have hii : (i : Int) < (n2 : Int) := by omega
       have hi0 : 0 ≤ (i : Int) := by omega
       have HHA := Lib.hid (fun w' (h : CmR w' x pa pc) => show Calls Tryz.prog 19 #[x.val pa pc] w' (fun e w'' => e = .returned (.tuple #[.agg (Bs (hashL (putC x))).toArray, .int .i64 0]) ∧ Below w'.heap.size w' w'') by
        refine (chash_any x pa pc w' h h32x).mono fun e w'' hp => ?_
        unfold CHashP at hp
        rw [if_pos hmx] at hp
        exact hp)
       have HPU := Lib.hid (fun w' (h : CmR w' x pa pc) => show Calls Tryz.prog 20 #[x.val pa pc] w' (fun e w'' => ∃ v, e = .returned (.tuple #[v, .int .i64 0]) ∧ w''.ownsRow w'.heap.size 5 1 v (putC x).length ((putC x).map B) ∧ Below w'.heap.size w' w'') by
        refine (cput_own x pa pc w' h).mono fun e w'' hp => ?_
        unfold CPutO at hp
        rw [if_pos hmx] at hp
        exact hp)
       obtain ⟨X, hX⟩ : ∃ X, X = putC x := ⟨_, rfl⟩
       obtain ⟨HS, hHS⟩ : ∃ X, X = hashL (putC x) := ⟨_, rfl⟩
       have hhs32 : HS.length = 32 := by rw [hHS]; exact hashL_length _
       have hXl : X.length ≤ 400 := by rw [hX]; exact putC_len hmx h32x
       rw [← hHS] at HHA HGS
       rw [← hX] at HPU HGS
       have HTX := Lib.hid (fun w' => (text_any ⟨X.toArray⟩ w' (by simp only [ByteArray.size, List.size_toArray]; omega)))
       rw [show txtL (⟨X.toArray⟩ : ByteArray).data.toList = txtL X from rfl] at HTX
       have hTl : (txtL X).length ≤ 410 := by
        unfold txtL
        rw [List.length_append]
        have := numL_le10 X.length (by omega)
        omega
       obtain ⟨TX, hTX⟩ : ∃ T, T = txtL X := ⟨_, rfl⟩
       rw [← hTX] at HTX hTl HGS
       have q0 : wr.cell? ⟨b, off + i * 8, none⟩ = some (.int .i64 x.node) := hrg2 0 _ rfl
       have q1 : wr.cell? ⟨b, off + i * 8 + 1, none⟩ = some (.int .i64 x.seq) := hrg2 1 _ rfl
       have q2 : wr.cell? ⟨b, off + i * 8 + 2, none⟩ = some (.int .i64 x.gen) := hrg2 2 _ rfl
       have q3 : wr.cell? ⟨b, off + i * 8 + 3, none⟩ = some (.slice pa x.par.length pc) := hrg2 3 _ rfl
       have q4 : wr.cell? ⟨b, off + i * 8 + 4, none⟩ = some (.int .i64 x.op.kind) := hrg2 4 _ rfl
       have q5 : wr.cell? ⟨b, off + i * 8 + 5, none⟩ = some (.string ⟨x.op.key.toArray⟩) := hrg2 5 _ rfl
       have q6 : wr.cell? ⟨b, off + i * 8 + 6, none⟩ = some (.string ⟨x.op.elem.toArray⟩) := hrg2 6 _ rfl
       have q7 : wr.cell? ⟨b, off + i * 8 + 7, none⟩ = some (.int .i64 x.op.num) := hrg2 7 _ rfl
       unfold Cmt.val Cmt.cs at HHA HPU
       clear hcc hx hcm hgs hmx h32x hHS hX hTX hrg2
       generalize hg_xnode : x.node = node_x at HHA HPU q0 q1 q2 q3 q4 q5 q6 q7
       generalize hg_xseq : x.seq = seq_x at HHA HPU q0 q1 q2 q3 q4 q5 q6 q7
       generalize hg_xgen : x.gen = gen_x at HHA HPU q0 q1 q2 q3 q4 q5 q6 q7
       generalize hg_xnp : x.par.length = np_x at HHA HPU q0 q1 q2 q3 q4 q5 q6 q7
       generalize hg_xkd : x.op.kind = kd_x at HHA HPU q0 q1 q2 q3 q4 q5 q6 q7
       generalize hg_xs1 : (⟨x.op.key.toArray⟩ : ByteArray) = s1_x at HHA HPU q0 q1 q2 q3 q4 q5 q6 q7
       generalize hg_xs2 : (⟨x.op.elem.toArray⟩ : ByteArray) = s2_x at HHA HPU q0 q1 q2 q3 q4 q5 q6 q7
       generalize hg_xnum : x.op.num = num_x at HHA HPU q0 q1 q2 q3 q4 q5 q6 q7
       clear hg_xnode hg_xseq hg_xgen hg_xnp hg_xkd hg_xs1 hg_xs2 hg_xnum
       go_upto_region 12 with fail
       generalize hw3 : wr.alloc (.cells _ _) = w3
       have b03 : Below wr.heap.size wr w3 := by rw [← hw3]; exact (Below.refl _ _).alloc (Nat.le_refl _) _
       obtain ⟨b8, hb8⟩ : ∃ b, b = wr.heap.size := ⟨_, rfl⟩
       have c3 : Cel w3 b8 41 [.int .i64 node_x, .int .i64 seq_x, .int .i64 gen_x, .slice pa np_x pc, .int .i64 kd_x, .string s1_x, .string s2_x, .int .i64 num_x] := by rw [← hw3, hb8]; exact Cel.new wr _ _
       rw [← hb8]
       have HX3 := Lib.hid c3
       have HB3 := Lib.hid (hB.out.step b03)
       have HO3 := Lib.hid (ownsRow_below hO.out b03)
       have HM3 := Lib.hid (HCM.out.below b03)
       clear hw3 b03 hb8 c3 hO hB q0 q1 q2 q3 q4 q5 q6 q7
       have p0 : w3.cell? ⟨b8, 0, none⟩ = some (.int .i64 node_x) := HX3.out.at 0 _ rfl
       have p1 : w3.cell? ⟨b8, 1, none⟩ = some (.int .i64 seq_x) := HX3.out.at 1 _ rfl
       have p2 : w3.cell? ⟨b8, 2, none⟩ = some (.int .i64 gen_x) := HX3.out.at 2 _ rfl
       have p3 : w3.cell? ⟨b8, 3, none⟩ = some (.slice pa np_x pc) := HX3.out.at 3 _ rfl
       have p4 : w3.cell? ⟨b8, 4, none⟩ = some (.int .i64 kd_x) := HX3.out.at 4 _ rfl
       have p5 : w3.cell? ⟨b8, 5, none⟩ = some (.string s1_x) := HX3.out.at 5 _ rfl
       have p6 : w3.cell? ⟨b8, 6, none⟩ = some (.string s2_x) := HX3.out.at 6 _ rfl
       have p7 : w3.cell? ⟨b8, 7, none⟩ = some (.int .i64 num_x) := HX3.out.at 7 _ rfl
       go_wp2_with fail
       refine (HHA.out _ HM3.out).mono ?_
       rintro e w4 ⟨rfl, hb⟩
       rename_i K9 hK9
       refine hK9 _ _ ?_
       clear hK9 K9
       iterate 8 go_step
       rename_i K9 hK9
       refine hK9 _ _ ?_
       clear hK9 K9
       refine wpList_new_store rfl rfl 48 9 (.tmp 52) rfl rfl rfl rfl (Bs zero32) (Bs HS) (by kernel_rfl) (by simp) rfl (by rw [Bs_length, Bs_length, zero32_length, hhs32]) (info_x hhs32) (Bs_one HS) ?_
       intro w5 hd hb2
       obtain ⟨b9, hbb⟩ : ∃ b, b = w4.heap.size := ⟨_, rfl⟩
       rw [← hbb] at hd ⊢
       have HH5 := Lib.hid hd
       have HX5 := Lib.hid ((HX3.out.step hb).step hb2)
       have HB5 := Lib.hid ((HB3.out.step hb).step hb2)
       have HO5 := Lib.hid (ownsRow_below (ownsRow_below HO3.out hb) hb2)
       have HM5 := Lib.hid ((HM3.out.below hb).below hb2)
       clear hb hb2 hd hbb HX3 HB3 HO3 HM3 p0 p1 p2 p3 p4 p5 p6 p7
       have p0 : w5.cell? ⟨b8, 0, none⟩ = some (.int .i64 node_x) := HX5.out.at 0 _ rfl
       have p1 : w5.cell? ⟨b8, 1, none⟩ = some (.int .i64 seq_x) := HX5.out.at 1 _ rfl
       have p2 : w5.cell? ⟨b8, 2, none⟩ = some (.int .i64 gen_x) := HX5.out.at 2 _ rfl
       have p3 : w5.cell? ⟨b8, 3, none⟩ = some (.slice pa np_x pc) := HX5.out.at 3 _ rfl
       have p4 : w5.cell? ⟨b8, 4, none⟩ = some (.int .i64 kd_x) := HX5.out.at 4 _ rfl
       have p5 : w5.cell? ⟨b8, 5, none⟩ = some (.string s1_x) := HX5.out.at 5 _ rfl
       have p6 : w5.cell? ⟨b8, 6, none⟩ = some (.string s2_x) := HX5.out.at 6 _ rfl
       have p7 : w5.cell? ⟨b8, 7, none⟩ = some (.int .i64 num_x) := HX5.out.at 7 _ rfl
       go_wp2_with fail
       refine (HPU.out _ HM5.out).mono ?_
       rintro e w6 ⟨vx, rfl, hox, hb⟩
       have hvx := fun a n c (h : vx = .slice a n c) => own_none (h ▸ hox)
       have hxlo := fun k hk => (hox.lt k hk).1
       obtain ⟨a6, c6, rfl, hr6⟩ := Rd.of_own hox
       have HR6 := Lib.hid (And.intro hr6 (And.intro (show ∀ y, a6 = some y → w5.heap.size ≤ y.block from fun y hy => hxlo y.block (by rw [hy]; rfl)) hXl))
       have HVL := Lib.hid (show ∀ k, v4.ownBlock = some k → k < w5.heap.size from fun k hk => (HO5.out.lt k hk).2)
       have HH6 := Lib.hid (HH5.out.step hb)
       have HB6 := Lib.hid (HB5.out.step hb)
       have HO6 := Lib.hid (ownsRow_below HO5.out hb)
       have HZ6 := Lib.hid (show w5.heap.size ≤ w6.heap.size from hb.size)
       obtain ⟨sx, hsx⟩ : ∃ s : ByteArray, s = ⟨X.toArray⟩ := ⟨_, rfl⟩
       have HSX := Lib.hid hsx
       rw [← hsx] at HTX
       obtain ⟨lx, hlx⟩ : ∃ l, l = X.length := ⟨_, rfl⟩
       rw [← hlx] at HR6 ⊢
       obtain ⟨lt, hlt⟩ : ∃ l, l = TX.length := ⟨_, rfl⟩
       have HLT := Lib.hid (And.intro hlt hTl)
       obtain ⟨L0, hL0⟩ : ∃ L, L = gl i := ⟨_, rfl⟩
       have hgl := HGLL.out i hi
       rw [← hL0] at HO6 HGS hgl
       have HL0 := Lib.hid (show L0.length ≤ 4000 by omega)
       have hsl := fun w' => slice_id b9 w'
       clear hb hox hvx hxlo hr6 hsx hlx hlt hL0 hgl HH5 HX5 HB5 HO5 HM5 p0 p1 p2 p3 p4 p5 p6 p7 hTl hXl
       go_upto_region 14 with fail
       have hD : ∀ j, j < 8 → ∀ n, n < 8 → j ≠ n → dkN [59, 60, 61, 62, 63, 64, 65, 4] j ≠ dkN [59, 60, 61, 62, 63, 64, 65, 4] n := by decide +kernel
       refine region_fun (by kernel_rfl) (by kernel_rfl) (fun gv => #[Value.agg #[Value.int IntKind.i64 (K : Int), Value.slice ai n1 ci, Value.slice (some ⟨b, off, none⟩) n2 cc], Value.pointer (some ⟨b1, 0, none⟩), Value.slice none 0 0, Value.int IntKind.i64 0, gv 4, gz 5, u6, gz 7, Value.pointer (some ⟨b8, 0, none⟩), Value.pointer (some ⟨b9, 0, none⟩), Value.int IntKind.i64 0, Value.slice a6 lx c6, Value.int IntKind.i64 0, gz 13, gz 14, gz 15, gz 16, gz 17, gz 18, gz 19, gz 20, gz 21, gz 22, gz 23, gz 24, gz 25, gz 26, gz 27, gz 28, gz 29, gz 30, Value.pointer (some ⟨b1, 1, none⟩), Value.slice ai n1 ci, Value.int IntKind.i64 (n1 : Int), Value.int IntKind.i64 (n1 : Int), Value.bool false, u36, u37, u38, u39, u40, u41, Value.pointer (some ⟨b1, 2, none⟩), Value.slice (some ⟨b, off, none⟩) n2 cc, Value.int IntKind.i64 (n2 : Int), Value.int IntKind.i64 (i : Int), Value.bool true, Value.pointer (some ⟨b, off + i * 8, none⟩), Value.agg #[Value.int IntKind.i64 node_x, Value.int IntKind.i64 seq_x, Value.int IntKind.i64 gen_x, Value.slice pa np_x pc, Value.int IntKind.i64 kd_x, Value.string s1_x, Value.string s2_x, Value.int IntKind.i64 num_x], Value.tuple #[Value.agg (Bs HS).toArray, Value.int IntKind.i64 0], Value.agg #[Value.int IntKind.i64 node_x, Value.int IntKind.i64 seq_x, Value.int IntKind.i64 gen_x, Value.slice pa np_x pc, Value.int IntKind.i64 kd_x, Value.string s1_x, Value.string s2_x, Value.int IntKind.i64 num_x], Value.tuple #[Value.agg (Bs HS).toArray, Value.int IntKind.i64 0], Value.agg (Bs HS).toArray, Value.int IntKind.i64 0, Value.tuple #[Value.slice a6 lx c6, Value.int IntKind.i64 0], Value.agg #[Value.int IntKind.i64 node_x, Value.int IntKind.i64 seq_x, Value.int IntKind.i64 gen_x, Value.slice pa np_x pc, Value.int IntKind.i64 kd_x, Value.string s1_x, Value.string s2_x, Value.int IntKind.i64 num_x], Value.tuple #[Value.slice a6 lx c6, Value.int IntKind.i64 0], Value.slice a6 lx c6, Value.int IntKind.i64 0, gv 59, gv 60, gv 61, gv 62, gv 63, gv 64, gv 65, gv 66, gz 67]) rfl (fun f gv wx => Below w2.heap.size w2 wx ∧ (∀ j, j < 8 → (fun j => Nat.beq j 2 || Nat.beq j 5 || Nat.beq j 6 || Nat.beq j 7) j = false → On f j → gv (dkN [59, 60, 61, 62, 63, 64, 65, 4] j) = vkN [v4, .slice (some ⟨b9, 0, none⟩) 32 32, undef, .slice a6 lx c6, .string sx, undef, undef, undef] j) ∧ ((On f 2 → ∃ v, gv 61 = v ∧ (On f 6 ∨ wx.ownsRow w2.heap.size 5 1 v (L0 ++ HS).length ((L0 ++ HS).map B)))) ∧ ((On f 5 → ∃ a c, gv 64 = .slice a lt c ∧ (On f 6 ∨ (Rd wx a lt c TX ∧ (a = none → c = 0) ∧ ∀ y, a = some y → w5.heap.size ≤ y.block)))) ∧ ((On f 6 → ∃ v, gv 65 = v ∧ wx.ownsRow w2.heap.size 5 1 v ((L0 ++ HS) ++ TX).length (((L0 ++ HS) ++ TX).map B))) ∧ ((On f 7 → ∃ v, gv 4 = v ∧ wx.ownsRow w2.heap.size 5 1 v ((L0 ++ HS) ++ TX).length (((L0 ++ HS) ++ TX).map B))) ∧ ((¬ On f 2 → Cel wx b9 48 (Bs HS))) ∧ ((¬ On f 2 → wx.ownsRow w2.heap.size 5 1 v4 (L0).length ((L0).map B))) ∧ ((On f 4 ∨ Rd wx a6 lx c6 X)) ∧ ((On f 6 → On f 2 ∧ On f 4)) ∧ ((On f 5 → On f 4)) ∧ ((On f 2 → On f 0)) ∧ ((On f 7 → On f 6)) ∧ ((¬ On f 7 → gv 4 = v4)) ∧ ((On f 7 → On f 0)) ∧ (w6.heap.size ≤ wx.heap.size)) ?_ ?_ ?_
       ·have hoff : ∀ j, ¬ On (Array.replicate 8 false) j := by
         intro j hj; simp only [On, Array.getD_eq_getD_getElem?, Array.getElem?_replicate] at hj; split at hj <;> simp at hj
        exact ⟨HB6.out.drew, fun j _ _ x => absurd x (hoff _), fun x => absurd x (hoff _), fun x => absurd x (hoff _), fun x => absurd x (hoff _), fun x => absurd x (hoff _), fun _ => HH6.out, fun _ => HO6.out, .inr (HR6.out.1.below (Below.refl _ _).drew), fun x => absurd x (hoff _), fun x => absurd x (hoff _), fun x => absurd x (hoff _), fun x => absurd x (hoff _), fun _ => rfl, fun x => absurd x (hoff _), Nat.le_refl _⟩
       ·rintro i' o' f gv wm hio hs' hn he ⟨hBx, P, Q2, Q5, Q6, Q7, QH, QO, QX, D6, D5, D2, D7, G4, D0, SZ⟩ KK hKK
        have hi' : i' < 8 := (Array.getElem?_eq_some_iff.1 hio).1
        replace hs' : f.size = 8 := hs'
        match i', hi' with
        | 0, _ =>
         cases hio
         have off : ¬ On f 0 := on_off (by omega) hn
         have e4 : gv 4 = v4 := G4 (fun y => off (D0 y))
         rw [e4]
         have HQ := Lib.hid (And.intro P (And.intro Q2 (And.intro Q5 (And.intro Q6 (And.intro Q7 (And.intro QH (And.intro QO (And.intro QX (And.intro D6 (And.intro D5 (And.intro D2 (And.intro D7 (And.intro G4 (And.intro D0 SZ))))))))))))))
         clear P Q2 Q5 Q6 Q7 QH QO QX D6 D5 D2 D7 G4 D0 SZ
         go_simp
         obtain ⟨P, Q2, Q5, Q6, Q7, QH, QO, QX, D6, D5, D2, D7, G4, D0, SZ⟩ := HQ.out
         obtain ⟨bk, fw, fn⟩ := on3 (f := f) (i := 0) (by omega)
         exact hKK (upd (upd gv 4 (v4)) 59 (v4)) _ (by rw [upd_same e4]; exact ⟨hBx, vals_step (n := 0) (v := v4) hD (by decide) (by omega) P (fun _ => rfl), fun x => by obtain ⟨v2, e9, ho2⟩ := Q2 (bk 2 (by decide) x); exact ⟨_, e9, ho2.imp (fw 6) id⟩, fun x => by obtain ⟨a5, c5, e9, h5o⟩ := Q5 (bk 5 (by decide) x); exact ⟨_, _, e9, h5o.imp (fw 6) id⟩, fun x => Q6 (bk 6 (by decide) x), fun x => Q7 (bk 7 (by decide) x), fun x => QH (fun y => x (fw 2 y)), fun x => QO (fun y => x (fw 2 y)), QX.imp (fw 4) id, fun x => (D6 (bk 6 (by decide) x)).imp (fw 2) (fw 4), fun x => fw 4 (D5 (bk 5 (by decide) x)), fun x => fw 0 (D2 (bk 2 (by decide) x)), fun x => fw 6 (D7 (bk 7 (by decide) x)), fun x => G4 (fun y => x (fw 7 y)), fun x => fw 0 (D0 (bk 7 (by decide) x)), SZ⟩)
        | 1, _ =>
         cases hio
         have off : ¬ On f 1 := on_off (by omega) hn
         have HQ := Lib.hid (And.intro P (And.intro Q2 (And.intro Q5 (And.intro Q6 (And.intro Q7 (And.intro QH (And.intro QO (And.intro QX (And.intro D6 (And.intro D5 (And.intro D2 (And.intro D7 (And.intro G4 (And.intro D0 SZ))))))))))))))
         clear P Q2 Q5 Q6 Q7 QH QO QX D6 D5 D2 D7 G4 D0 SZ
         go_simp
         obtain ⟨P, Q2, Q5, Q6, Q7, QH, QO, QX, D6, D5, D2, D7, G4, D0, SZ⟩ := HQ.out
         obtain ⟨bk, fw, fn⟩ := on3 (f := f) (i := 1) (by omega)
         exact hKK (upd gv 60 (.slice (some ⟨b9, 0, none⟩) 32 32)) _ (by exact ⟨hBx, vals_step (n := 1) (v := .slice (some ⟨b9, 0, none⟩) 32 32) hD (by decide) (by omega) P (fun _ => rfl), fun x => by obtain ⟨v2, e9, ho2⟩ := Q2 (bk 2 (by decide) x); exact ⟨_, e9, ho2.imp (fw 6) id⟩, fun x => by obtain ⟨a5, c5, e9, h5o⟩ := Q5 (bk 5 (by decide) x); exact ⟨_, _, e9, h5o.imp (fw 6) id⟩, fun x => Q6 (bk 6 (by decide) x), fun x => Q7 (bk 7 (by decide) x), fun x => QH (fun y => x (fw 2 y)), fun x => QO (fun y => x (fw 2 y)), QX.imp (fw 4) id, fun x => (D6 (bk 6 (by decide) x)).imp (fw 2) (fw 4), fun x => fw 4 (D5 (bk 5 (by decide) x)), fun x => fw 0 (D2 (bk 2 (by decide) x)), fun x => fw 6 (D7 (bk 7 (by decide) x)), fun x => G4 (fun y => x (fw 7 y)), fun x => fw 0 (D0 (bk 7 (by decide) x)), SZ⟩)
        | 2, _ =>
         cases hio
         have off : ¬ On f 2 := on_off (by omega) hn
         have h0 : On f 0 := he ⟨0, .data⟩ (by simp) rfl
         have e0 : gv 59 = v4 := P 0 (by decide) rfl h0
         have h1 : On f 1 := he ⟨1, .data⟩ (by simp) rfl
         have e1 : gv 60 = .slice (some ⟨b9, 0, none⟩) 32 32 := P 1 (by decide) rfl h1
         have hsz := Nat.le_trans HZ6.out SZ
         have hO2 := QO off
         have hH2 := QH off
         have hrd2 := hH2.rd (by rw [hhs32]; omega)
         rw [hhs32] at hrd2
         obtain ⟨i0, hi0z, hz0, hz1, hz2⟩ := info_parts info_u8
         obtain ⟨v2, w6_, hrun, hown, hg⟩ := run_app (P := Tryz.prog) (ty := 28) Tryz.underlying28 hi0z hz0 hz1 hz2 rfl hO2 hrd2 (fun h => by cases h) (by have := HL0.out; omega) hBx.size
         have hown2 : w6_.ownsRow w2.heap.size 5 1 v2 (L0 ++ HS).length ((L0 ++ HS).map B) := by rw [List.length_append, List.map_append, hhs32]; exact hown
         rw [e0, e1]
         have HQ := Lib.hid (And.intro P (And.intro Q2 (And.intro Q5 (And.intro Q6 (And.intro Q7 (And.intro QH (And.intro QO (And.intro QX (And.intro D6 (And.intro D5 (And.intro D2 (And.intro D7 (And.intro G4 (And.intro D0 SZ))))))))))))))
         clear P Q2 Q5 Q6 Q7 QH QO QX D6 D5 D2 D7 G4 D0 SZ
         refine app_run_at (by rfl) (.tmp 59) (.tmp 60) 28 rfl (by rfl) (by rfl) hrun ?_
         simp only [Act.put, List.setIfInBounds_toArray]
         obtain ⟨P, Q2, Q5, Q6, Q7, QH, QO, QX, D6, D5, D2, D7, G4, D0, SZ⟩ := HQ.out
         obtain ⟨bk, fw, fn⟩ := on3 (f := f) (i := 2) (by omega)
         exact hKK (upd (upd (upd gv 59 (v4)) 60 (.slice (some ⟨b9, 0, none⟩) 32 32)) 61 (v2)) _ (by rw [upd_same e0]; rw [upd_same e1]; exact ⟨below_own hBx hO2 hg hBx.size, vals_step (n := 2) (v := v2) hD (by decide) (by omega) P (fun h => nomatch (show true = false from h)), fun _ => ⟨v2, rfl, .inr hown2⟩, fun x => by obtain ⟨a5, c5, e9, h5o⟩ := Q5 (bk 5 (by decide) x); exact ⟨_, _, e9, h5o.imp (fw 6) (fun h => ⟨h.1.grownb hg (fun k hk y hy => by have h1 := HVL.out k hk; have h2 := h.2.2 y hy; omega), h.2⟩)⟩, fun x => absurd (D6 (bk 6 (by decide) x)).1 off, fun x => absurd (D6 (D7 (bk 7 (by decide) x))).1 off, fun x => absurd fn x, fun x => absurd fn x, QX.imp (fw 4) (fun h => h.grownb hg (fun k hk y hy => by have h1 := HVL.out k hk; have h2 := HR6.out.2.1 y hy; omega)), fun x => (D6 (bk 6 (by decide) x)).imp (fw 2) (fw 4), fun x => fw 4 (D5 (bk 5 (by decide) x)), fun _ => fw 0 h0, fun x => fw 6 (D7 (bk 7 (by decide) x)), fun x => G4 (fun y => x (fw 7 y)), fun x => fw 0 (D0 (bk 7 (by decide) x)), Nat.le_trans SZ hg.size⟩)
        | 3, _ =>
         cases hio
         have off : ¬ On f 3 := on_off (by omega) hn
         have HQ := Lib.hid (And.intro P (And.intro Q2 (And.intro Q5 (And.intro Q6 (And.intro Q7 (And.intro QH (And.intro QO (And.intro QX (And.intro D6 (And.intro D5 (And.intro D2 (And.intro D7 (And.intro G4 (And.intro D0 SZ))))))))))))))
         clear P Q2 Q5 Q6 Q7 QH QO QX D6 D5 D2 D7 G4 D0 SZ
         go_simp
         obtain ⟨P, Q2, Q5, Q6, Q7, QH, QO, QX, D6, D5, D2, D7, G4, D0, SZ⟩ := HQ.out
         obtain ⟨bk, fw, fn⟩ := on3 (f := f) (i := 3) (by omega)
         exact hKK (upd gv 62 (.slice a6 lx c6)) _ (by exact ⟨hBx, vals_step (n := 3) (v := .slice a6 lx c6) hD (by decide) (by omega) P (fun _ => rfl), fun x => by obtain ⟨v2, e9, ho2⟩ := Q2 (bk 2 (by decide) x); exact ⟨_, e9, ho2.imp (fw 6) id⟩, fun x => by obtain ⟨a5, c5, e9, h5o⟩ := Q5 (bk 5 (by decide) x); exact ⟨_, _, e9, h5o.imp (fw 6) id⟩, fun x => Q6 (bk 6 (by decide) x), fun x => Q7 (bk 7 (by decide) x), fun x => QH (fun y => x (fw 2 y)), fun x => QO (fun y => x (fw 2 y)), QX.imp (fw 4) id, fun x => (D6 (bk 6 (by decide) x)).imp (fw 2) (fw 4), fun x => fw 4 (D5 (bk 5 (by decide) x)), fun x => fw 0 (D2 (bk 2 (by decide) x)), fun x => fw 6 (D7 (bk 7 (by decide) x)), fun x => G4 (fun y => x (fw 7 y)), fun x => fw 0 (D0 (bk 7 (by decide) x)), SZ⟩)
        | 4, _ =>
         cases hio
         have off : ¬ On f 4 := on_off (by omega) hn
         have h3 : On f 3 := he ⟨3, .data⟩ (by simp) rfl
         have e3 : gv 62 = .slice a6 lx c6 := P 3 (by decide) rfl h3
         have d00 := QX.resolve_left off
         have d0 : (convert 28 9 (.slice a6 lx c6)).run Tryz.prog wm = .ok (.string sx) wm := by rw [HSX.out]; exact d00.str (P := Tryz.prog) 28 5 9 Tryz.underlying28 Tryz.underlying5 Tryz.underlying9
         rw [e3]
         have HQ := Lib.hid (And.intro P (And.intro Q2 (And.intro Q5 (And.intro Q6 (And.intro Q7 (And.intro QH (And.intro QO (And.intro QX (And.intro D6 (And.intro D5 (And.intro D2 (And.intro D7 (And.intro G4 (And.intro D0 SZ))))))))))))))
         clear P Q2 Q5 Q6 Q7 QH QO QX D6 D5 D2 D7 G4 D0 SZ
         go_simp
         obtain ⟨P, Q2, Q5, Q6, Q7, QH, QO, QX, D6, D5, D2, D7, G4, D0, SZ⟩ := HQ.out
         obtain ⟨bk, fw, fn⟩ := on3 (f := f) (i := 4) (by omega)
         exact hKK (upd (upd gv 62 (.slice a6 lx c6)) 63 (.string sx)) _ (by rw [upd_same e3]; exact ⟨hBx, vals_step (n := 4) (v := .string sx) hD (by decide) (by omega) P (fun _ => rfl), fun x => by obtain ⟨v2, e9, ho2⟩ := Q2 (bk 2 (by decide) x); exact ⟨_, e9, ho2.imp (fw 6) id⟩, fun x => by obtain ⟨a5, c5, e9, h5o⟩ := Q5 (bk 5 (by decide) x); exact ⟨_, _, e9, h5o.imp (fw 6) id⟩, fun x => Q6 (bk 6 (by decide) x), fun x => Q7 (bk 7 (by decide) x), fun x => QH (fun y => x (fw 2 y)), fun x => QO (fun y => x (fw 2 y)), .inl fn, fun x => (D6 (bk 6 (by decide) x)).imp (fw 2) (fw 4), fun x => fw 4 (D5 (bk 5 (by decide) x)), fun x => fw 0 (D2 (bk 2 (by decide) x)), fun x => fw 6 (D7 (bk 7 (by decide) x)), fun x => G4 (fun y => x (fw 7 y)), fun x => fw 0 (D0 (bk 7 (by decide) x)), SZ⟩)
        | 5, _ =>
         cases hio
         have off : ¬ On f 5 := on_off (by omega) hn
         have h4 : On f 4 := he ⟨4, .data⟩ (by simp) rfl
         have e4 : gv 63 = .string sx := P 4 (by decide) rfl h4
         have hsz := Nat.le_trans HZ6.out SZ
         rw [e4]
         have HQ := Lib.hid (And.intro P (And.intro Q2 (And.intro Q5 (And.intro Q6 (And.intro Q7 (And.intro QH (And.intro QO (And.intro QX (And.intro D6 (And.intro D5 (And.intro D2 (And.intro D7 (And.intro G4 (And.intro D0 SZ))))))))))))))
         clear P Q2 Q5 Q6 Q7 QH QO QX D6 D5 D2 D7 G4 D0 SZ
         go_simp
         refine (HTX.out _).mono ?_
         rintro e w6_ ⟨v5, rfl, ho5, hb⟩
         have hz5 := fun a n c (h : v5 = .slice a n c) => own_none (h ▸ ho5)
         have hlo5 := fun k hk => (ho5.lt k hk).1
         obtain ⟨a5, c5, rfl, hr5⟩ := Rd.of_own ho5
         rw [← HLT.out.1] at hr5 ⊢
         have hz5 := hz5 a5 _ c5 rfl
         have hf5 : ∀ y, a5 = some y → w5.heap.size ≤ y.block := fun y hy => Nat.le_trans hsz (hlo5 y.block (by rw [hy]; rfl))
         obtain ⟨P, Q2, Q5, Q6, Q7, QH, QO, QX, D6, D5, D2, D7, G4, D0, SZ⟩ := HQ.out
         obtain ⟨bk, fw, fn⟩ := on3 (f := f) (i := 5) (by omega)
         exact hKK (upd (upd gv 63 (.string sx)) 64 (.slice a5 lt c5)) _ (by rw [upd_same e4]; exact ⟨hBx.step hb, vals_step (n := 5) (v := .slice a5 lt c5) hD (by decide) (by omega) P (fun h => nomatch (show true = false from h)), fun x => by obtain ⟨v2, e9, ho2⟩ := Q2 (bk 2 (by decide) x); exact ⟨_, e9, ho2.imp (fw 6) (fun h => ownsRow_below h hb)⟩, fun _ => ⟨a5, c5, rfl, .inr ⟨hr5, hz5, hf5⟩⟩, fun x => by obtain ⟨v6, e9, ho6⟩ := Q6 (bk 6 (by decide) x); exact ⟨_, e9, ownsRow_below ho6 hb⟩, fun x => by obtain ⟨v7, e9, ho7⟩ := Q7 (bk 7 (by decide) x); exact ⟨_, e9, ownsRow_below ho7 hb⟩, fun x => (QH (fun y => x (fw 2 y))).step hb, fun x => ownsRow_below (QO (fun y => x (fw 2 y))) hb, QX.imp (fw 4) (fun h => h.below hb), fun x => (D6 (bk 6 (by decide) x)).imp (fw 2) (fw 4), fun _ => fw 4 h4, fun x => fw 0 (D2 (bk 2 (by decide) x)), fun x => fw 6 (D7 (bk 7 (by decide) x)), fun x => G4 (fun y => x (fw 7 y)), fun x => fw 0 (D0 (bk 7 (by decide) x)), Nat.le_trans SZ hb.size⟩)
        | 6, _ =>
         cases hio
         have off : ¬ On f 6 := on_off (by omega) hn
         have h2 : On f 2 := he ⟨2, .data⟩ (by simp) rfl
         obtain ⟨v2, e2, ho2⟩ := Q2 h2
         have h5 : On f 5 := he ⟨5, .data⟩ (by simp) rfl
         obtain ⟨a5, c5, e5, h5o⟩ := Q5 h5
         have hsz := Nat.le_trans HZ6.out SZ
         have hO6 := ho2.resolve_left off
         obtain ⟨hr5, hz5, hf5⟩ := h5o.resolve_left off
         obtain ⟨i0, hi0z, hz0, hz1, hz2⟩ := info_parts info_u8
         obtain ⟨v6, w6_, hrun, hown, hg⟩ := run_app (P := Tryz.prog) (ty := 28) Tryz.underlying28 hi0z hz0 hz1 hz2 rfl hO6 hr5 hz5 (by have := HL0.out; have := HLT.out; rw [List.length_append, hhs32]; omega) hBx.size
         have hown6 : w6_.ownsRow w2.heap.size 5 1 v6 ((L0 ++ HS) ++ TX).length (((L0 ++ HS) ++ TX).map B) := by rw [@List.length_append _ (L0 ++ HS) TX, @List.map_append _ _ _ (L0 ++ HS) TX, ← HLT.out.1]; exact hown
         rw [e2, e5]
         have HQ := Lib.hid (And.intro P (And.intro Q2 (And.intro Q5 (And.intro Q6 (And.intro Q7 (And.intro QH (And.intro QO (And.intro QX (And.intro D6 (And.intro D5 (And.intro D2 (And.intro D7 (And.intro G4 (And.intro D0 SZ))))))))))))))
         clear P Q2 Q5 Q6 Q7 QH QO QX D6 D5 D2 D7 G4 D0 SZ
         refine app_run_at (by rfl) (.tmp 61) (.tmp 64) 28 rfl (by rfl) (by rfl) hrun ?_
         simp only [Act.put, List.setIfInBounds_toArray]
         obtain ⟨P, Q2, Q5, Q6, Q7, QH, QO, QX, D6, D5, D2, D7, G4, D0, SZ⟩ := HQ.out
         obtain ⟨bk, fw, fn⟩ := on3 (f := f) (i := 6) (by omega)
         exact hKK (upd (upd (upd gv 61 (v2)) 64 (.slice a5 lt c5)) 65 (v6)) _ (by rw [upd_same e2]; rw [upd_same e5]; exact ⟨below_own hBx hO6 hg hBx.size, vals_step (n := 6) (v := v6) hD (by decide) (by omega) P (fun h => nomatch (show true = false from h)), fun x => by obtain ⟨v2, e9, ho2⟩ := Q2 (bk 2 (by decide) x); exact ⟨_, e9, .inl fn⟩, fun x => by obtain ⟨a5, c5, e9, h5o⟩ := Q5 (bk 5 (by decide) x); exact ⟨_, _, e9, .inl fn⟩, fun _ => ⟨v6, rfl, hown6⟩, fun x => absurd (D7 (bk 7 (by decide) x)) off, fun x => absurd (fw 2 h2) x, fun x => absurd (fw 2 h2) x, .inl (fw 4 (D5 h5)), fun _ => ⟨fw 2 h2, fw 4 (D5 h5)⟩, fun x => fw 4 (D5 (bk 5 (by decide) x)), fun x => fw 0 (D2 (bk 2 (by decide) x)), fun x => fw 6 (D7 (bk 7 (by decide) x)), fun x => G4 (fun y => x (fw 7 y)), fun x => fw 0 (D0 (bk 7 (by decide) x)), Nat.le_trans SZ hg.size⟩)
        | 7, _ =>
         cases hio
         have off : ¬ On f 7 := on_off (by omega) hn
         have h6 : On f 6 := he ⟨6, .data⟩ (by simp) rfl
         obtain ⟨v6, e6, ho6⟩ := Q6 h6
         rw [e6]
         have HQ := Lib.hid (And.intro P (And.intro Q2 (And.intro Q5 (And.intro Q6 (And.intro Q7 (And.intro QH (And.intro QO (And.intro QX (And.intro D6 (And.intro D5 (And.intro D2 (And.intro D7 (And.intro G4 (And.intro D0 SZ))))))))))))))
         clear P Q2 Q5 Q6 Q7 QH QO QX D6 D5 D2 D7 G4 D0 SZ
         go_simp
         obtain ⟨P, Q2, Q5, Q6, Q7, QH, QO, QX, D6, D5, D2, D7, G4, D0, SZ⟩ := HQ.out
         obtain ⟨bk, fw, fn⟩ := on3 (f := f) (i := 7) (by omega)
         exact hKK (upd (upd gv 65 (v6)) 4 (v6)) _ (by rw [upd_same e6]; exact ⟨hBx, vals_step (n := 7) (v := v6) hD (by decide) (by omega) P (fun h => nomatch (show true = false from h)), fun x => by obtain ⟨v2, e9, ho2⟩ := Q2 (bk 2 (by decide) x); exact ⟨_, e9, ho2.imp (fw 6) id⟩, fun x => by obtain ⟨a5, c5, e9, h5o⟩ := Q5 (bk 5 (by decide) x); exact ⟨_, _, e9, h5o.imp (fw 6) id⟩, fun x => Q6 (bk 6 (by decide) x), fun _ => ⟨v6, rfl, ho6⟩, fun x => QH (fun y => x (fw 2 y)), fun x => QO (fun y => x (fw 2 y)), QX.imp (fw 4) id, fun x => (D6 (bk 6 (by decide) x)).imp (fw 2) (fw 4), fun x => fw 4 (D5 (bk 5 (by decide) x)), fun x => fw 0 (D2 (bk 2 (by decide) x)), fun _ => fw 6 h6, fun x => absurd fn x, fun _ => fw 0 (D2 (D6 h6).1), SZ⟩)
       ·rintro f gv w5 hall hs' ⟨hBx, P, Q2, Q5, Q6, Q7, QH, QO, QX, D6, D5, D2, D7, G4, D0, SZ⟩
        replace hs' : f.size = 8 := hs'
        have on : ∀ j, j < 8 → On f j := fun j hj => on_all hall hs' j hj
        obtain ⟨v7, e7, hk7⟩ := Q7 (on 7 (by decide))
        rw [e7]
        have HO7 := Lib.hid (show w5.ownsRow w2.heap.size 5 1 v7 (gl (i + 1)).length ((gl (i + 1)).map B) by rw [HGS.out]; exact hk7)
        have HB7 := Lib.hid hBx
        clear P Q2 Q5 Q6 Q7 QH QO QX D0 D2 D5 D6 D7 G4 SZ hBx hall hs' on hD e7 hk7
        go_wp2_with fail
        refine ⟨⟨i + 1, v7, by omega, by go_num, rfl, HO7, HB7⟩, ?_⟩
        simp [intOf]; omega
      ·obtain rfl : n2 = i := by omega
       have hnn2 : ¬ (n2 : Int) < (n2 : Int) := by omega
       have hoE := hO.out
       rw [HGLN.out] at hoE
       obtain ⟨a4, c4, rfl, hr4⟩ := Rd.of_own hoE
       have HEND := Lib.hid (show MPutP m w (.returned (.tuple #[.slice a4 (putM m).length c4, .int .i64 0])) wr by
        unfold MPutP
        rw [if_pos HM.out.symm]
        exact ⟨a4, c4, rfl, hr4, own_none hoE, HB2.out.step hB.out⟩)
       obtain ⟨lz, hlz⟩ : ∃ l, l = (putM m).length := ⟨_, rfl⟩
       rw [← hlz] at HEND ⊢
       clear hr4 hoE hlz
       go_wp2_with fail
       go_ret2
       exact HEND.out
end Go.Proofs.YtofadpodlaakbaaGreat
