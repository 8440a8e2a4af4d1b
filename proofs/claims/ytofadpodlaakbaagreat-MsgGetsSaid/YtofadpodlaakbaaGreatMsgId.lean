/- The walk of the reader's id, of the layer msg. -/
import Derived.Test.YtofadpodlaakbaaGreatMsgTake
import Derived.Test.YtofadpodlaakbaaGreatCmRd
namespace Go.Proofs.YtofadpodlaakbaaGreat
open Go.ChangeShapes Go.WideShapes Go.ChangeAt Go.RowKit
set_option linter.unusedVariables false
set_option linter.unusedSimpArgs false
theorem RdR.set_vs {ok : Nat → Prop} {w : World} {br : Nat} {t : TypeId} {vs : List Value} {l : List UInt8} (h : RdR ok w br t vs l) (j : Nat) (v : Value) : RdR ok (w.setCell ⟨br, j + 1, none⟩ v) br t (vs.set j v) l := by
 obtain ⟨a, c, h1, h2, h3, h4⟩ := h
 exact ⟨a, c, h1.set (j + 1) v, h2.only' (only_set w br (j + 1) v) (fun x hx hp => (h4 x hx hp).1), h3, h4⟩
theorem RdR.at_vs {ok : Nat → Prop} {w : World} {br : Nat} {t : TypeId} {vs : List Value} {l : List UInt8} (h : RdR ok w br t vs l) (j : Nat) (v : Value) (hj : vs[j]? = some v) : w.cell? ⟨br, j + 1, none⟩ = some v ∧ w.frozen? ⟨br, j + 1, none⟩ = false := by
 obtain ⟨a, c, h1, _⟩ := h
 exact ⟨h1.at (j + 1) v hj, h1.free (j + 1)⟩
theorem RdR.br_lt {ok : Nat → Prop} {w : World} {br : Nat} {t : TypeId} {vs : List Value} {l : List UInt8} (h : RdR ok w br t vs l) : br < w.heap.size := by
 obtain ⟨a, c, h1, _⟩ := h
 exact h1.lt
def MIdsP (w0 : World) (br : Nat) (kd cmv : Value) (i : Nat) (X l : List UInt8) (e : Ending) (w' : World) : Prop :=
 if 32 ≤ l.length then e = .returned (.tuple #[]) ∧ ∃ av cv, RdR (fun k => k < w0.heap.size) w' br 67 [kd, .slice av (i + 1) cv, cmv] (l.drop 32) ∧ w'.ownsRow w0.heap.size 48 32 (.slice av (i + 1) cv) (i + 1) (Bs (X ++ l.take 32)) ∧ PastN w0 w' br
 else e = .panicked wrongM ∧ PastN w0 w' br
set_option maxRecDepth 100000 in
set_option maxHeartbeats 8000000 in
theorem mid_any (w0 : World) (br : Nat) (kd cmv : Value) (av : Option Addr) (i cv : Nat) (X l : List UInt8) (w : World) (hlt : br < w0.heap.size) (hp : PastN w0 w br) (hr : RdR (fun k => k < w0.heap.size) w br 67 [kd, .slice av i cv, cmv] (l)) (ho : w.ownsRow w0.heap.size 48 32 (.slice av i cv) i (Bs (X))) (hl : l.length ≤ 100000) (hi : i ≤ 100) : Calls Tryz.prog 64 #[.pointer (some ⟨br, 0, none⟩)] w (MIdsP w0 br kd cmv i X l) := by
 have HP := Lib.hid hp
 have HR := Lib.hid hr
 have HO := Lib.hid ho
 have HLT := Lib.hid hlt
 have HSZ := Lib.hid (show w0.heap.size ≤ w.heap.size from hp.size)
 have HT := Lib.hid (fun w' iv (h : RdR (fun k => k < w0.heap.size) w' br 67 [kd, iv, cmv] (l)) => mtake_any (fun k => k < w0.heap.size) br [kd, iv, cmv] l w' h hl)
 unfold MIdP at HT
 obtain ⟨i1, hi1⟩ : ∃ i1, i1 = i + 1 := ⟨_, rfl⟩
 have HI1 := Lib.hid hi1
 clear hp hr ho hlt
 by_cases h32 : 32 ≤ l.length
 ·simp only [if_pos h32] at HT
  obtain ⟨x, hx⟩ : ∃ x, x = l.take 32 := ⟨_, rfl⟩
  have hx32 : x.length = 32 := by rw [hx, List.length_take]; omega
  rw [← hx] at HT
  unfold arr at HT
  obtain ⟨l', hl'⟩ : ∃ l', l' = l.drop 32 := ⟨_, rfl⟩
  rw [← hl'] at HT
  have HEND := Lib.hid (show ∀ w' av cv, RdR (fun k => k < w0.heap.size) w' br 67 [kd, .slice av i1 cv, cmv] (l') → w'.ownsRow w0.heap.size 48 32 (.slice av i1 cv) i1 (Bs (X ++ x)) → PastN w0 w' br → MIdsP w0 br kd cmv i X l (.returned (.tuple #[])) w' from fun w' av cv h1 h2 h3 => by
   unfold MIdsP
   rw [if_pos h32]
   subst hi1 hx hl'
   exact ⟨rfl, av, cv, h1, h2, h3⟩)
  have HX := Lib.hid hx32
  clear hx hl' h32 hx32 hi1
  go_enter Tryz.func64, Tryz.ntmps64
  go_upto_region 0 with fail
  have hD : ∀ j, j < 14 → ∀ n, n < 14 → j ≠ n → dkN [2, 3, 4, 5, 6, 7, 8, 9, 10, 11, 12, 13, 14, 1013] j ≠ dkN [2, 3, 4, 5, 6, 7, 8, 9, 10, 11, 12, 13, 14, 1013] n := by decide +kernel
  refine region_fun (by kernel_rfl) (by kernel_rfl) (fun gv => #[.pointer (some ⟨br, 0, none⟩), gv 1, gv 2, gv 3, gv 4, gv 5, gv 6, gv 7, gv 8, gv 9, gv 10, gv 11, gv 12, gv 13, gv 14]) rfl (fun f gv wx => True ∧ (∀ j, j < 14 → (fun j => Nat.beq j 8 || Nat.beq j 9 || Nat.beq j 13) j = false → On f j → gv (dkN [2, 3, 4, 5, 6, 7, 8, 9, 10, 11, 12, 13, 14, 1013] j) = vkN [.pointer (some ⟨br, 0, none⟩), .pointer (some ⟨br, 0, none⟩), .pointer (some ⟨br, 0, none⟩), .pointer (some ⟨br, 1, none⟩), .pointer (some ⟨br, 2, none⟩), .slice av i cv, .pointer (some ⟨br, 0, none⟩), .agg (Bs x).toArray, undef, undef, .pointer (some ⟨br, 0, none⟩), .pointer (some ⟨br, 1, none⟩), .pointer (some ⟨br, 2, none⟩), undef] j) ∧ ((On f 8 → ∃ b, gv 10 = .slice (some ⟨b, 0, none⟩) 1 1 ∧ (On f 9 ∨ (b ≠ br ∧ Cel wx b 48 (Bs x))))) ∧ ((On f 9 → ∃ a c, gv 11 = .slice a i1 c ∧ (On f 13 ∨ wx.ownsRow w0.heap.size 48 32 (.slice a i1 c) i1 (Bs (X ++ x))))) ∧ ((¬ On f 13 → ∃ l9, RdR (fun k => k < w0.heap.size) wx br 67 [kd, .slice av i cv, cmv] (l9))) ∧ ((¬ On f 7 → RdR (fun k => k < w0.heap.size) wx br 67 [kd, .slice av i cv, cmv] (l)) ∧ (On f 7 → ¬ On f 13 → RdR (fun k => k < w0.heap.size) wx br 67 [kd, .slice av i cv, cmv] (l'))) ∧ ((¬ On f 9 → wx.ownsRow w0.heap.size 48 32 (.slice av i cv) i (Bs (X)))) ∧ ((On f 13 → ∃ av' cv', RdR (fun k => k < w0.heap.size) wx br 67 [kd, .slice av' i1 cv', cmv] (l') ∧ wx.ownsRow w0.heap.size 48 32 (.slice av' i1 cv') i1 (Bs (X ++ x)))) ∧ (PastN w0 wx br) ∧ (w0.heap.size ≤ wx.heap.size) ∧ ((On f 8 → On f 7)) ∧ ((On f 9 → On f 5 ∧ On f 7 ∧ On f 8)) ∧ ((On f 13 → On f 5 ∧ On f 9 ∧ On f 7 ∧ On f 8))) ?_ ?_ ?_
  ·have hoff : ∀ j, ¬ On (Array.replicate 14 false) j := by
    intro j hj; simp only [On, Array.getD_eq_getD_getElem?, Array.getElem?_replicate] at hj; split at hj <;> simp at hj
   exact ⟨trivial, fun j _ _ x => absurd x (hoff _), fun x => absurd x (hoff _), fun x => absurd x (hoff _), fun _ => ⟨_, HR.out.below (Below.refl _ _).drew⟩, ⟨fun _ => HR.out.below (Below.refl _ _).drew, fun x => absurd x (hoff _)⟩, fun _ => HO.out, fun x => absurd x (hoff _), HP.out.step (Below.refl _ _).drew, HSZ.out, fun x => absurd x (hoff _), fun x => absurd x (hoff _), fun x => absurd x (hoff _)⟩
  ·rintro i' o' f gv wm hio hs' hn he ⟨hBx, P, Q8, Q9, RA, RS, QB, QE, PW, SZ, D8, D9, D13⟩ KK hKK
   have hi' : i' < 14 := (Array.getElem?_eq_some_iff.1 hio).1
   replace hs' : f.size = 14 := hs'
   match i', hi' with
   | 0, _ =>
    cases hio
    have off : ¬ On f 0 := on_off (by omega) hn
    have HQ := Lib.hid (And.intro P (And.intro Q8 (And.intro Q9 (And.intro RA (And.intro RS (And.intro QB (And.intro QE (And.intro PW (And.intro SZ (And.intro D8 (And.intro D9 D13)))))))))))
    clear P Q8 Q9 RA RS QB QE PW SZ D8 D9 D13
    go_simp
    obtain ⟨P, Q8, Q9, RA, RS, QB, QE, PW, SZ, D8, D9, D13⟩ := HQ.out
    obtain ⟨bk, fw, fn⟩ := on3 (f := f) (i := 0) (by omega)
    exact hKK (upd gv 2 (.pointer (some ⟨br, 0, none⟩))) _ (by exact ⟨trivial, vals_step (n := 0) (v := .pointer (some ⟨br, 0, none⟩)) hD (by decide) (by omega) P (fun _ => rfl), fun x => by obtain ⟨b, e9, hb4⟩ := Q8 (bk 8 (by decide) x); exact ⟨_, e9, hb4.imp (fw 9) id⟩, fun x => by obtain ⟨a5, c5, e9, h5o⟩ := Q9 (bk 9 (by decide) x); exact ⟨_, _, e9, h5o.imp (fw 13) id⟩, fun x => RA (fun y => x (fw 13 y)), ⟨fun x => RS.1 (fun y => x (fw 7 y)), fun x z => RS.2 (bk 7 (by decide) x) (fun y => z (fw 13 y))⟩, fun x => QB (fun y => x (fw 9 y)), fun x => QE (bk 13 (by decide) x), PW, SZ, fun x => fw 7 (D8 (bk 8 (by decide) x)), fun x => (D9 (bk 9 (by decide) x)).imp (fw 5) (And.imp (fw 7) (fw 8)), fun x => (D13 (bk 13 (by decide) x)).imp (fw 5) (And.imp (fw 9) (And.imp (fw 7) (fw 8)))⟩)
   | 1, _ =>
    cases hio
    have off : ¬ On f 1 := on_off (by omega) hn
    have HQ := Lib.hid (And.intro P (And.intro Q8 (And.intro Q9 (And.intro RA (And.intro RS (And.intro QB (And.intro QE (And.intro PW (And.intro SZ (And.intro D8 (And.intro D9 D13)))))))))))
    clear P Q8 Q9 RA RS QB QE PW SZ D8 D9 D13
    go_simp
    obtain ⟨P, Q8, Q9, RA, RS, QB, QE, PW, SZ, D8, D9, D13⟩ := HQ.out
    obtain ⟨bk, fw, fn⟩ := on3 (f := f) (i := 1) (by omega)
    exact hKK (upd gv 3 (.pointer (some ⟨br, 0, none⟩))) _ (by exact ⟨trivial, vals_step (n := 1) (v := .pointer (some ⟨br, 0, none⟩)) hD (by decide) (by omega) P (fun _ => rfl), fun x => by obtain ⟨b, e9, hb4⟩ := Q8 (bk 8 (by decide) x); exact ⟨_, e9, hb4.imp (fw 9) id⟩, fun x => by obtain ⟨a5, c5, e9, h5o⟩ := Q9 (bk 9 (by decide) x); exact ⟨_, _, e9, h5o.imp (fw 13) id⟩, fun x => RA (fun y => x (fw 13 y)), ⟨fun x => RS.1 (fun y => x (fw 7 y)), fun x z => RS.2 (bk 7 (by decide) x) (fun y => z (fw 13 y))⟩, fun x => QB (fun y => x (fw 9 y)), fun x => QE (bk 13 (by decide) x), PW, SZ, fun x => fw 7 (D8 (bk 8 (by decide) x)), fun x => (D9 (bk 9 (by decide) x)).imp (fw 5) (And.imp (fw 7) (fw 8)), fun x => (D13 (bk 13 (by decide) x)).imp (fw 5) (And.imp (fw 9) (And.imp (fw 7) (fw 8)))⟩)
   | 2, _ =>
    cases hio
    have off : ¬ On f 2 := on_off (by omega) hn
    have h1 : On f 1 := he ⟨1, .data⟩ (by simp) rfl
    have e1 : gv 3 = .pointer (some ⟨br, 0, none⟩) := P 1 (by decide) rfl h1
    rw [e1]
    have HQ := Lib.hid (And.intro P (And.intro Q8 (And.intro Q9 (And.intro RA (And.intro RS (And.intro QB (And.intro QE (And.intro PW (And.intro SZ (And.intro D8 (And.intro D9 D13)))))))))))
    clear P Q8 Q9 RA RS QB QE PW SZ D8 D9 D13
    go_simp
    obtain ⟨P, Q8, Q9, RA, RS, QB, QE, PW, SZ, D8, D9, D13⟩ := HQ.out
    obtain ⟨bk, fw, fn⟩ := on3 (f := f) (i := 2) (by omega)
    exact hKK (upd (upd gv 3 (.pointer (some ⟨br, 0, none⟩))) 4 (.pointer (some ⟨br, 0, none⟩))) _ (by rw [upd_same e1]; exact ⟨trivial, vals_step (n := 2) (v := .pointer (some ⟨br, 0, none⟩)) hD (by decide) (by omega) P (fun _ => rfl), fun x => by obtain ⟨b, e9, hb4⟩ := Q8 (bk 8 (by decide) x); exact ⟨_, e9, hb4.imp (fw 9) id⟩, fun x => by obtain ⟨a5, c5, e9, h5o⟩ := Q9 (bk 9 (by decide) x); exact ⟨_, _, e9, h5o.imp (fw 13) id⟩, fun x => RA (fun y => x (fw 13 y)), ⟨fun x => RS.1 (fun y => x (fw 7 y)), fun x z => RS.2 (bk 7 (by decide) x) (fun y => z (fw 13 y))⟩, fun x => QB (fun y => x (fw 9 y)), fun x => QE (bk 13 (by decide) x), PW, SZ, fun x => fw 7 (D8 (bk 8 (by decide) x)), fun x => (D9 (bk 9 (by decide) x)).imp (fw 5) (And.imp (fw 7) (fw 8)), fun x => (D13 (bk 13 (by decide) x)).imp (fw 5) (And.imp (fw 9) (And.imp (fw 7) (fw 8)))⟩)
   | 3, _ =>
    cases hio
    have off : ¬ On f 3 := on_off (by omega) hn
    have h2 : On f 2 := he ⟨2, .data⟩ (by simp) rfl
    have e2 : gv 4 = .pointer (some ⟨br, 0, none⟩) := P 2 (by decide) rfl h2
    rw [e2]
    have HQ := Lib.hid (And.intro P (And.intro Q8 (And.intro Q9 (And.intro RA (And.intro RS (And.intro QB (And.intro QE (And.intro PW (And.intro SZ (And.intro D8 (And.intro D9 D13)))))))))))
    clear P Q8 Q9 RA RS QB QE PW SZ D8 D9 D13
    go_simp
    obtain ⟨P, Q8, Q9, RA, RS, QB, QE, PW, SZ, D8, D9, D13⟩ := HQ.out
    obtain ⟨bk, fw, fn⟩ := on3 (f := f) (i := 3) (by omega)
    exact hKK (upd (upd gv 4 (.pointer (some ⟨br, 0, none⟩))) 5 (.pointer (some ⟨br, 1, none⟩))) _ (by rw [upd_same e2]; exact ⟨trivial, vals_step (n := 3) (v := .pointer (some ⟨br, 1, none⟩)) hD (by decide) (by omega) P (fun _ => rfl), fun x => by obtain ⟨b, e9, hb4⟩ := Q8 (bk 8 (by decide) x); exact ⟨_, e9, hb4.imp (fw 9) id⟩, fun x => by obtain ⟨a5, c5, e9, h5o⟩ := Q9 (bk 9 (by decide) x); exact ⟨_, _, e9, h5o.imp (fw 13) id⟩, fun x => RA (fun y => x (fw 13 y)), ⟨fun x => RS.1 (fun y => x (fw 7 y)), fun x z => RS.2 (bk 7 (by decide) x) (fun y => z (fw 13 y))⟩, fun x => QB (fun y => x (fw 9 y)), fun x => QE (bk 13 (by decide) x), PW, SZ, fun x => fw 7 (D8 (bk 8 (by decide) x)), fun x => (D9 (bk 9 (by decide) x)).imp (fw 5) (And.imp (fw 7) (fw 8)), fun x => (D13 (bk 13 (by decide) x)).imp (fw 5) (And.imp (fw 9) (And.imp (fw 7) (fw 8)))⟩)
   | 4, _ =>
    cases hio
    have off : ¬ On f 4 := on_off (by omega) hn
    have h3 : On f 3 := he ⟨3, .data⟩ (by simp) rfl
    have e3 : gv 5 = .pointer (some ⟨br, 1, none⟩) := P 3 (by decide) rfl h3
    rw [e3]
    have HQ := Lib.hid (And.intro P (And.intro Q8 (And.intro Q9 (And.intro RA (And.intro RS (And.intro QB (And.intro QE (And.intro PW (And.intro SZ (And.intro D8 (And.intro D9 D13)))))))))))
    clear P Q8 Q9 RA RS QB QE PW SZ D8 D9 D13
    go_simp
    obtain ⟨P, Q8, Q9, RA, RS, QB, QE, PW, SZ, D8, D9, D13⟩ := HQ.out
    obtain ⟨bk, fw, fn⟩ := on3 (f := f) (i := 4) (by omega)
    exact hKK (upd (upd gv 5 (.pointer (some ⟨br, 1, none⟩))) 6 (.pointer (some ⟨br, 2, none⟩))) _ (by rw [upd_same e3]; exact ⟨trivial, vals_step (n := 4) (v := .pointer (some ⟨br, 2, none⟩)) hD (by decide) (by omega) P (fun _ => rfl), fun x => by obtain ⟨b, e9, hb4⟩ := Q8 (bk 8 (by decide) x); exact ⟨_, e9, hb4.imp (fw 9) id⟩, fun x => by obtain ⟨a5, c5, e9, h5o⟩ := Q9 (bk 9 (by decide) x); exact ⟨_, _, e9, h5o.imp (fw 13) id⟩, fun x => RA (fun y => x (fw 13 y)), ⟨fun x => RS.1 (fun y => x (fw 7 y)), fun x z => RS.2 (bk 7 (by decide) x) (fun y => z (fw 13 y))⟩, fun x => QB (fun y => x (fw 9 y)), fun x => QE (bk 13 (by decide) x), PW, SZ, fun x => fw 7 (D8 (bk 8 (by decide) x)), fun x => (D9 (bk 9 (by decide) x)).imp (fw 5) (And.imp (fw 7) (fw 8)), fun x => (D13 (bk 13 (by decide) x)).imp (fw 5) (And.imp (fw 9) (And.imp (fw 7) (fw 8)))⟩)
   | 5, _ =>
    cases hio
    have off : ¬ On f 5 := on_off (by omega) hn
    have h4 : On f 4 := he ⟨4, .data⟩ (by simp) rfl
    have e4 : gv 6 = .pointer (some ⟨br, 2, none⟩) := P 4 (by decide) rfl h4
    obtain ⟨l9, hA⟩ := RA (fun y => off (D13 y).1)
    obtain ⟨d0, _⟩ := RdR.at_vs hA 1 (.slice av i cv) rfl
    rw [e4]
    have HQ := Lib.hid (And.intro P (And.intro Q8 (And.intro Q9 (And.intro RA (And.intro RS (And.intro QB (And.intro QE (And.intro PW (And.intro SZ (And.intro D8 (And.intro D9 D13)))))))))))
    clear P Q8 Q9 RA RS QB QE PW SZ D8 D9 D13
    go_simp
    obtain ⟨P, Q8, Q9, RA, RS, QB, QE, PW, SZ, D8, D9, D13⟩ := HQ.out
    obtain ⟨bk, fw, fn⟩ := on3 (f := f) (i := 5) (by omega)
    exact hKK (upd (upd gv 6 (.pointer (some ⟨br, 2, none⟩))) 7 (.slice av i cv)) _ (by rw [upd_same e4]; exact ⟨trivial, vals_step (n := 5) (v := .slice av i cv) hD (by decide) (by omega) P (fun _ => rfl), fun x => by obtain ⟨b, e9, hb4⟩ := Q8 (bk 8 (by decide) x); exact ⟨_, e9, hb4.imp (fw 9) id⟩, fun x => by obtain ⟨a5, c5, e9, h5o⟩ := Q9 (bk 9 (by decide) x); exact ⟨_, _, e9, h5o.imp (fw 13) id⟩, fun x => RA (fun y => x (fw 13 y)), ⟨fun x => RS.1 (fun y => x (fw 7 y)), fun x z => RS.2 (bk 7 (by decide) x) (fun y => z (fw 13 y))⟩, fun x => QB (fun y => x (fw 9 y)), fun x => QE (bk 13 (by decide) x), PW, SZ, fun x => fw 7 (D8 (bk 8 (by decide) x)), fun x => (D9 (bk 9 (by decide) x)).imp (fw 5) (And.imp (fw 7) (fw 8)), fun x => (D13 (bk 13 (by decide) x)).imp (fw 5) (And.imp (fw 9) (And.imp (fw 7) (fw 8)))⟩)
   | 6, _ =>
    cases hio
    have off : ¬ On f 6 := on_off (by omega) hn
    have HQ := Lib.hid (And.intro P (And.intro Q8 (And.intro Q9 (And.intro RA (And.intro RS (And.intro QB (And.intro QE (And.intro PW (And.intro SZ (And.intro D8 (And.intro D9 D13)))))))))))
    clear P Q8 Q9 RA RS QB QE PW SZ D8 D9 D13
    go_simp
    obtain ⟨P, Q8, Q9, RA, RS, QB, QE, PW, SZ, D8, D9, D13⟩ := HQ.out
    obtain ⟨bk, fw, fn⟩ := on3 (f := f) (i := 6) (by omega)
    exact hKK (upd gv 8 (.pointer (some ⟨br, 0, none⟩))) _ (by exact ⟨trivial, vals_step (n := 6) (v := .pointer (some ⟨br, 0, none⟩)) hD (by decide) (by omega) P (fun _ => rfl), fun x => by obtain ⟨b, e9, hb4⟩ := Q8 (bk 8 (by decide) x); exact ⟨_, e9, hb4.imp (fw 9) id⟩, fun x => by obtain ⟨a5, c5, e9, h5o⟩ := Q9 (bk 9 (by decide) x); exact ⟨_, _, e9, h5o.imp (fw 13) id⟩, fun x => RA (fun y => x (fw 13 y)), ⟨fun x => RS.1 (fun y => x (fw 7 y)), fun x z => RS.2 (bk 7 (by decide) x) (fun y => z (fw 13 y))⟩, fun x => QB (fun y => x (fw 9 y)), fun x => QE (bk 13 (by decide) x), PW, SZ, fun x => fw 7 (D8 (bk 8 (by decide) x)), fun x => (D9 (bk 9 (by decide) x)).imp (fw 5) (And.imp (fw 7) (fw 8)), fun x => (D13 (bk 13 (by decide) x)).imp (fw 5) (And.imp (fw 9) (And.imp (fw 7) (fw 8)))⟩)
   | 7, _ =>
    cases hio
    have off : ¬ On f 7 := on_off (by omega) hn
    have h6 : On f 6 := he ⟨6, .data⟩ (by simp) rfl
    have e6 : gv 8 = .pointer (some ⟨br, 0, none⟩) := P 6 (by decide) rfl h6
    have hrd := RS.1 off
    rw [e6]
    have HQ := Lib.hid (And.intro P (And.intro Q8 (And.intro Q9 (And.intro RA (And.intro RS (And.intro QB (And.intro QE (And.intro PW (And.intro SZ (And.intro D8 (And.intro D9 D13)))))))))))
    clear P Q8 Q9 RA RS QB QE PW SZ D8 D9 D13
    go_simp
    refine (HT.out _ _ hrd).mono ?_
    rintro e w6 ⟨rfl, hr6, hp6⟩
    obtain ⟨P, Q8, Q9, RA, RS, QB, QE, PW, SZ, D8, D9, D13⟩ := HQ.out
    obtain ⟨bk, fw, fn⟩ := on3 (f := f) (i := 7) (by omega)
    exact hKK (upd (upd gv 8 (.pointer (some ⟨br, 0, none⟩))) 9 (.agg (Bs x).toArray)) _ (by rw [upd_same e6]; exact ⟨trivial, vals_step (n := 7) (v := .agg (Bs x).toArray) hD (by decide) (by omega) P (fun _ => rfl), fun x => absurd (D8 (bk 8 (by decide) x)) off, fun x => absurd (D9 (bk 9 (by decide) x)).2.1 off, fun x => ⟨_, hr6⟩, ⟨fun x => absurd fn x, fun _ _ => hr6⟩, fun x => ownsRow_id_past (QB (fun y => x (fw 9 y))) hp6 HLT.out, fun x => absurd (D13 (bk 13 (by decide) x)).2.2.1 off, PW.trans hp6, Nat.le_trans SZ hp6.size, fun x => fw 7 (D8 (bk 8 (by decide) x)), fun x => (D9 (bk 9 (by decide) x)).imp (fw 5) (And.imp (fw 7) (fw 8)), fun x => (D13 (bk 13 (by decide) x)).imp (fw 5) (And.imp (fw 9) (And.imp (fw 7) (fw 8)))⟩)
   | 8, _ =>
    cases hio
    have off : ¬ On f 8 := on_off (by omega) hn
    have h7 : On f 7 := he ⟨7, .data⟩ (by simp) rfl
    have e7 : gv 9 = .agg (Bs x).toArray := P 7 (by decide) rfl h7
    have hS0 := SZ
    rw [e7]
    have HQ := Lib.hid (And.intro P (And.intro Q8 (And.intro Q9 (And.intro RA (And.intro RS (And.intro QB (And.intro QE (And.intro PW (And.intro SZ (And.intro D8 (And.intro D9 D13)))))))))))
    clear P Q8 Q9 RA RS QB QE PW SZ D8 D9 D13
    obtain ⟨i0, hi0z, hz0, hz1, _⟩ := info_parts info_idz
    refine one_slice_at (by rfl) 22 48 (.tmp 9) rfl (Bs x) (by rfl) i0 _ Tryz.underlying22 hi0z hz0 (by rw [hz1, Bs_length, HX.out]) (by rw [Bs_length, HX.out]; decide) (by rw [Bs_length, HX.out]; decide) ?_
    simp only [Act.put, List.setIfInBounds_toArray]
    obtain ⟨b, hbb⟩ : ∃ b, b = wm.heap.size := ⟨_, rfl⟩
    obtain ⟨w6, hw6⟩ : ∃ w6, w6 = wm.alloc (.cells ((Bs x) : List Value).toArray 48) := ⟨_, rfl⟩
    have hb : Below wm.heap.size wm w6 := by rw [hw6]; exact (Below.refl _ _).alloc (Nat.le_refl _) _
    have hcb : Cel w6 b 48 (Bs x) := by rw [hw6, hbb]; exact Cel.new wm _ _
    rw [← hbb, ← hw6]
    have hbne : b ≠ br := by have := HLT.out; omega
    obtain ⟨P, Q8, Q9, RA, RS, QB, QE, PW, SZ, D8, D9, D13⟩ := HQ.out
    obtain ⟨bk, fw, fn⟩ := on3 (f := f) (i := 8) (by omega)
    exact hKK (upd (upd gv 9 (.agg (Bs x).toArray)) 10 (.slice (some ⟨b, 0, none⟩) 1 1)) _ (by rw [upd_same e7]; exact ⟨trivial, vals_step (n := 8) (v := .slice (some ⟨b, 0, none⟩) 1 1) hD (by decide) (by omega) P (fun h => nomatch (show true = false from h)), fun _ => ⟨b, rfl, .inr ⟨hbne, hcb⟩⟩, fun x => by obtain ⟨a5, c5, e9, h5o⟩ := Q9 (bk 9 (by decide) x); exact ⟨_, _, e9, h5o.imp (fw 13) (fun h => ownsRow_id_low h fun k hk => hb.block k (h.lt k hk).2)⟩, fun x => (RA (fun y => x (fw 13 y))).imp (fun _ h => h.below hb), ⟨fun x => (RS.1 (fun y => x (fw 7 y))).below hb, fun x z => (RS.2 (bk 7 (by decide) x) (fun y => z (fw 13 y))).below hb⟩, fun x => ownsRow_id_low (QB (fun y => x (fw 9 y))) fun k hk => hb.block k ((QB (fun y => x (fw 9 y))).lt k hk).2, fun x => absurd (D13 (bk 13 (by decide) x)).2.2.2 off, PW.step hb, Nat.le_trans SZ hb.size, fun _ => fw 7 h7, fun x => (D9 (bk 9 (by decide) x)).imp (fw 5) (And.imp (fw 7) (fw 8)), fun x => (D13 (bk 13 (by decide) x)).imp (fw 5) (And.imp (fw 9) (And.imp (fw 7) (fw 8)))⟩)
   | 9, _ =>
    cases hio
    have off : ¬ On f 9 := on_off (by omega) hn
    have h5 : On f 5 := he ⟨5, .data⟩ (by simp) rfl
    have e5 : gv 7 = .slice av i cv := P 5 (by decide) rfl h5
    have h8 : On f 8 := he ⟨8, .data⟩ (by simp) rfl
    obtain ⟨b, e8, hb4⟩ := Q8 h8
    have hc4 := hb4.resolve_left off
    have hQ1 := QB off
    have hS0 := SZ
    obtain ⟨v6, w6, hrun, hown, hg⟩ := app_id hQ1 hc4.2 HX.out (by omega) hS0
    rw [← Bs_app, ← HI1.out] at hown
    have hlow : ∀ k, (Value.slice av i cv).ownBlock = some k → w0.heap.size ≤ k := fun k hk => (hQ1.lt k hk).1
    have hLT := HLT.out
    obtain ⟨a6, c6, rfl, hown6⟩ : ∃ a c, v6 = .slice a i1 c ∧ w6.ownsRow w0.heap.size 48 32 (.slice a i1 c) i1 (Bs (X ++ x)) := by
     rcases hown.2 with ⟨e1, e2⟩ | ⟨g, cap, cur, e1, _⟩
     ·have := HI1.out; omega
     ·exact ⟨_, _, e1, e1 ▸ hown⟩
    rw [e5, e8]
    have HQ := Lib.hid (And.intro P (And.intro Q8 (And.intro Q9 (And.intro RA (And.intro RS (And.intro QB (And.intro QE (And.intro PW (And.intro SZ (And.intro D8 (And.intro D9 D13)))))))))))
    clear P Q8 Q9 RA RS QB QE PW SZ D8 D9 D13
    refine app_run_at (by rfl) (.tmp 7) (.tmp 10) 22 rfl (by rfl) (by rfl) hrun ?_
    simp only [Act.put, List.setIfInBounds_toArray]
    obtain ⟨P, Q8, Q9, RA, RS, QB, QE, PW, SZ, D8, D9, D13⟩ := HQ.out
    obtain ⟨bk, fw, fn⟩ := on3 (f := f) (i := 9) (by omega)
    exact hKK (upd (upd (upd gv 7 (.slice av i cv)) 10 (.slice (some ⟨b, 0, none⟩) 1 1)) 11 (.slice a6 i1 c6)) _ (by rw [upd_same e5]; rw [upd_same e8]; exact ⟨trivial, vals_step (n := 9) (v := .slice a6 i1 c6) hD (by decide) (by omega) P (fun h => nomatch (show true = false from h)), fun x => by obtain ⟨b, e9, hb4⟩ := Q8 (bk 8 (by decide) x); exact ⟨_, e9, .inl fn⟩, fun _ => ⟨a6, c6, rfl, .inr hown6⟩, fun x => (RA (fun y => x (fw 13 y))).imp (fun _ h => h.grown hg hLT (fun k hk => hlow k hk)), ⟨fun x => absurd (fw 7 (D8 h8)) x, fun x z => (RS.2 (bk 7 (by decide) x) (fun y => z (fw 13 y))).grown hg hLT (fun k hk => hlow k hk)⟩, fun x => absurd fn x, fun x => absurd (D13 (bk 13 (by decide) x)).2.1 off, PW.grown hg hlow, Nat.le_trans SZ hg.size, fun x => fw 7 (D8 (bk 8 (by decide) x)), fun _ => ⟨fw 5 h5, fw 7 (D8 h8), fw 8 h8⟩, fun x => (D13 (bk 13 (by decide) x)).imp (fw 5) (And.imp (fw 9) (And.imp (fw 7) (fw 8)))⟩)
   | 10, _ =>
    cases hio
    have off : ¬ On f 10 := on_off (by omega) hn
    have h0 : On f 0 := he ⟨0, .data⟩ (by simp) rfl
    have e0 : gv 2 = .pointer (some ⟨br, 0, none⟩) := P 0 (by decide) rfl h0
    rw [e0]
    have HQ := Lib.hid (And.intro P (And.intro Q8 (And.intro Q9 (And.intro RA (And.intro RS (And.intro QB (And.intro QE (And.intro PW (And.intro SZ (And.intro D8 (And.intro D9 D13)))))))))))
    clear P Q8 Q9 RA RS QB QE PW SZ D8 D9 D13
    go_simp
    obtain ⟨P, Q8, Q9, RA, RS, QB, QE, PW, SZ, D8, D9, D13⟩ := HQ.out
    obtain ⟨bk, fw, fn⟩ := on3 (f := f) (i := 10) (by omega)
    exact hKK (upd (upd gv 2 (.pointer (some ⟨br, 0, none⟩))) 12 (.pointer (some ⟨br, 0, none⟩))) _ (by rw [upd_same e0]; exact ⟨trivial, vals_step (n := 10) (v := .pointer (some ⟨br, 0, none⟩)) hD (by decide) (by omega) P (fun _ => rfl), fun x => by obtain ⟨b, e9, hb4⟩ := Q8 (bk 8 (by decide) x); exact ⟨_, e9, hb4.imp (fw 9) id⟩, fun x => by obtain ⟨a5, c5, e9, h5o⟩ := Q9 (bk 9 (by decide) x); exact ⟨_, _, e9, h5o.imp (fw 13) id⟩, fun x => RA (fun y => x (fw 13 y)), ⟨fun x => RS.1 (fun y => x (fw 7 y)), fun x z => RS.2 (bk 7 (by decide) x) (fun y => z (fw 13 y))⟩, fun x => QB (fun y => x (fw 9 y)), fun x => QE (bk 13 (by decide) x), PW, SZ, fun x => fw 7 (D8 (bk 8 (by decide) x)), fun x => (D9 (bk 9 (by decide) x)).imp (fw 5) (And.imp (fw 7) (fw 8)), fun x => (D13 (bk 13 (by decide) x)).imp (fw 5) (And.imp (fw 9) (And.imp (fw 7) (fw 8)))⟩)
   | 11, _ =>
    cases hio
    have off : ¬ On f 11 := on_off (by omega) hn
    have h10 : On f 10 := he ⟨10, .data⟩ (by simp) rfl
    have e10 : gv 12 = .pointer (some ⟨br, 0, none⟩) := P 10 (by decide) rfl h10
    rw [e10]
    have HQ := Lib.hid (And.intro P (And.intro Q8 (And.intro Q9 (And.intro RA (And.intro RS (And.intro QB (And.intro QE (And.intro PW (And.intro SZ (And.intro D8 (And.intro D9 D13)))))))))))
    clear P Q8 Q9 RA RS QB QE PW SZ D8 D9 D13
    go_simp
    obtain ⟨P, Q8, Q9, RA, RS, QB, QE, PW, SZ, D8, D9, D13⟩ := HQ.out
    obtain ⟨bk, fw, fn⟩ := on3 (f := f) (i := 11) (by omega)
    exact hKK (upd (upd gv 12 (.pointer (some ⟨br, 0, none⟩))) 13 (.pointer (some ⟨br, 1, none⟩))) _ (by rw [upd_same e10]; exact ⟨trivial, vals_step (n := 11) (v := .pointer (some ⟨br, 1, none⟩)) hD (by decide) (by omega) P (fun _ => rfl), fun x => by obtain ⟨b, e9, hb4⟩ := Q8 (bk 8 (by decide) x); exact ⟨_, e9, hb4.imp (fw 9) id⟩, fun x => by obtain ⟨a5, c5, e9, h5o⟩ := Q9 (bk 9 (by decide) x); exact ⟨_, _, e9, h5o.imp (fw 13) id⟩, fun x => RA (fun y => x (fw 13 y)), ⟨fun x => RS.1 (fun y => x (fw 7 y)), fun x z => RS.2 (bk 7 (by decide) x) (fun y => z (fw 13 y))⟩, fun x => QB (fun y => x (fw 9 y)), fun x => QE (bk 13 (by decide) x), PW, SZ, fun x => fw 7 (D8 (bk 8 (by decide) x)), fun x => (D9 (bk 9 (by decide) x)).imp (fw 5) (And.imp (fw 7) (fw 8)), fun x => (D13 (bk 13 (by decide) x)).imp (fw 5) (And.imp (fw 9) (And.imp (fw 7) (fw 8)))⟩)
   | 12, _ =>
    cases hio
    have off : ¬ On f 12 := on_off (by omega) hn
    have h11 : On f 11 := he ⟨11, .data⟩ (by simp) rfl
    have e11 : gv 13 = .pointer (some ⟨br, 1, none⟩) := P 11 (by decide) rfl h11
    rw [e11]
    have HQ := Lib.hid (And.intro P (And.intro Q8 (And.intro Q9 (And.intro RA (And.intro RS (And.intro QB (And.intro QE (And.intro PW (And.intro SZ (And.intro D8 (And.intro D9 D13)))))))))))
    clear P Q8 Q9 RA RS QB QE PW SZ D8 D9 D13
    go_simp
    obtain ⟨P, Q8, Q9, RA, RS, QB, QE, PW, SZ, D8, D9, D13⟩ := HQ.out
    obtain ⟨bk, fw, fn⟩ := on3 (f := f) (i := 12) (by omega)
    exact hKK (upd (upd gv 13 (.pointer (some ⟨br, 1, none⟩))) 14 (.pointer (some ⟨br, 2, none⟩))) _ (by rw [upd_same e11]; exact ⟨trivial, vals_step (n := 12) (v := .pointer (some ⟨br, 2, none⟩)) hD (by decide) (by omega) P (fun _ => rfl), fun x => by obtain ⟨b, e9, hb4⟩ := Q8 (bk 8 (by decide) x); exact ⟨_, e9, hb4.imp (fw 9) id⟩, fun x => by obtain ⟨a5, c5, e9, h5o⟩ := Q9 (bk 9 (by decide) x); exact ⟨_, _, e9, h5o.imp (fw 13) id⟩, fun x => RA (fun y => x (fw 13 y)), ⟨fun x => RS.1 (fun y => x (fw 7 y)), fun x z => RS.2 (bk 7 (by decide) x) (fun y => z (fw 13 y))⟩, fun x => QB (fun y => x (fw 9 y)), fun x => QE (bk 13 (by decide) x), PW, SZ, fun x => fw 7 (D8 (bk 8 (by decide) x)), fun x => (D9 (bk 9 (by decide) x)).imp (fw 5) (And.imp (fw 7) (fw 8)), fun x => (D13 (bk 13 (by decide) x)).imp (fw 5) (And.imp (fw 9) (And.imp (fw 7) (fw 8)))⟩)
   | 13, _ =>
    cases hio
    have off : ¬ On f 13 := on_off (by omega) hn
    have h9 : On f 9 := he ⟨9, .data⟩ (by simp) rfl
    obtain ⟨a5, c5, e9, h5o⟩ := Q9 h9
    have h12 : On f 12 := he ⟨12, .data⟩ (by simp) rfl
    have e12 : gv 14 = .pointer (some ⟨br, 2, none⟩) := P 12 (by decide) rfl h12
    have h9o := D9 h9
    have hB2 := RS.2 h9o.2.1 off
    have hO5 := h5o.resolve_left off
    obtain ⟨d0, d1⟩ := RdR.at_vs hB2 1 (.slice av i cv) rfl
    have hcz := hB2.set_vs 1 (.slice a5 i1 c5)
    have ho6 := only_set wm br 2 (.slice a5 i1 c5)
    have hLT := HLT.out
    have hO6 := ownsRow_id_low hO5 fun k hk => ho6.block k (by have := (hO5.lt k hk).1; omega)
    rw [e9, e12]
    have HQ := Lib.hid (And.intro P (And.intro Q8 (And.intro Q9 (And.intro RA (And.intro RS (And.intro QB (And.intro QE (And.intro PW (And.intro SZ (And.intro D8 (And.intro D9 D13)))))))))))
    clear P Q8 Q9 RA RS QB QE PW SZ D8 D9 D13
    go_simp
    obtain ⟨P, Q8, Q9, RA, RS, QB, QE, PW, SZ, D8, D9, D13⟩ := HQ.out
    obtain ⟨bk, fw, fn⟩ := on3 (f := f) (i := 13) (by omega)
    exact hKK (upd (upd gv 11 (.slice a5 i1 c5)) 14 (.pointer (some ⟨br, 2, none⟩))) _ (by rw [upd_same e9]; rw [upd_same e12]; exact ⟨trivial, vals_keep (n := 13) (by omega) rfl P, fun x => by obtain ⟨b, e9, hb4⟩ := Q8 (bk 8 (by decide) x); exact ⟨_, e9, .inl (fw 9 h9)⟩, fun x => by obtain ⟨a5, c5, e9, h5o⟩ := Q9 (bk 9 (by decide) x); exact ⟨_, _, e9, .inl fn⟩, fun x => absurd fn x, ⟨fun x => absurd (fw 7 h9o.2.1) x, fun _ z => absurd fn z⟩, fun x => absurd (fw 9 h9) x, fun _ => ⟨a5, c5, hcz, hO6⟩, PW.only ho6, by rw [ho6.size]; exact SZ, fun x => fw 7 (D8 (bk 8 (by decide) x)), fun x => (D9 (bk 9 (by decide) x)).imp (fw 5) (And.imp (fw 7) (fw 8)), fun _ => ⟨fw 5 h9o.1, fw 9 h9, fw 7 h9o.2.1, fw 8 h9o.2.2⟩⟩)
  ·rintro f gv w5 hall hs' ⟨hBx, P, Q8, Q9, RA, RS, QB, QE, PW, SZ, D8, D9, D13⟩
   replace hs' : f.size = 14 := hs'
   have on : ∀ j, j < 14 → On f j := fun j hj => on_all hall hs' j hj
   obtain ⟨av', cv', hz1, hz2⟩ := QE (on 13 (by decide))
   have HF := Lib.hid (HEND.out w5 av' cv' hz1 hz2 PW)
   clear P Q8 Q9 RA QB QE RS PW SZ D8 D9 D13 hBx hall hs' on hD hz1 hz2
   go_wp2_with fail
   go_end0
   exact HF.out
 ·simp only [if_neg h32] at HT
  have HEND := Lib.hid (show ∀ w', PastN w0 w' br → MIdsP w0 br kd cmv i X l (.panicked wrongM) w' from fun w' h => by
   unfold MIdsP
   rw [if_neg h32]
   exact ⟨rfl, h⟩)
  clear h32 hi1
  go_enter Tryz.func64, Tryz.ntmps64
  go_upto_region 0 with fail
  have hD : ∀ j, j < 14 → ∀ n, n < 14 → j ≠ n → dkN [2, 3, 4, 5, 6, 7, 8, 9, 10, 11, 12, 13, 14, 1013] j ≠ dkN [2, 3, 4, 5, 6, 7, 8, 9, 10, 11, 12, 13, 14, 1013] n := by decide +kernel
  refine region_fun (by kernel_rfl) (by kernel_rfl) (fun gv => #[.pointer (some ⟨br, 0, none⟩), gv 1, gv 2, gv 3, gv 4, gv 5, gv 6, gv 7, gv 8, gv 9, gv 10, gv 11, gv 12, gv 13, gv 14]) rfl (fun f gv wx => True ∧ (∀ j, j < 14 → (fun j => Nat.beq j 13) j = false → On f j → gv (dkN [2, 3, 4, 5, 6, 7, 8, 9, 10, 11, 12, 13, 14, 1013] j) = vkN [.pointer (some ⟨br, 0, none⟩), .pointer (some ⟨br, 0, none⟩), .pointer (some ⟨br, 0, none⟩), .pointer (some ⟨br, 1, none⟩), .pointer (some ⟨br, 2, none⟩), .slice av i cv, .pointer (some ⟨br, 0, none⟩), undef, undef, undef, .pointer (some ⟨br, 0, none⟩), .pointer (some ⟨br, 1, none⟩), .pointer (some ⟨br, 2, none⟩), undef] j) ∧ (RdR (fun k => k < w0.heap.size) wx br 67 [kd, .slice av i cv, cmv] (l)) ∧ (PastN w0 wx br) ∧ (¬ On f 7) ∧ (¬ On f 8) ∧ (¬ On f 9)) ?_ ?_ ?_
  ·have hoff : ∀ j, ¬ On (Array.replicate 14 false) j := by
    intro j hj; simp only [On, Array.getD_eq_getD_getElem?, Array.getElem?_replicate] at hj; split at hj <;> simp at hj
   exact ⟨trivial, fun j _ _ x => absurd x (hoff _), HR.out.below (Below.refl _ _).drew, HP.out.step (Below.refl _ _).drew, hoff _, hoff _, hoff _⟩
  ·rintro i' o' f gv wm hio hs' hn he ⟨hBx, P, RS, PW, N7, N8, N9⟩ KK hKK
   have hi' : i' < 14 := (Array.getElem?_eq_some_iff.1 hio).1
   replace hs' : f.size = 14 := hs'
   match i', hi' with
   | 0, _ =>
    cases hio
    have off : ¬ On f 0 := on_off (by omega) hn
    have HQ := Lib.hid (And.intro P (And.intro RS (And.intro PW (And.intro N7 (And.intro N8 N9)))))
    clear P RS PW N7 N8 N9
    go_simp
    obtain ⟨P, RS, PW, N7, N8, N9⟩ := HQ.out
    obtain ⟨bk, fw, fn⟩ := on3 (f := f) (i := 0) (by omega)
    exact hKK (upd gv 2 (.pointer (some ⟨br, 0, none⟩))) _ (by exact ⟨trivial, vals_step (n := 0) (v := .pointer (some ⟨br, 0, none⟩)) hD (by decide) (by omega) P (fun _ => rfl), RS, PW, fun x => N7 (bk 7 (by decide) x), fun x => N8 (bk 8 (by decide) x), fun x => N9 (bk 9 (by decide) x)⟩)
   | 1, _ =>
    cases hio
    have off : ¬ On f 1 := on_off (by omega) hn
    have HQ := Lib.hid (And.intro P (And.intro RS (And.intro PW (And.intro N7 (And.intro N8 N9)))))
    clear P RS PW N7 N8 N9
    go_simp
    obtain ⟨P, RS, PW, N7, N8, N9⟩ := HQ.out
    obtain ⟨bk, fw, fn⟩ := on3 (f := f) (i := 1) (by omega)
    exact hKK (upd gv 3 (.pointer (some ⟨br, 0, none⟩))) _ (by exact ⟨trivial, vals_step (n := 1) (v := .pointer (some ⟨br, 0, none⟩)) hD (by decide) (by omega) P (fun _ => rfl), RS, PW, fun x => N7 (bk 7 (by decide) x), fun x => N8 (bk 8 (by decide) x), fun x => N9 (bk 9 (by decide) x)⟩)
   | 2, _ =>
    cases hio
    have off : ¬ On f 2 := on_off (by omega) hn
    have h1 : On f 1 := he ⟨1, .data⟩ (by simp) rfl
    have e1 : gv 3 = .pointer (some ⟨br, 0, none⟩) := P 1 (by decide) rfl h1
    rw [e1]
    have HQ := Lib.hid (And.intro P (And.intro RS (And.intro PW (And.intro N7 (And.intro N8 N9)))))
    clear P RS PW N7 N8 N9
    go_simp
    obtain ⟨P, RS, PW, N7, N8, N9⟩ := HQ.out
    obtain ⟨bk, fw, fn⟩ := on3 (f := f) (i := 2) (by omega)
    exact hKK (upd (upd gv 3 (.pointer (some ⟨br, 0, none⟩))) 4 (.pointer (some ⟨br, 0, none⟩))) _ (by rw [upd_same e1]; exact ⟨trivial, vals_step (n := 2) (v := .pointer (some ⟨br, 0, none⟩)) hD (by decide) (by omega) P (fun _ => rfl), RS, PW, fun x => N7 (bk 7 (by decide) x), fun x => N8 (bk 8 (by decide) x), fun x => N9 (bk 9 (by decide) x)⟩)
   | 3, _ =>
    cases hio
    have off : ¬ On f 3 := on_off (by omega) hn
    have h2 : On f 2 := he ⟨2, .data⟩ (by simp) rfl
    have e2 : gv 4 = .pointer (some ⟨br, 0, none⟩) := P 2 (by decide) rfl h2
    rw [e2]
    have HQ := Lib.hid (And.intro P (And.intro RS (And.intro PW (And.intro N7 (And.intro N8 N9)))))
    clear P RS PW N7 N8 N9
    go_simp
    obtain ⟨P, RS, PW, N7, N8, N9⟩ := HQ.out
    obtain ⟨bk, fw, fn⟩ := on3 (f := f) (i := 3) (by omega)
    exact hKK (upd (upd gv 4 (.pointer (some ⟨br, 0, none⟩))) 5 (.pointer (some ⟨br, 1, none⟩))) _ (by rw [upd_same e2]; exact ⟨trivial, vals_step (n := 3) (v := .pointer (some ⟨br, 1, none⟩)) hD (by decide) (by omega) P (fun _ => rfl), RS, PW, fun x => N7 (bk 7 (by decide) x), fun x => N8 (bk 8 (by decide) x), fun x => N9 (bk 9 (by decide) x)⟩)
   | 4, _ =>
    cases hio
    have off : ¬ On f 4 := on_off (by omega) hn
    have h3 : On f 3 := he ⟨3, .data⟩ (by simp) rfl
    have e3 : gv 5 = .pointer (some ⟨br, 1, none⟩) := P 3 (by decide) rfl h3
    rw [e3]
    have HQ := Lib.hid (And.intro P (And.intro RS (And.intro PW (And.intro N7 (And.intro N8 N9)))))
    clear P RS PW N7 N8 N9
    go_simp
    obtain ⟨P, RS, PW, N7, N8, N9⟩ := HQ.out
    obtain ⟨bk, fw, fn⟩ := on3 (f := f) (i := 4) (by omega)
    exact hKK (upd (upd gv 5 (.pointer (some ⟨br, 1, none⟩))) 6 (.pointer (some ⟨br, 2, none⟩))) _ (by rw [upd_same e3]; exact ⟨trivial, vals_step (n := 4) (v := .pointer (some ⟨br, 2, none⟩)) hD (by decide) (by omega) P (fun _ => rfl), RS, PW, fun x => N7 (bk 7 (by decide) x), fun x => N8 (bk 8 (by decide) x), fun x => N9 (bk 9 (by decide) x)⟩)
   | 5, _ =>
    cases hio
    have off : ¬ On f 5 := on_off (by omega) hn
    have h4 : On f 4 := he ⟨4, .data⟩ (by simp) rfl
    have e4 : gv 6 = .pointer (some ⟨br, 2, none⟩) := P 4 (by decide) rfl h4
    obtain ⟨d0, _⟩ := RdR.at_vs RS 1 (.slice av i cv) rfl
    rw [e4]
    have HQ := Lib.hid (And.intro P (And.intro RS (And.intro PW (And.intro N7 (And.intro N8 N9)))))
    clear P RS PW N7 N8 N9
    go_simp
    obtain ⟨P, RS, PW, N7, N8, N9⟩ := HQ.out
    obtain ⟨bk, fw, fn⟩ := on3 (f := f) (i := 5) (by omega)
    exact hKK (upd (upd gv 6 (.pointer (some ⟨br, 2, none⟩))) 7 (.slice av i cv)) _ (by rw [upd_same e4]; exact ⟨trivial, vals_step (n := 5) (v := .slice av i cv) hD (by decide) (by omega) P (fun _ => rfl), RS, PW, fun x => N7 (bk 7 (by decide) x), fun x => N8 (bk 8 (by decide) x), fun x => N9 (bk 9 (by decide) x)⟩)
   | 6, _ =>
    cases hio
    have off : ¬ On f 6 := on_off (by omega) hn
    have HQ := Lib.hid (And.intro P (And.intro RS (And.intro PW (And.intro N7 (And.intro N8 N9)))))
    clear P RS PW N7 N8 N9
    go_simp
    obtain ⟨P, RS, PW, N7, N8, N9⟩ := HQ.out
    obtain ⟨bk, fw, fn⟩ := on3 (f := f) (i := 6) (by omega)
    exact hKK (upd gv 8 (.pointer (some ⟨br, 0, none⟩))) _ (by exact ⟨trivial, vals_step (n := 6) (v := .pointer (some ⟨br, 0, none⟩)) hD (by decide) (by omega) P (fun _ => rfl), RS, PW, fun x => N7 (bk 7 (by decide) x), fun x => N8 (bk 8 (by decide) x), fun x => N9 (bk 9 (by decide) x)⟩)
   | 7, _ =>
    cases hio
    have off : ¬ On f 7 := on_off (by omega) hn
    have h6 : On f 6 := he ⟨6, .data⟩ (by simp) rfl
    have e6 : gv 8 = .pointer (some ⟨br, 0, none⟩) := P 6 (by decide) rfl h6
    have hrd := RS
    have hpw := PW
    rw [e6]
    have HQ := Lib.hid (And.intro P (And.intro RS (And.intro PW (And.intro N7 (And.intro N8 N9)))))
    clear P RS PW N7 N8 N9
    go_simp
    refine (HT.out _ _ hrd).mono ?_
    rintro e w6 ⟨rfl, hp6⟩
    have HPF := Lib.hid (hpw.trans hp6)
    clear hrd hpw hp6 HQ
    go_wp2_with fail
    exact ⟨rfl, HEND.out _ HPF.out⟩
   | 8, _ =>
    cases hio
    have off : ¬ On f 8 := on_off (by omega) hn
    have h7 : On f 7 := he ⟨7, .data⟩ (by simp) rfl
    have e7 : gv 9 = undef := P 7 (by decide) rfl h7
    exact absurd h7 N7
   | 9, _ =>
    cases hio
    have off : ¬ On f 9 := on_off (by omega) hn
    have h5 : On f 5 := he ⟨5, .data⟩ (by simp) rfl
    have e5 : gv 7 = .slice av i cv := P 5 (by decide) rfl h5
    have h8 : On f 8 := he ⟨8, .data⟩ (by simp) rfl
    have e8 : gv 10 = undef := P 8 (by decide) rfl h8
    exact absurd h8 N8
   | 10, _ =>
    cases hio
    have off : ¬ On f 10 := on_off (by omega) hn
    have h0 : On f 0 := he ⟨0, .data⟩ (by simp) rfl
    have e0 : gv 2 = .pointer (some ⟨br, 0, none⟩) := P 0 (by decide) rfl h0
    rw [e0]
    have HQ := Lib.hid (And.intro P (And.intro RS (And.intro PW (And.intro N7 (And.intro N8 N9)))))
    clear P RS PW N7 N8 N9
    go_simp
    obtain ⟨P, RS, PW, N7, N8, N9⟩ := HQ.out
    obtain ⟨bk, fw, fn⟩ := on3 (f := f) (i := 10) (by omega)
    exact hKK (upd (upd gv 2 (.pointer (some ⟨br, 0, none⟩))) 12 (.pointer (some ⟨br, 0, none⟩))) _ (by rw [upd_same e0]; exact ⟨trivial, vals_step (n := 10) (v := .pointer (some ⟨br, 0, none⟩)) hD (by decide) (by omega) P (fun _ => rfl), RS, PW, fun x => N7 (bk 7 (by decide) x), fun x => N8 (bk 8 (by decide) x), fun x => N9 (bk 9 (by decide) x)⟩)
   | 11, _ =>
    cases hio
    have off : ¬ On f 11 := on_off (by omega) hn
    have h10 : On f 10 := he ⟨10, .data⟩ (by simp) rfl
    have e10 : gv 12 = .pointer (some ⟨br, 0, none⟩) := P 10 (by decide) rfl h10
    rw [e10]
    have HQ := Lib.hid (And.intro P (And.intro RS (And.intro PW (And.intro N7 (And.intro N8 N9)))))
    clear P RS PW N7 N8 N9
    go_simp
    obtain ⟨P, RS, PW, N7, N8, N9⟩ := HQ.out
    obtain ⟨bk, fw, fn⟩ := on3 (f := f) (i := 11) (by omega)
    exact hKK (upd (upd gv 12 (.pointer (some ⟨br, 0, none⟩))) 13 (.pointer (some ⟨br, 1, none⟩))) _ (by rw [upd_same e10]; exact ⟨trivial, vals_step (n := 11) (v := .pointer (some ⟨br, 1, none⟩)) hD (by decide) (by omega) P (fun _ => rfl), RS, PW, fun x => N7 (bk 7 (by decide) x), fun x => N8 (bk 8 (by decide) x), fun x => N9 (bk 9 (by decide) x)⟩)
   | 12, _ =>
    cases hio
    have off : ¬ On f 12 := on_off (by omega) hn
    have h11 : On f 11 := he ⟨11, .data⟩ (by simp) rfl
    have e11 : gv 13 = .pointer (some ⟨br, 1, none⟩) := P 11 (by decide) rfl h11
    rw [e11]
    have HQ := Lib.hid (And.intro P (And.intro RS (And.intro PW (And.intro N7 (And.intro N8 N9)))))
    clear P RS PW N7 N8 N9
    go_simp
    obtain ⟨P, RS, PW, N7, N8, N9⟩ := HQ.out
    obtain ⟨bk, fw, fn⟩ := on3 (f := f) (i := 12) (by omega)
    exact hKK (upd (upd gv 13 (.pointer (some ⟨br, 1, none⟩))) 14 (.pointer (some ⟨br, 2, none⟩))) _ (by rw [upd_same e11]; exact ⟨trivial, vals_step (n := 12) (v := .pointer (some ⟨br, 2, none⟩)) hD (by decide) (by omega) P (fun _ => rfl), RS, PW, fun x => N7 (bk 7 (by decide) x), fun x => N8 (bk 8 (by decide) x), fun x => N9 (bk 9 (by decide) x)⟩)
   | 13, _ =>
    cases hio
    have off : ¬ On f 13 := on_off (by omega) hn
    have h9 : On f 9 := he ⟨9, .data⟩ (by simp) rfl
    have e9 : gv 11 = undef := P 9 (by decide) rfl h9
    have h12 : On f 12 := he ⟨12, .data⟩ (by simp) rfl
    have e12 : gv 14 = .pointer (some ⟨br, 2, none⟩) := P 12 (by decide) rfl h12
    exact absurd h9 N9
  ·rintro f gv w5 hall hs' ⟨hBx, P, RS, PW, N7, N8, N9⟩
   replace hs' : f.size = 14 := hs'
   have on : ∀ j, j < 14 → On f j := fun j hj => on_all hall hs' j hj
   exact absurd (on 7 (by decide)) N7
end Go.Proofs.YtofadpodlaakbaaGreat
