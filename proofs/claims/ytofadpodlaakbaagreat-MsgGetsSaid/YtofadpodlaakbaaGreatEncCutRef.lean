/- The walk of Cut of the layer enc's reference, where there is a text; both functions' answers at every input. -/
import Derived.Test.YtofadpodlaakbaaGreatJ1
import Derived.Deep.RegionLaw
namespace Go.Proofs.YtofadpodlaakbaaGreat
open Go.ChangeShapes Go.WideShapes Go.ChangeAt Go.RowKit
set_option linter.unusedVariables false
set_option maxRecDepth 100000 in
set_option maxHeartbeats 2000000 in
theorem cut_ref_some (b off n c : Nat) (l : List UInt8) (most : Int) (w : World) (hr : Rd w (some ⟨b, off, none⟩) n c l) (hn : n ≤ 140737488351232) (m0 : -9223372036854775808 ≤ most) (m1 : most ≤ 9223372036854775807) (h : cutIs l most = true) :
  Calls Tryz.prog 45 #[.slice (some ⟨b, off, none⟩) n c, .int .i64 most] w (CutP l most w) := by
 obtain ⟨i0, hi, hz0, hz1, hz2⟩ := info_parts info_u8
 obtain ⟨h1, h2, h3, h4⟩ := cut_parts h
 have hg := get_ref _ n c l w hr hn
 have h10 := getL_le10 l
 have hT : cutT l most = (l.drop (getL l).2).take (getL l).1 := by unfold cutT; rw [if_pos h]
 have hR : cutR l most = (l.drop (getL l).2).drop (getL l).1 := by unfold cutR; rw [if_pos h]
 rw [hr.len] at h4
 have hnc := hr.le
 have hcap := hr.cap
 have hl := hr.len
 generalize (getL l).1 = g1 at *
 generalize (getL l).2 = g2 at *
 have hz : ((g2 : Int) == 0) = false := by simp; omega
 have hg1 : ((g1 : Nat) : Int) ≤ (n : Int) - g2 := by omega
 have HC := Lib.hid h; clear h
 have HG := Lib.hid hg; clear hg
 have et : l.take n = l := List.take_of_length_le (by omega)
 obtain ⟨ge, hge⟩ : ∃ ge : Nat, ge = g2 + g1 := ⟨_, rfl⟩
 have hsum : (g2 : Int) + (g1 : Int) = (ge : Int) := by omega
 have e1 : (l.take ge).drop g2 = cutT l most := by rw [hT, hge, List.drop_take]; congr 1; omega
 have e2 : (l.take n).drop ge = cutR l most := by rw [hR, et, List.drop_drop, hge]
 have hg2ge : g2 ≤ ge := by omega
 have hgen : ge ≤ n := by omega
 have hall : g2 < c ∧ ge < c ∨ g2 < c ∧ c = ge ∧ n = ge ∨ c = g2 ∧ n = g2 ∧ ge = g2 := by omega
 have hlr : (cutR l most).length = n - ge := by rw [← e2, et, List.length_drop, hl]
 have HLR := Lib.hid hlr
 have HLT : Hid (g1 = ge - g2) := by show g1 = ge - g2; omega
 clear et hT hR hl hge hlr
 rcases hall with ⟨k1, k2⟩ | ⟨k1, k2, k3⟩ | ⟨k1, k2, k3⟩
 ·have hp1 := hr.part g2 ge (by omega) (by omega)
  have hp2 := hr.part ge n (by omega) (Nat.le_refl _)
  rw [e1] at hp1
  rw [e2] at hp2
  have HS := Lib.hid (fun (W : World) (hW : Below w.heap.size w W) => (hp1.below hW).str (P := Tryz.prog) 28 5 9 Tryz.underlying28 Tryz.underlying5 Tryz.underlying9)
  have HP := Lib.hid hp2
  clear hp1 hp2 e1 e2 hr
  go_enter Tryz.func45, Tryz.ntmps45
  go_wp2_with fail
  refine (HG.out).mono ?_
  rintro e w1 ⟨rfl, hb1⟩
  go_wp2
  have hs0 := HS.out w1.drew hb1.drew
  unfold S at hs0
  have j1 : ge ≤ c := by omega
  have j2 : ¬ c = g2 := by omega
  have j3 : ¬ c = ge := by omega
  go_region_law ((refine step_app (ad := some ⟨b, off + ge, none⟩) (m := n - ge) (c := c - ge) rfl _ _ _ rfl Tryz.underlying28 hi hz0 hz1 hz2 rfl w.heap.size rfl (World.ownsRow_nil _ _ _ _) (by go_simp) (HP.out.below hb1.drew) (fun h => by cases h) (by omega) hb1.drew.size ?_; intro v' w2 hown' hgrow; have hb2 := hb1.drew.grown hgrow hb1.drew.size (fun k hk => by cases hk); have hs2 := HS.out w2 hb2; unfold S at hs2))
  all_goals
   go_wp2
   go_ret3
   refine ⟨v', by rw [HC.out]; rfl, ?_, hb2⟩
   rw [HLR.out]; simpa using hown'
 ·have hp1 := hr.part g2 ge (by omega) (by omega)
  rw [e1] at hp1
  have hR0 : cutR l most = [] := by rw [← e2]; exact List.drop_eq_nil_of_le (by simp; omega)
  have HR0 := Lib.hid hR0
  have HS := Lib.hid (fun (W : World) (hW : Below w.heap.size w W) => (hp1.below hW).str (P := Tryz.prog) 28 5 9 Tryz.underlying28 Tryz.underlying5 Tryz.underlying9)
  clear hp1 e1 e2 hr hR0
  subst k2
  subst k3
  go_enter Tryz.func45, Tryz.ntmps45
  go_wp2_with fail
  refine (HG.out).mono ?_
  rintro e w1 ⟨rfl, hb1⟩
  go_wp2
  have hs0 := HS.out w1.drew hb1.drew
  unfold S at hs0
  have j2 : ¬ n = g2 := by omega
  go_region_law ((refine step_app (ad := some ⟨b, off, none⟩) (m := 0) (c := 0) rfl _ _ _ rfl Tryz.underlying28 hi hz0 hz1 hz2 rfl w.heap.size rfl (World.ownsRow_nil _ _ _ _) (by go_simp) (Rd.zero _ _ _ (by decide)) (fun h => by cases h) (by decide) hb1.drew.size ?_; intro v' w2 hown' hgrow; have hb2 := hb1.drew.grown hgrow hb1.drew.size (fun k hk => by cases hk); have hs2 := HS.out w2 hb2; unfold S at hs2))
  all_goals
   go_wp2
   go_ret3
   refine ⟨v', by rw [HC.out]; rfl, ?_, hb2⟩
   rw [HR0.out]; simpa using hown'
 ·have hR0 : cutR l most = [] := by rw [← e2]; exact List.drop_eq_nil_of_le (by simp; omega)
  have hT0 : cutT l most = [] := by rw [← e1]; exact List.drop_eq_nil_of_le (by simp; omega)
  have HR0 := Lib.hid hR0
  have HT0 := Lib.hid hT0
  have HS := Lib.hid (fun (W : World) => (Rd.zero W (some ⟨b, off, none⟩) 0 (by decide)).str (P := Tryz.prog) 28 5 9 Tryz.underlying28 Tryz.underlying5 Tryz.underlying9)
  clear e1 e2 hr hR0 hT0
  subst k3
  subst k1
  subst k2
  go_enter Tryz.func45, Tryz.ntmps45
  go_wp2_with fail
  refine (HG.out).mono ?_
  rintro e w1 ⟨rfl, hb1⟩
  go_wp2
  have hs0 := HS.out w1.drew
  unfold S at hs0
  go_region_law ((refine step_app (ad := some ⟨b, off, none⟩) (m := 0) (c := 0) rfl _ _ _ rfl Tryz.underlying28 hi hz0 hz1 hz2 rfl w.heap.size rfl (World.ownsRow_nil _ _ _ _) (by go_simp) (Rd.zero _ _ _ (by decide)) (fun h => by cases h) (by decide) hb1.drew.size ?_; intro v' w2 hown' hgrow; have hb2 := hb1.drew.grown hgrow hb1.drew.size (fun k hk => by cases hk); have hs2 := HS.out w2; unfold S at hs2))
  all_goals
   go_wp2
   go_ret3
   refine ⟨v', by rw [HC.out, HT0.out]; rfl, ?_, hb2⟩
   rw [HR0.out]; simpa using hown'
theorem cut_any (a : Option Addr) (n c : Nat) (l : List UInt8) (most : Int) (w : World) (hr : Rd w a n c l) (hn : n ≤ 140737488351232) (m0 : -9223372036854775808 ≤ most) (m1 : most ≤ 9223372036854775807) :
  Calls Tryz.prog 87 #[.slice a n c, .int .i64 most] w (CutP l most w) := by
 cases h : cutIs l most with
 | false => exact cut_none a n c l most w hr hn m0 m1 h
 | true =>
  have := cut_parts h
  rcases hr.cells with h0 | ⟨b, off, rfl, _, _⟩
  ·have := hr.len; omega
  ·exact cut_some b off n c l most w hr hn m0 m1 h
theorem cut_ref (a : Option Addr) (n c : Nat) (l : List UInt8) (most : Int) (w : World) (hr : Rd w a n c l) (hn : n ≤ 140737488351232) (m0 : -9223372036854775808 ≤ most) (m1 : most ≤ 9223372036854775807) :
  Calls Tryz.prog 45 #[.slice a n c, .int .i64 most] w (CutP l most w) := by
 cases h : cutIs l most with
 | false => exact cut_ref_none a n c l most w hr hn m0 m1 h
 | true =>
  have := cut_parts h
  rcases hr.cells with h0 | ⟨b, off, rfl, _, _⟩
  ·have := hr.len; omega
  ·exact cut_ref_some b off n c l most w hr hn m0 m1 h
end Go.Proofs.YtofadpodlaakbaaGreat
