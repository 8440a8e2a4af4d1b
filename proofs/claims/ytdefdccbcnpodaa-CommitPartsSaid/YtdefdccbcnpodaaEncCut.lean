/- The walks of Cut, of the layer enc and of its reference. -/
import Derived.Test.YtdefdccbcnpodaaEncText
namespace Go.Proofs.Ytdefdccbcnpodaa
open Go.ChangeShapes Go.WideShapes Go.ChangeAt Go.RowKit
set_option linter.unusedVariables false

/-- Do bytes begin with a text, of so many bytes at most? -/
def cutIs (l : List UInt8) (most : Int) : Bool := decide (¬ ((getL l).2 = 0 ∨ most < 0 ∨ most < ((getL l).1 : Int) ∨ ((l.length : Int) - (getL l).2 < (getL l).1)))
/-- The text. -/
def cutT (l : List UInt8) (most : Int) : List UInt8 := if cutIs l most = true then (l.drop (getL l).2).take (getL l).1 else []
/-- What stands behind it. -/
def cutR (l : List UInt8) (most : Int) : List UInt8 := if cutIs l most = true then (l.drop (getL l).2).drop (getL l).1 else []
/-- What Cut hands back. -/
def CutP (l : List UInt8) (most : Int) (w : World) (e : Ending) (w' : World) : Prop :=
  ∃ v, e = .returned (.tuple #[.string ⟨(cutT l most).toArray⟩, v, .bool (cutIs l most)]) ∧ w'.ownsRow w.heap.size 5 1 v (cutR l most).length ((cutR l most).map B) ∧ Below w.heap.size w w'

theorem cutP_none {l : List UInt8} {most : Int} {w w' : World} (h : cutIs l most = false) (hb : Below w.heap.size w w') : CutP l most w (.returned (.tuple #[.string ⟨#[]⟩, .slice none 0 0, .bool false])) w' := by
  refine ⟨.slice none 0 0, ?_, ?_, hb⟩
  · unfold cutT; rw [h]; rfl
  · unfold cutR; rw [h]; exact World.ownsRow_nil _ _ _ _

set_option maxHeartbeats 1000000 in
theorem cut_none (a : Option Addr) (n c : Nat) (l : List UInt8) (most : Int) (w : World) (hr : Rd w a n c l) (hn : n ≤ 140737488351232) (m0 : -9223372036854775808 ≤ most) (m1 : most ≤ 9223372036854775807) (h : cutIs l most = false) :
    Calls Try.prog 89 #[.slice a n c, .int .i64 most] w (CutP l most w) := by
  have hd : (getL l).2 = 0 ∨ most < 0 ∨ most < ((getL l).1 : Int) ∨ ((l.length : Int) - (getL l).2 < (getL l).1) := by
    exact Classical.not_not.1 (of_decide_eq_false h)
  have hg := get_any a n c l w hr hn
  have hlt := getL_lt l
  have h10 := getL_le10 l
  have hle := getL_le l
  have hl := hr.len
  have HC := Lib.hid h; clear h
  rw [hl] at hd hle
  have HL := Lib.hid hl; clear hl
  generalize (getL l).1 = g1 at *
  generalize (getL l).2 = g2 at *
  have HG := Lib.hid hg; clear hg hr
  have hd' : g2 = 0 ∨ (¬ g2 = 0 ∧ most < 0) ∨ (¬ g2 = 0 ∧ 0 ≤ most ∧ most < (g1 : Int)) ∨ (¬ g2 = 0 ∧ 0 ≤ most ∧ (g1 : Int) ≤ most ∧ (n : Int) - g2 < g1) := by omega
  clear hd
  rcases hd' with h | ⟨h, h2⟩ | ⟨h, h2, h3⟩ | ⟨h, h2, h3, h4⟩
  · subst h
    go_enter Try.func89, Try.ntmps89
    go_wp2_with fail
    refine (HG.out).mono ?_
    rintro e w1 ⟨rfl, rfl⟩
    go_wp2
    go_ret3
    exact cutP_none HC.out (Below.refl _ _)
  all_goals
    have hz : ((g2 : Int) == 0) = false := by simp; omega
    go_enter Try.func89, Try.ntmps89
    go_wp2_with fail
    refine (HG.out).mono ?_
    rintro e w1 ⟨rfl, rfl⟩
    go_wp2
    go_ret3
    exact cutP_none HC.out (Below.refl _ _)
set_option maxHeartbeats 1000000 in
theorem cut_ref_none (a : Option Addr) (n c : Nat) (l : List UInt8) (most : Int) (w : World) (hr : Rd w a n c l) (hn : n ≤ 140737488351232) (m0 : -9223372036854775808 ≤ most) (m1 : most ≤ 9223372036854775807) (h : cutIs l most = false) :
    Calls Try.prog 73 #[.slice a n c, .int .i64 most] w (CutP l most w) := by
  have hd : (getL l).2 = 0 ∨ most < 0 ∨ most < ((getL l).1 : Int) ∨ ((l.length : Int) - (getL l).2 < (getL l).1) := by
    exact Classical.not_not.1 (of_decide_eq_false h)
  have hg := get_ref a n c l w hr hn
  have hlt := getL_lt l
  have h10 := getL_le10 l
  have hle := getL_le l
  have hl := hr.len
  have HC := Lib.hid h; clear h
  rw [hl] at hd hle
  have HL := Lib.hid hl; clear hl
  generalize (getL l).1 = g1 at *
  generalize (getL l).2 = g2 at *
  have HG := Lib.hid hg; clear hg hr
  have hd' : g2 = 0 ∨ (¬ g2 = 0 ∧ most < 0) ∨ (¬ g2 = 0 ∧ 0 ≤ most ∧ most < (g1 : Int)) ∨ (¬ g2 = 0 ∧ 0 ≤ most ∧ (g1 : Int) ≤ most ∧ (n : Int) - g2 < g1) := by omega
  clear hd
  rcases hd' with h | ⟨h, h2⟩ | ⟨h, h2, h3⟩ | ⟨h, h2, h3, h4⟩
  · subst h
    go_enter Try.func73, Try.ntmps73
    go_wp2_with fail
    refine (HG.out).mono ?_
    rintro e w1 ⟨rfl, hb⟩
    go_wp2
    go_ret3
    exact cutP_none HC.out hb
  all_goals
    have hz : ((g2 : Int) == 0) = false := by simp; omega
    go_enter Try.func73, Try.ntmps73
    go_wp2_with fail
    refine (HG.out).mono ?_
    rintro e w1 ⟨rfl, hb⟩
    go_wp2
    go_ret3
    exact cutP_none HC.out hb

theorem cut_parts {l : List UInt8} {most : Int} (h : cutIs l most = true) : (getL l).2 ≠ 0 ∧ 0 ≤ most ∧ ((getL l).1 : Int) ≤ most ∧ (getL l).2 + (getL l).1 ≤ l.length := by
  have hle := getL_le l
  have := of_decide_eq_true h
  omega

set_option maxRecDepth 100000 in
set_option maxHeartbeats 2000000 in
theorem cut_some (b off n c : Nat) (l : List UInt8) (most : Int) (w : World) (hr : Rd w (some ⟨b, off, none⟩) n c l) (hn : n ≤ 140737488351232) (m0 : -9223372036854775808 ≤ most) (m1 : most ≤ 9223372036854775807) (h : cutIs l most = true) :
    Calls Try.prog 89 #[.slice (some ⟨b, off, none⟩) n c, .int .i64 most] w (CutP l most w) := by
  obtain ⟨h1, h2, h3, h4⟩ := cut_parts h
  have hg := get_any _ n c l w hr hn
  have h10 := getL_le10 l
  have hT : cutT l most = (l.drop (getL l).2).take (getL l).1 := by unfold cutT; rw [if_pos h]
  have hR : cutR l most = (l.drop (getL l).2).drop (getL l).1 := by unfold cutR; rw [if_pos h]
  rw [hr.len] at h4
  have hnc := hr.le
  have hcap := hr.cap
  have hl := hr.len
  generalize (getL l).1 = g1 at *
  generalize (getL l).2 = g2 at *
  have hz : ((g2 : Int) == 0) = false := by simp; omega
  have hg1 : ((g1 : Nat) : Int) ≤ (n : Int) - g2 := by omega
  have HC := Lib.hid h; clear h
  have HG := Lib.hid hg; clear hg
  have et : l.take n = l := List.take_of_length_le (by omega)
  have et2 : (l.drop g2).take (n - g2) = l.drop g2 := List.take_of_length_le (by simp; omega)
  have e1 : ((l.take n).drop g2).take g1 = cutT l most := by rw [hT, et]
  have e2 : (((l.take n).drop g2).take (n - g2)).drop g1 = cutR l most := by rw [hR, et, et2]
  clear et et2
  have hall : g2 < c ∧ g1 < c - g2 ∨ g2 < c ∧ c - g2 = g1 ∧ n = c ∨ c = g2 ∧ n = g2 ∧ g1 = 0 := by omega
  rcases hall with ⟨k1, k2⟩ | ⟨k1, k2, k3⟩ | ⟨k1, k2, k3⟩
  · have hq := hr.part g2 n (by omega) (Nat.le_refl _)
    have hp1 := hq.front g1 (by omega)
    have hp2 := hq.part g1 (n - g2) (by omega) (Nat.le_refl _)
    rw [e1] at hp1
    rw [e2] at hp2
    have HS := Lib.hid (fun (W : World) (hW : Below w.heap.size w W) => (hp1.below hW).str (P := Try.prog) 31 5 9 Try.underlying31 Try.underlying5 Try.underlying9)
    have HK := Lib.hid (fun (W : World) (hW : Below w.heap.size w W) => clone_any _ _ _ _ W (hp2.below hW) (fun h => by cases h) (by omega))
    clear hp1 hp2 e1 e2 hq hT hR hr hl
    go_enter Try.func89, Try.ntmps89
    go_wp2_with fail
    refine (HG.out).mono ?_
    rintro e w1 ⟨rfl, rfl⟩
    go_wp2
    have hs0 := HS.out w.drew (Below.refl _ _).drew
    unfold S at hs0
    go_region_with ((go_at_call 43; refine (HK.out _ (Below.drew (Below.refl _ _))).mono ?_; rintro e w1 ⟨v, rfl, hown, hb⟩; have hs2 := HS.out w1 (Below.step ((Below.refl _ w).drew) hb); unfold S at hs2))
    all_goals
      go_wp2
      go_ret3
      exact ⟨v, by rw [HC.out]; rfl, hown, Below.step ((Below.refl _ w).drew) hb⟩
  · have hq := hr.part g2 n (by omega) (Nat.le_refl _)
    have hp1 := hq.front g1 (by omega)
    rw [e1] at hp1
    have hR0 : cutR l most = [] := by rw [hR]; exact List.drop_eq_nil_of_le (by simp; omega)
    have HS := Lib.hid (fun (W : World) (hW : Below w.heap.size w W) => (hp1.below hW).str (P := Try.prog) 31 5 9 Try.underlying31 Try.underlying5 Try.underlying9)
    have HK := Lib.hid (fun (W : World) (a : Addr) => clone_any (some a) 0 0 [] W (Rd.zero _ _ _ (by decide)) (fun h => by cases h) (by decide))
    have HR0 := Lib.hid hR0
    clear hp1 e1 e2 hq hT hR hr hl hR0
    obtain rfl : g1 = c - g2 := k2.symm
    obtain rfl : n = c := k3
    have z1 : n - g2 - (n - g2) = 0 := Nat.sub_self _
    go_enter Try.func89, Try.ntmps89
    go_wp2_with fail
    refine (HG.out).mono ?_
    rintro e w1 ⟨rfl, rfl⟩
    go_wp2
    have hs0 := HS.out w.drew (Below.refl _ _).drew
    unfold S at hs0
    go_region_with ((go_at_call 43; refine (HK.out _ _).mono ?_; rintro e w1 ⟨v, rfl, hown, hb⟩; have hs2 := HS.out w1 (Below.step ((Below.refl _ w).drew) hb); unfold S at hs2))
    all_goals
      go_wp2
      go_ret3
      exact ⟨v, by rw [HC.out]; rfl, by rw [HR0.out]; exact hown, Below.step ((Below.refl _ w).drew) hb⟩
  · have hT0 : cutT l most = [] := by rw [hT, k3]; rfl
    have hR0 : cutR l most = [] := by rw [hR]; exact List.drop_eq_nil_of_le (by simp; omega)
    have HS := Lib.hid (fun (W : World) => (Rd.zero W (some ⟨b, off, none⟩) 0 (by decide)).str (P := Try.prog) 31 5 9 Try.underlying31 Try.underlying5 Try.underlying9)
    have HK := Lib.hid (fun (W : World) (a : Addr) => clone_any (some a) 0 0 [] W (Rd.zero _ _ _ (by decide)) (fun h => by cases h) (by decide))
    have HR0 := Lib.hid hR0
    have HT0 := Lib.hid hT0
    clear e1 e2 hT hR hr hl hR0 hT0
    subst k3
    subst k1
    subst k2
    go_enter Try.func89, Try.ntmps89
    go_wp2_with fail
    refine (HG.out).mono ?_
    rintro e w1 ⟨rfl, rfl⟩
    go_wp2
    have hs0 := HS.out w.drew
    unfold S at hs0
    go_region_with ((go_at_call 43; refine (HK.out _ _).mono ?_; rintro e w1 ⟨v, rfl, hown, hb⟩; have hs2 := HS.out w1; unfold S at hs2))
    all_goals
      go_wp2
      go_ret3
      exact ⟨v, by rw [HC.out, HT0.out]; rfl, by rw [HR0.out]; exact hown, Below.step ((Below.refl _ w).drew) hb⟩
end Go.Proofs.Ytdefdccbcnpodaa
