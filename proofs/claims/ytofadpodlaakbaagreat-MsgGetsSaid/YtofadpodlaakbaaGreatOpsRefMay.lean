/- The walks of the reference's May and Put of the layer ops. -/
import Derived.Test.YtofadpodlaakbaaGreatOpsEq
namespace Go.Proofs.YtofadpodlaakbaaGreat
open Go.ChangeShapes Go.WideShapes Go.ChangeAt Go.RowKit
set_option linter.unusedVariables false
set_option maxRecDepth 100000 in
set_option maxHeartbeats 2000000 in
theorem may_ref (k n : Int) (key elem : List UInt8) (w : World) (hl1 : key.length ≤ 9223372036854775807) (hl2 : elem.length ≤ 9223372036854775807) : Calls Tryz.prog 58 #[.agg #[.int .i64 k, .string ⟨key.toArray⟩, .string ⟨elem.toArray⟩, .int .i64 n]] w fun e w' => e = .returned (.bool (mayB ⟨k, key, elem, n⟩)) ∧ Below w.heap.size w w' := by
 obtain ⟨s1, hs1⟩ : ∃ s : ByteArray, s = ⟨key.toArray⟩ := ⟨_, rfl⟩
 obtain ⟨s2, hs2⟩ : ∃ s : ByteArray, s = ⟨elem.toArray⟩ := ⟨_, rfl⟩
 obtain ⟨kb, hkb⟩ : ∃ b, b = keyB key := ⟨_, rfl⟩
 obtain ⟨eb, heb⟩ : ∃ b, b = keyB elem := ⟨_, rfl⟩
 have HK := Lib.hid (fun w' => show Calls Tryz.prog 82 #[.string s1] w' (fun e w'' => e = .returned (.bool kb) ∧ w'' = w') by rw [hs1, hkb]; exact key_ref key w' hl1)
 have HE := Lib.hid (fun w' => show Calls Tryz.prog 82 #[.string s2] w' (fun e w'' => e = .returned (.bool eb) ∧ w'' = w') by rw [hs2, heb]; exact key_ref elem w' hl2)
 have HM := Lib.hid (show mayB ⟨k, key, elem, n⟩ = (inB k && kb && (if k = 0 then cntB ⟨k, key, elem, n⟩ else (decide (n = 0) && eb))) by rw [hkb, heb]; rfl)
 have HS := Lib.hid (show s1 = ⟨key.toArray⟩ ∧ s2 = ⟨elem.toArray⟩ from ⟨hs1, hs2⟩)
 rw [← hs1, ← hs2]
 clear hs1 hs2 hkb heb
 go_enter Tryz.func58, Tryz.ntmps58
 go_upto_region 1 with fail
 generalize hw1 : w.alloc _ = w1
 have HB := Lib.hid (show Below w.heap.size w w1 by rw [← hw1]; exact (Below.refl _ _).alloc (Nat.le_refl _) _)
 obtain ⟨b0, hb0⟩ : ∃ b0, b0 = w.heap.size := ⟨_, rfl⟩
 rw [← hb0]
 have d0 : w1.cell? ⟨b0, 0, none⟩ = some (.int .i64 k) := by rw [← hw1, hb0]; exact new_cell rfl
 have d1 : w1.cell? ⟨b0, 1, none⟩ = some (.string s1) := by rw [← hw1, hb0]; exact new_cell rfl
 have d2 : w1.cell? ⟨b0, 2, none⟩ = some (.string s2) := by rw [← hw1, hb0]; exact new_cell rfl
 have d3 : w1.cell? ⟨b0, 3, none⟩ = some (.int .i64 n) := by rw [← hw1, hb0]; exact new_cell rfl
 clear hw1 hb0
 go_wp2_with fail
 refine (HK.out _).mono ?_
 rintro e w' ⟨rfl, rfl⟩
 go_wp2_with fail
 refine (HE.out _).mono ?_
 rintro e w' ⟨rfl, rfl⟩
 cases kb with
 | false =>
  go_wp2_with fail
  go_ret
  exact ⟨retb (by rw [HM.out]; simp), HB.out⟩
 | true =>
  by_cases h0 : k = 0
  ·subst h0
   have HM2 := Lib.hid (show mayB ⟨0, key, elem, n⟩ = cntB ⟨0, key, elem, n⟩ from HM.out.trans (by simp [inB]))
   by_cases g1 : -1048576 ≤ n
   case neg =>
    go_wp2_with fail
    go_ret
    exact ⟨retb (by rw [HM2.out]; simp [cntB]; intros; omega), HB.out⟩
   by_cases g2 : n ≤ 1048576
   case neg =>
    go_wp2_with fail
    go_ret
    exact ⟨retb (by rw [HM2.out]; simp [cntB]; intros; omega), HB.out⟩
   by_cases g3 : n = 0
   ·subst g3
    go_wp2_with fail
    go_ret
    exact ⟨retb (by rw [HM2.out]; simp [cntB]), HB.out⟩
   have g3' : (n != 0) = true := by simpa using g3
   by_cases g4 : elem = []
   ·have he : s2.toList.isEmpty = true := by rw [HS.out.2]; exact empty_is g4
    have HM3 := Lib.hid (show cntB ⟨0, key, elem, n⟩ = true by simp [cntB, g1, g2, g3, g4])
    clear g3 g4
    go_wp2_with fail
    go_ret
    exact ⟨retb (by rw [HM2.out, HM3.out]), HB.out⟩
   ·have he : s2.toList.isEmpty = false := by rw [HS.out.2]; exact empty_isnt g4
    have HM3 := Lib.hid (show cntB ⟨0, key, elem, n⟩ = false by simp [cntB, g4])
    clear g3 g4
    go_wp2_with fail
    go_ret
    exact ⟨retb (by rw [HM2.out, HM3.out]), HB.out⟩
  by_cases hk : k = 1 ∨ k = 2 ∨ k = 3
  case neg =>
   have h1 : (k == 1) = false := by simp; omega
   have h2 : (k == 2) = false := by simp; omega
   have h3 : (k == 3) = false := by simp; omega
   have h0' : (k == 0) = false := by simp; omega
   have HM2 := Lib.hid (show mayB ⟨k, key, elem, n⟩ = false from HM.out.trans (by
    have : inB k = false := by simp [inB]; omega
    rw [this]; rfl))
   clear h0 hk
   go_wp2_with fail
   go_ret
   exact ⟨retb (by rw [HM2.out]), HB.out⟩
  have HM2 := Lib.hid (show mayB ⟨k, key, elem, n⟩ = (decide (n = 0) && eb) from HM.out.trans (by
   have : inB k = true := by simp [inB]; omega
   rw [this, if_neg h0]; rfl))
  have h0' : (k == 0) = false := by simp; omega
  clear h0
  by_cases g : n = 0
  ·subst g
   have HM3 := Lib.hid (show mayB ⟨k, key, elem, 0⟩ = eb from HM2.out.trans (by simp))
   rcases hk with rfl | rfl | rfl
   ·cases eb with
    | false =>
     go_wp2_with fail
     go_ret
     exact ⟨retb (by rw [HM3.out]), HB.out⟩
    | true =>
     go_wp2_with fail
     go_ret
     exact ⟨retb (by rw [HM3.out]), HB.out⟩
   ·cases eb with
    | false =>
     go_wp2_with fail
     go_ret
     exact ⟨retb (by rw [HM3.out]), HB.out⟩
    | true =>
     go_wp2_with fail
     go_ret
     exact ⟨retb (by rw [HM3.out]), HB.out⟩
   ·cases eb with
    | false =>
     go_wp2_with fail
     go_ret
     exact ⟨retb (by rw [HM3.out]), HB.out⟩
    | true =>
     go_wp2_with fail
     go_ret
     exact ⟨retb (by rw [HM3.out]), HB.out⟩
  ·have g' : (n == 0) = false := by simpa using g
   have HM3 := Lib.hid (show mayB ⟨k, key, elem, n⟩ = false from HM2.out.trans (by simp [g]))
   clear g
   rcases hk with rfl | rfl | rfl
   ·cases eb with
    | false =>
     go_wp2_with fail
     go_ret
     exact ⟨retb (by rw [HM3.out]), HB.out⟩
    | true =>
     go_wp2_with fail
     go_ret
     exact ⟨retb (by rw [HM3.out]), HB.out⟩
   ·cases eb with
    | false =>
     go_wp2_with fail
     go_ret
     exact ⟨retb (by rw [HM3.out]), HB.out⟩
    | true =>
     go_wp2_with fail
     go_ret
     exact ⟨retb (by rw [HM3.out]), HB.out⟩
   ·cases eb with
    | false =>
     go_wp2_with fail
     go_ret
     exact ⟨retb (by rw [HM3.out]), HB.out⟩
    | true =>
     go_wp2_with fail
     go_ret
     exact ⟨retb (by rw [HM3.out]), HB.out⟩
end Go.Proofs.YtofadpodlaakbaaGreat
