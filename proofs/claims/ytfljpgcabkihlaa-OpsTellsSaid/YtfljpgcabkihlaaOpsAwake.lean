/- The chapter's example of the layer ops. -/
import Derived.Test.YtfljpgcabkihlaaOpsGet
namespace Go.Proofs.Ytfljpgcabkihlaa
open Go.ChangeShapes Go.WideShapes Go.ChangeAt Go.RowKit
set_option linter.unusedVariables false

theorem put_one : mayB ⟨0, [97], [], -1⟩ = true ∧ putO ⟨0, [97], [], -1⟩ = [0, 1, 97, 1] := by decide +kernel
theorem get_one : getO [2, 1, 97, 1, 98, 9] = some (⟨2, [97], [98], 0⟩, [9]) := by decide +kernel
theorem may_one : mayB ⟨2, [97], [98], 0⟩ = true := by decide +kernel
theorem key_one : keyB [97, 48] = true := by decide +kernel

set_option maxRecDepth 100000 in
set_option maxHeartbeats 4000000 in
theorem awake05 (w : World) : Calls Try.prog 8 #[] w fun e w' => e = .returned (.bool true) ∧ Below w.heap.size w w' := by
  have HP := Lib.hid (fun w' => put_any 0 (-1) [97] [] w' (by decide) (by decide))
  have HG := Lib.hid (fun w' a c (hr : Rd w' a 6 c [2, 1, 97, 1, 98, 9]) (hac : a = none → c = 0) => opget_any a 6 c [2, 1, 97, 1, 98, 9] w' hr hac (by decide))
  have HM := Lib.hid (fun w' => may_any 2 0 [97] [98] w' (by decide) (by decide))
  have HK := Lib.hid (fun w' => key_any [97, 48] w' (by decide))
  unfold PutP at HP
  unfold GetP at HG
  simp only [put_one.1, put_one.2, if_true] at HP
  simp only [get_one, Opn.val] at HG
  simp only [may_one] at HM
  simp only [key_one] at HK
  go_enter Try.func8, Try.ntmps8
  go_wp2_with fail
  refine (HP.out _).mono ?_
  rintro e w1 ⟨a1, c1, rfl, hr1, _, hb⟩
  have HB1 := Lib.hid hb
  have HR1 := Lib.hid hr1
  clear hb hr1
  go_wp2_with fail
  generalize hw2 : w1.alloc (.cells _ _) = w2
  have hr2 : Rd w2 (some ⟨w1.heap.size, 0, none⟩) 6 6 [2, 1, 97, 1, 98, 9] := by rw [← hw2]; exact Rd.made w1 [2, 1, 97, 1, 98, 9] _ (by decide)
  have hb12 : Below w1.heap.size w1 w2 := by rw [← hw2]; exact (Below.refl _ _).alloc (Nat.le_refl _) _
  have HB2 := Lib.hid (HB1.out.step hb12)
  have HR2 := Lib.hid (HR1.out.below hb12)
  have HX := Lib.hid hr2
  clear hw2 hr2 hb12
  refine (HG.out _ _ _ HX.out (by intro h; cases h)).mono ?_
  rintro e w3 ⟨a3, c3, rfl, _, _, hb⟩
  have HB3 := Lib.hid (HB2.out.step hb)
  have HR3 := Lib.hid (HR2.out.below hb)
  clear hb HX
  go_upto_region 3 with fail
  generalize hw4 : w3.alloc (.cells _ _) = w4
  have hb34 : Below w3.heap.size w3 w4 := by rw [← hw4]; exact (Below.refl _ _).alloc (Nat.le_refl _) _
  obtain ⟨b4, hb4⟩ : ∃ b4, b4 = w3.heap.size := ⟨_, rfl⟩
  have q0 : w4.cell? ⟨b4, 0, none⟩ = some (.int .i64 2) := by rw [← hw4, hb4]; exact new_cell rfl
  have q1 : w4.cell? ⟨b4, 1, none⟩ = some (.string ⟨#[97]⟩) := by rw [← hw4, hb4]; exact new_cell rfl
  have q2 : w4.cell? ⟨b4, 2, none⟩ = some (.string ⟨#[98]⟩) := by rw [← hw4, hb4]; exact new_cell rfl
  have q3 : w4.cell? ⟨b4, 3, none⟩ = some (.int .i64 0) := by rw [← hw4, hb4]; exact new_cell rfl
  have t1 : (convert 26 9 (.slice a1 4 c1)).run Try.prog w4 = .ok (.string ⟨#[0, 1, 97, 1]⟩) w4 := str_drew (HR3.out.below hb34) 0
  have HB4 := Lib.hid (HB3.out.step hb34)
  rw [← hb4]
  clear hw4 hb34 hb4
  go_wp2_with fail
  refine (HM.out _).mono ?_
  rintro e w5 ⟨rfl, hb⟩
  have HB5 := Lib.hid (HB4.out.step hb)
  clear hb
  go_wp2_with fail
  refine (HK.out _).mono ?_
  rintro e w6 ⟨rfl, rfl⟩
  go_wp2_with fail
  go_ret
  exact ⟨rfl, HB5.out⟩
end Go.Proofs.Ytfljpgcabkihlaa
