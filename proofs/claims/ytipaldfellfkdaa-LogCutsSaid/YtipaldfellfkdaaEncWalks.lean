/- The walks of the layer enc and of its reference: what each function answers. -/
import Derived.Test.YtipaldfellfkdaaEncDigits
import Derived.Test.YtipaldfellfkdaaMem
import Derived.WalkLawsBesides
import Derived.WalkSpells
import Derived.IntWalk
import Derived.Deep.QuietTactic
import Derived.BigQuiet
import Derived.WalkSmall
namespace Go.Proofs.Ytipaldfellfkdaa
open Go.ChangeShapes Go.WideShapes Go.ChangeAt Go.RowKit
set_option linter.unusedVariables false

theorem num_any (N : Nat) (hN : N < 18446744073709551616) (w : World) : Calls Try.prog 18 #[.int .u64 (N : Int)] w (OwnB (numL N) w) :=
  callsIn_wide.1 (num_in Fence.wide 2 trivial trivial trivial rfl (Nat.le_refl _) N hN w)





set_option maxHeartbeats 400000 in
theorem num_ref (N : Nat) (hN : N < 18446744073709551616) (w : World) : Calls Try.prog 20 #[.int .u64 (N : Int)] w (OwnB (numL N) w) := by
  obtain ⟨i0, hi, hz0, hz1, hz2⟩ := info_parts info_u8
  have hl10 := numL_le10 N hN
  go_enter Try.func20, Try.ntmps20
  go_wp2
  go_loopw [0, 3] (fun n v wr => ∃ (pre : List UInt8) (m : Nat), n = .int .u64 (m : Int) ∧ m < 18446744073709551616 ∧ Hid (pre ++ numL m = numL N) ∧ wr.ownsRow w.heap.size 5 1 v pre.length (pre.map B) ∧ Below w.heap.size w wr)
    (fun n _ _ => (intOf n).toNat)
  case atStart => exact ⟨[], N, rfl, hN, rfl, World.ownsRow_nil _ _ _ _, Below.refl _ _⟩
  case round =>
    obtain ⟨pre, m, rfl, hm, HP, hown, hB⟩ := hrel
    have hplen : pre.length < 10 := by
      have h2 := congrArg List.length HP.out
      simp only [List.length_append] at h2
      have := numL_pos m
      omega
    by_cases hbig : m > 127
    · have hbig' : (127 : Int) < (m : Int) := by omega
      have HP2 := Lib.hid (show (pre ++ [UInt8.ofNat (m % 128 + 128)]) ++ numL (m / 128) = numL N by rw [← HP.out, numL_big hbig]; simp)
      have hbv : ((m : Int) % 128 + 128) = ((UInt8.ofNat (m % 128 + 128)).toNat : Int) := by rw [big_byte]; omega
      have HV := Lib.hid hbv; clear hbv
      go_wp2_with (at_builtin; refine wpList_append_own _ rfl _ _ 22 rfl w.heap.size 5 i0 (.int .u8 0) 1 1 Try.underlying22 hi hz0 hz1 hz2 rfl (by decide) _ _ _ rfl (hown.alloc _) ⟨wr.heap.size, 0, none⟩ 1 1 [B (UInt8.ofNat (m % 128 + 128))] rfl rfl (by have := HV.out; unfold B; rw [← this]; exact cell_one_new _ _ _) (by simp [Value.oneCell', B]) (by unfold maxLen; omega) (by omega) (by have := hB.size; simp; omega) ?_; intro v' w1 hown' hgrow _)
      go_roundw
      case rel => exact ⟨pre ++ [UInt8.ofNat (m % 128 + 128)], m / 128, by go_num, by omega, HP2.out, by simpa using hown', below_own (hB.alloc hB.size _) (hown.alloc _) hgrow (by have := hB.size; simp; omega)⟩
      case measure => simp [intOf]; omega
    · have hbig' : ¬ (127 : Int) < (m : Int) := by omega
      have HP2 := Lib.hid (show pre ++ [UInt8.ofNat m] = numL N by rw [← HP.out, numL_small (by omega)])
      have HV := Lib.hid (show ((m : Int)) = ((UInt8.ofNat m).toNat : Int) by rw [small_byte m (by omega)])
      go_wp2_with (at_builtin; refine wpList_append_own _ rfl _ _ 22 rfl w.heap.size 5 i0 (.int .u8 0) 1 1 Try.underlying22 hi hz0 hz1 hz2 rfl (by decide) _ _ _ rfl (hown.alloc _) ⟨wr.heap.size, 0, none⟩ 1 1 [B (UInt8.ofNat m)] rfl rfl (by have := HV.out; unfold B; rw [← this]; exact cell_one_new _ _ _) (by simp [Value.oneCell', B]) (by unfold maxLen; omega) (by omega) (by have := hB.size; simp; omega) ?_; intro v' w1 hown' hgrow _)
      go_ret
      refine ⟨v', rfl, ?_, below_own (hB.alloc hB.size _) (hown.alloc _) hgrow (by have := hB.size; simp; omega)⟩
      rw [← HP2.out]; simpa using hown'
end Go.Proofs.Ytipaldfellfkdaa
