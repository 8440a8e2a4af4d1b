/- The walks of the layer enc and of its reference: what each function answers. -/
import Derived.Test.YtdefdccbcnpodaaEncDigits
import Derived.Test.YtdefdccbcnpodaaMem
import Derived.WalkLawsBesides
import Derived.WalkSpells
import Derived.IntWalk
import Derived.Deep.QuietTactic
import Derived.BigQuiet
import Derived.WalkSmall
namespace Go.Proofs.Ytdefdccbcnpodaa
open Go.ChangeShapes Go.WideShapes Go.ChangeAt Go.RowKit
set_option linter.unusedVariables false

theorem num_any (N : Nat) (hN : N < 18446744073709551616) (w : World) : Calls Try.prog 26 #[.int .u64 (N : Int)] w (OwnB (numL N) w) :=
  callsIn_wide.1 (num_in Fence.wide 2 trivial trivial trivial rfl (Nat.le_refl _) N hN w)

theorem fold_any (n : Int) (w : World) (h0 : -9223372036854775808 ≤ n) (h1 : n ≤ 9223372036854775807) :
    Calls Try.prog 27 #[.int .i64 n] w fun e w' => e = .returned (.int .u64 (fold n)) ∧ w = w' := by
  by_cases h : 0 ≤ n
  · have e1 : n / 9223372036854775808 = 0 := by omega
    go_enter Try.func27, Try.ntmps27
    go_wp2
    go_ret
    exact ⟨ret1 (by rw [xor_zero_u64 _ (by omega) (by omega)]; unfold fold; rw [if_pos h]; omega), rfl⟩
  · have e1 : n / 9223372036854775808 = -1 := by omega
    go_enter Try.func27, Try.ntmps27
    go_wp2
    go_ret
    refine ⟨ret1 ?_, rfl⟩
    have e2 : IntKind.u64.wrap (-1) = 18446744073709551615 := by decide
    rw [e2, wrap_u64 (_ * 2), wrap_u64, xor_ones_u64 _ (by omega) (by omega)]; unfold fold; rw [if_neg (by omega)]; omega

theorem fold_ref (n : Int) (w : World) (h0 : -9223372036854775808 ≤ n) (h1 : n ≤ 9223372036854775807) :
    Calls Try.prog 30 #[.int .i64 n] w fun e w' => e = .returned (.int .u64 (fold n)) ∧ w = w' := by
  by_cases h : 0 ≤ n
  · go_enter Try.func30, Try.ntmps30
    go_wp2
    go_ret
    exact ⟨ret1 (by unfold fold; rw [if_pos h]), rfl⟩
  · go_enter Try.func30, Try.ntmps30
    go_wp2
    go_ret
    exact ⟨ret1 (by unfold fold; rw [if_neg (by omega)]; omega), rfl⟩

theorem unfold_any (m : Int) (w : World) (h0 : 0 ≤ m) (h1 : m ≤ 18446744073709551615) :
    Calls Try.prog 66 #[.int .u64 m] w fun e w' => e = .returned (.int .i64 (unfold' m)) ∧ w = w' := by
  have e1 := and1_u64 m h0 h1
  by_cases h : m % 2 = 0
  · have e2 : bits BinOp.and .u64 m 1 = 0 := by rw [e1, h]
    have H := Lib.hid h; clear h e1
    go_enter Try.func66, Try.ntmps66
    go_wp2
    go_ret
    exact ⟨ret1 (by rw [xor_zero_i64 _ (by omega) (by omega)]; unfold unfold'; rw [if_pos H.out]), rfl⟩
  · have e2 : bits BinOp.and .u64 m 1 = 1 := by rw [e1]; omega
    have H := Lib.hid h; clear h e1
    go_enter Try.func66, Try.ntmps66
    go_wp2
    go_ret
    exact ⟨ret1 (by rw [xor_ones_i64 _ (by omega) (by omega)]; unfold unfold'; rw [if_neg H.out]), rfl⟩

theorem unfold_ref (m : Int) (w : World) (h0 : 0 ≤ m) (h1 : m ≤ 18446744073709551615) :
    Calls Try.prog 44 #[.int .u64 m] w fun e w' => e = .returned (.int .i64 (unfold' m)) ∧ w = w' := by
  by_cases h : m % 2 = 0
  · have hb : (m % 2 == 0) = true := by simp [h]
    go_enter Try.func44, Try.ntmps44
    go_wp2
    go_ret
    exact ⟨ret1 (by unfold unfold'; rw [if_pos h]), rfl⟩
  · have hb : (m % 2 == 0) = false := by simp [h]
    go_enter Try.func44, Try.ntmps44
    go_wp2
    go_ret
    exact ⟨ret1 (by unfold unfold'; rw [if_neg h]), rfl⟩

set_option maxHeartbeats 400000 in
theorem num_ref (N : Nat) (hN : N < 18446744073709551616) (w : World) : Calls Try.prog 29 #[.int .u64 (N : Int)] w (OwnB (numL N) w) := by
  obtain ⟨i0, hi, hz0, hz1, hz2⟩ := info_parts info_u8
  have hl10 := numL_le10 N hN
  go_enter Try.func29, Try.ntmps29
  go_wp2
  go_loopw [0, 3] (fun n v wr => ∃ (pre : List UInt8) (m : Nat), n = .int .u64 (m : Int) ∧ m < 18446744073709551616 ∧ Hid (pre ++ numL m = numL N) ∧ wr.ownsRow w.heap.size 5 1 v pre.length (pre.map B) ∧ Below w.heap.size w wr)
    (fun n _ _ => (intOf n).toNat)
  case atStart => exact ⟨[], N, rfl, hN, rfl, World.ownsRow_nil _ _ _ _, Below.refl _ _⟩
  case round =>
    obtain ⟨pre, m, rfl, hm, HP, hown, hB⟩ := hrel
    have hplen : pre.length < 10 := by
      have h2 := congrArg List.length HP.out
      simp only [List.length_append] at h2
      have := numL_pos m
      omega
    by_cases hbig : m > 127
    · have hbig' : (127 : Int) < (m : Int) := by omega
      have HP2 := Lib.hid (show (pre ++ [UInt8.ofNat (m % 128 + 128)]) ++ numL (m / 128) = numL N by rw [← HP.out, numL_big hbig]; simp)
      have hbv : ((m : Int) % 128 + 128) = ((UInt8.ofNat (m % 128 + 128)).toNat : Int) := by rw [big_byte]; omega
      have HV := Lib.hid hbv; clear hbv
      go_wp2_with (at_builtin; refine wpList_append_own _ rfl _ _ 31 rfl w.heap.size 5 i0 (.int .u8 0) 1 1 Try.underlying31 hi hz0 hz1 hz2 rfl (by decide) _ _ _ rfl (hown.alloc _) ⟨wr.heap.size, 0, none⟩ 1 1 [B (UInt8.ofNat (m % 128 + 128))] rfl rfl (by have := HV.out; unfold B; rw [← this]; exact cell_one_new _ _ _) (by simp [Value.oneCell', B]) (by unfold maxLen; omega) (by omega) (by have := hB.size; simp; omega) ?_; intro v' w1 hown' hgrow _)
      go_roundw
      case rel => exact ⟨pre ++ [UInt8.ofNat (m % 128 + 128)], m / 128, by go_num, by omega, HP2.out, by simpa using hown', below_own (hB.alloc hB.size _) (hown.alloc _) hgrow (by have := hB.size; simp; omega)⟩
      case measure => simp [intOf]; omega
    · have hbig' : ¬ (127 : Int) < (m : Int) := by omega
      have HP2 := Lib.hid (show pre ++ [UInt8.ofNat m] = numL N by rw [← HP.out, numL_small (by omega)])
      have HV := Lib.hid (show ((m : Int)) = ((UInt8.ofNat m).toNat : Int) by rw [small_byte m (by omega)])
      go_wp2_with (at_builtin; refine wpList_append_own _ rfl _ _ 31 rfl w.heap.size 5 i0 (.int .u8 0) 1 1 Try.underlying31 hi hz0 hz1 hz2 rfl (by decide) _ _ _ rfl (hown.alloc _) ⟨wr.heap.size, 0, none⟩ 1 1 [B (UInt8.ofNat m)] rfl rfl (by have := HV.out; unfold B; rw [← this]; exact cell_one_new _ _ _) (by simp [Value.oneCell', B]) (by unfold maxLen; omega) (by omega) (by have := hB.size; simp; omega) ?_; intro v' w1 hown' hgrow _)
      go_ret
      refine ⟨v', rfl, ?_, below_own (hB.alloc hB.size _) (hown.alloc _) hgrow (by have := hB.size; simp; omega)⟩
      rw [← HP2.out]; simpa using hown'
end Go.Proofs.Ytdefdccbcnpodaa
