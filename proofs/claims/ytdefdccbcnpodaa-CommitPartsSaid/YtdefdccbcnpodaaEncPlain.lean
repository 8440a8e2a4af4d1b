/- Numbers and texts in bytes, in plain words: what the layer enc computes. No program in sight. -/
import Derived.Laws.Entries
import Derived.WalkKit
namespace Go.Proofs.Ytdefdccbcnpodaa
open Go
set_option linter.unusedVariables false

/-- A number in bytes: seven bits each, the lowest ones first; all but the last one have 128 more. -/
def numL (n : Nat) : List UInt8 := if h : n > 127 then UInt8.ofNat (n % 128 + 128) :: numL (n / 128) else [UInt8.ofNat n]
termination_by n
decreasing_by omega

theorem numL_big {n : Nat} (h : n > 127) : numL n = UInt8.ofNat (n % 128 + 128) :: numL (n / 128) := by rw [numL]; simp [h]
theorem numL_small {n : Nat} (h : n ≤ 127) : numL n = [UInt8.ofNat n] := by rw [numL]; simp [show ¬ n > 127 by omega]

theorem numL_ne (n : Nat) : numL n ≠ [] := by
  by_cases h : n > 127
  · rw [numL_big h]; simp
  · rw [numL_small (by omega)]; simp
theorem numL_pos (n : Nat) : 0 < (numL n).length := List.length_pos_iff.2 (numL_ne n)

/-- A number below 2^(7k) has at most k bytes. -/
theorem numL_len (k : Nat) : ∀ n, n < 2 ^ (7 * k) → 0 < k → (numL n).length ≤ k := by
  induction k with
  | zero => intro n _ h; omega
  | succ k ih =>
    intro n hn _
    by_cases h : n > 127
    · rw [numL_big h]
      have h2 : n / 128 < 2 ^ (7 * k) := by
        rw [Nat.div_lt_iff_lt_mul (by decide)]
        have : 2 ^ (7 * (k + 1)) = 2 ^ (7 * k) * 128 := by rw [show 7 * (k + 1) = 7 * k + 7 from by omega, Nat.pow_add]
        omega
      have hk : 0 < k := by
        rcases Nat.eq_zero_or_pos k with rfl | hk
        · omega
        · exact hk
      have := ih (n / 128) h2 hk
      simp only [List.length_cons]; omega
    · rw [numL_small (by omega)]; simp
theorem numL_le10 (n : Nat) (h : n < 18446744073709551616) : (numL n).length ≤ 10 :=
  numL_len 10 n (Nat.lt_of_lt_of_le h (by decide)) (by decide)

theorem big_byte (m : Nat) : (UInt8.ofNat (m % 128 + 128)).toNat = m % 128 + 128 := by
  simp only [UInt8.toNat_ofNat']; omega
theorem small_byte (m : Nat) (h : m ≤ 127) : (UInt8.ofNat m).toNat = m := by
  simp only [UInt8.toNat_ofNat']; omega

theorem or128_all : ∀ x : Fin 256, bits .or .u8 ((x.val : Nat) : Int) 128 = ((x.val % 128 + 128 : Nat) : Int) := by decide +kernel
theorem or128 (m : Nat) : bits .or .u8 ((m : Int) % 256) 128 = ((UInt8.ofNat (m % 128 + 128)).toNat : Int) := by
  have h := or128_all ⟨m % 256, Nat.mod_lt _ (by decide)⟩
  simp only at h
  rw [big_byte, show ((m : Int) % 256) = ((m % 256 : Nat) : Int) from by omega, h]
  omega

/-- A number of either sign as one from 0 on. -/
def fold (n : Int) : Int := if 0 ≤ n then 2 * n else -2 * n - 1
/-- The other way round. -/
def unfold' (m : Int) : Int := if m % 2 = 0 then m / 2 else -1 - m / 2
theorem fold_lo (n : Int) : 0 ≤ fold n := by unfold fold; split <;> omega
theorem fold_hi (n : Int) (h0 : -9223372036854775808 ≤ n) (h1 : n ≤ 9223372036854775807) : fold n ≤ 18446744073709551615 := by unfold fold; split <;> omega
theorem unfold_lo (m : Int) (h0 : 0 ≤ m) (h1 : m ≤ 18446744073709551615) : -9223372036854775808 ≤ unfold' m := by unfold unfold'; split <;> omega
theorem unfold_hi (m : Int) (h0 : 0 ≤ m) (h1 : m ≤ 18446744073709551615) : unfold' m ≤ 9223372036854775807 := by unfold unfold'; split <;> omega
theorem unfold_fold (n : Int) : unfold' (fold n) = n := by unfold unfold' fold; split <;> split <;> omega
theorem fold_unfold (m : Int) (h0 : 0 ≤ m) : fold (unfold' m) = m := by unfold unfold' fold; split <;> split <;> omega

theorem wrap_u64' (n : Int) : IntKind.u64.wrap n = n % 18446744073709551616 := by simp [IntKind.wrap, IntKind.bits, IntKind.signed]
theorem wrap_i64' (n : Int) : IntKind.i64.wrap n = if n % 18446744073709551616 ≥ 9223372036854775808 then n % 18446744073709551616 - 18446744073709551616 else n % 18446744073709551616 := by
  simp [IntKind.wrap, IntKind.bits, IntKind.signed]

/-- 'x << 1 ^ uint64(n >> 63)' of a number of either sign. -/
theorem xor_zero_u64 (x : Int) (h0 : 0 ≤ x) (h1 : x ≤ 18446744073709551615) : bits .xor .u64 x 0 = x := by
  show IntKind.u64.wrap ((BitVec.ofInt 64 x ^^^ BitVec.ofInt 64 0).toNat : Nat) = x
  have : BitVec.ofInt 64 x ^^^ BitVec.ofInt 64 0 = BitVec.ofInt 64 x := by simp
  rw [this, wrap_u64', BitVec.toNat_ofInt]; omega
theorem xor_ones_u64 (x : Int) (h0 : 0 ≤ x) (h1 : x ≤ 18446744073709551615) : bits .xor .u64 x 18446744073709551615 = 18446744073709551615 - x := by
  show IntKind.u64.wrap ((BitVec.ofInt 64 x ^^^ BitVec.ofInt 64 18446744073709551615).toNat : Nat) = _
  have e : BitVec.ofInt 64 18446744073709551615 = BitVec.allOnes 64 := by decide
  rw [e, BitVec.xor_allOnes, BitVec.toNat_not, wrap_u64', BitVec.toNat_ofInt]; omega
theorem xor_zero_i64 (x : Int) (h0 : -9223372036854775808 ≤ x) (h1 : x ≤ 9223372036854775807) : bits .xor .i64 x 0 = x := by
  show IntKind.i64.wrap ((BitVec.ofInt 64 x ^^^ BitVec.ofInt 64 0).toNat : Nat) = x
  have : BitVec.ofInt 64 x ^^^ BitVec.ofInt 64 0 = BitVec.ofInt 64 x := by simp
  rw [this, wrap_i64', BitVec.toNat_ofInt]; split <;> omega
theorem xor_ones_i64 (x : Int) (h0 : -9223372036854775808 ≤ x) (h1 : x ≤ 9223372036854775807) : bits .xor .i64 x (-1) = -1 - x := by
  show IntKind.i64.wrap ((BitVec.ofInt 64 x ^^^ BitVec.ofInt 64 (-1)).toNat : Nat) = _
  have e : BitVec.ofInt 64 (-1) = BitVec.allOnes 64 := by decide
  rw [e, BitVec.xor_allOnes, BitVec.toNat_not, wrap_i64', BitVec.toNat_ofInt]; split <;> omega
theorem and1_u64 (x : Int) (h0 : 0 ≤ x) (h1 : x ≤ 18446744073709551615) : bits .and .u64 x 1 = x % 2 := by
  show IntKind.u64.wrap ((BitVec.ofInt 64 x &&& BitVec.ofInt 64 1).toNat : Nat) = _
  have e : (BitVec.ofInt 64 1).toNat = 2 ^ 1 - 1 := by decide
  rw [BitVec.toNat_and, e, Nat.and_two_pow_sub_one_eq_mod, wrap_u64', BitVec.toNat_ofInt]; omega
end Go.Proofs.Ytdefdccbcnpodaa
