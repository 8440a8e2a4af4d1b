/- A byte with some of its bits turned, by the kernel. -/
import Derived.Test.YtmeieokembjabaaNetPass
namespace Go.Proofs.Ytmeieokembjabaa
open Go
theorem xor_all : ∀ x y : Fin 256, bits .xor .u8 ((x.val : Nat) : Int) ((y.val : Nat) : Int) = (((UInt8.ofNat x.val) ^^^ (UInt8.ofNat y.val)).toNat : Int) := by decide +kernel
theorem xor_u8 (c m : UInt8) : bits .xor .u8 (c.toNat : Int) (m.toNat : Int) = ((c ^^^ m).toNat : Int) := by
  have := xor_all ⟨c.toNat, c.toNat_lt⟩ ⟨m.toNat, m.toNat_lt⟩
  simpa using this
end Go.Proofs.Ytmeieokembjabaa
