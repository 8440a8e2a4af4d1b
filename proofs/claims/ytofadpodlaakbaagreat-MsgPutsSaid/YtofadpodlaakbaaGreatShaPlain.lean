/- What the layer sha computes, on whole numbers and lists; no program in sight. -/
import Derived.Test.YtofadpodlaakbaaGreatRotWalks
namespace Go.Proofs.YtofadpodlaakbaaGreat
open Go
set_option linter.unusedVariables false

/-- Eight words. -/
structure Q8 where
  a : Int
  b : Int
  c : Int
  d : Int
  e : Int
  f : Int
  g : Int
  h : Int

def Q8.cells (s : Q8) : List Value := [.int .u32 s.a, .int .u32 s.b, .int .u32 s.c, .int .u32 s.d, .int .u32 s.e, .int .u32 s.f, .int .u32 s.g, .int .u32 s.h]
def Q8.val (s : Q8) : Value := .agg #[.int .u32 s.a, .int .u32 s.b, .int .u32 s.c, .int .u32 s.d, .int .u32 s.e, .int .u32 s.f, .int .u32 s.g, .int .u32 s.h]
/-- A whole number that is a word of 32 bits. -/
def isW (x : Int) : Prop := 0 ≤ x ∧ x ≤ 4294967295
instance (x : Int) : Decidable (isW x) := inferInstanceAs (Decidable (0 ≤ x ∧ x ≤ 4294967295))
structure Q8.Ok (s : Q8) : Prop where
  a : isW s.a
  b : isW s.b
  c : isW s.c
  d : isW s.d
  e : isW s.e
  f : isW s.f
  g : isW s.g
  h : isW s.h

def addW (x y : Int) : Int := IntKind.u32.wrap (x + y)
theorem addW_ok (x y : Int) : isW (addW x y) := by unfold addW isW; rw [wrap_u32]; omega
theorem right_ok (x n : Int) : isW (right x n) := ⟨right_lo x n, right_hi x n⟩
theorem xor_ok (x y : Int) : isW (bits .xor .u32 x y) := by rw [u32_xor]; exact ⟨U_lo _, U_hi _⟩
def greatP (x a b c : Int) : Int := bits .xor .u32 (bits .xor .u32 (right x a) (right x b)) (right x c)
def smallP (x a b : Int) (c : Nat) : Int := bits .xor .u32 (bits .xor .u32 (right x a) (right x b)) (x / 2 ^ c)
theorem greatP_ok (x a b c : Int) : isW (greatP x a b c) := xor_ok _ _
theorem smallP_ok (x a b : Int) (c : Nat) : isW (smallP x a b c) := xor_ok _ _

def oneP (k w : Int) (s : Q8) : Int := addW (addW (addW (addW s.h (greatP s.e 6 11 25)) (pick s.e s.f s.g)) k) w
def twoP (s : Q8) : Int := addW (greatP s.a 2 13 22) (most s.a s.b s.c)
/-- One round. -/
def rnd (k w : Int) (s : Q8) : Q8 := ⟨addW (oneP k w s) (twoP s), s.a, s.b, s.c, addW s.d (oneP k w s), s.e, s.f, s.g⟩
theorem rnd_ok (k w : Int) (s : Q8) (h : s.Ok) : (rnd k w s).Ok := ⟨addW_ok _ _, h.a, h.b, h.c, addW_ok _ _, h.e, h.f, h.g⟩
def kL : List Int := [0x428a2f98, 0x71374491, 0xb5c0fbcf, 0xe9b5dba5, 0x3956c25b, 0x59f111f1, 0x923f82a4, 0xab1c5ed5, 0xd807aa98, 0x12835b01, 0x243185be, 0x550c7dc3, 0x72be5d74, 0x80deb1fe, 0x9bdc06a7, 0xc19bf174, 0xe49b69c1, 0xefbe4786, 0x0fc19dc6, 0x240ca1cc, 0x2de92c6f, 0x4a7484aa, 0x5cb0a9dc, 0x76f988da, 0x983e5152, 0xa831c66d, 0xb00327c8, 0xbf597fc7, 0xc6e00bf3, 0xd5a79147, 0x06ca6351, 0x14292967, 0x27b70a85, 0x2e1b2138, 0x4d2c6dfc, 0x53380d13, 0x650a7354, 0x766a0abb, 0x81c2c92e, 0x92722c85, 0xa2bfe8a1, 0xa81a664b, 0xc24b8b70, 0xc76c51a3, 0xd192e819, 0xd6990624, 0xf40e3585, 0x106aa070, 0x19a4c116, 0x1e376c08, 0x2748774c, 0x34b0bcb5, 0x391c0cb3, 0x4ed8aa4a, 0x5b9cca4f, 0x682e6ff3, 0x748f82ee, 0x78a5636f, 0x84c87814, 0x8cc70208, 0x90befffa, 0xa4506ceb, 0xbef9a3f7, 0xc67178f2]
def startQ : Q8 := ⟨0x6a09e667, 0xbb67ae85, 0x3c6ef372, 0xa54ff53a, 0x510e527f, 0x9b05688c, 0x1f83d9ab, 0x5be0cd19⟩
theorem startQ_ok : startQ.Ok := by constructor <;> decide
/-- The word at i of a block's, given those ahead of it. -/
def nextW (l : List UInt8) (ws : List Int) (i : Nat) : Int :=
  if i < 16 then wordAt l (4 * (i : Int)) else addW (addW (addW (ws.getD (i - 16) 0) (ws.getD (i - 7) 0)) (smallP (ws.getD (i - 15) 0) 7 18 3)) (smallP (ws.getD (i - 2) 0) 17 19 10)
def wordsTo (l : List UInt8) : Nat → List Int
  | 0 => []
  | i + 1 => wordsTo l i ++ [nextW l (wordsTo l i) i]
theorem wordsTo_length (l : List UInt8) (i : Nat) : (wordsTo l i).length = i := by
  induction i with
  | zero => rfl
  | succ i ih => simp [wordsTo, ih]
theorem nextW_ok (l : List UInt8) (ws : List Int) (i : Nat) : isW (nextW l ws i) := by
  unfold nextW; split
  · exact ⟨wordAt_lo _ _, wordAt_hi _ _⟩
  · exact addW_ok _ _
theorem wordsTo_ok (l : List UInt8) (i : Nat) : ∀ x ∈ wordsTo l i, isW x := by
  induction i with
  | zero => simp [wordsTo]
  | succ i ih =>
    intro x hx
    rw [wordsTo, List.mem_append, List.mem_singleton] at hx
    rcases hx with hx | rfl
    · exact ih x hx
    · exact nextW_ok _ _ _
def roundsTo (ws : List Int) (h : Q8) : Nat → Q8
  | 0 => h
  | i + 1 => rnd (kL.getD i 0) (ws.getD i 0) (roundsTo ws h i)
theorem roundsTo_ok (ws : List Int) (h : Q8) (ho : h.Ok) (i : Nat) : (roundsTo ws h i).Ok := by
  induction i with
  | zero => exact ho
  | succ i ih => exact rnd_ok _ _ _ ih
def Q8.add (h s : Q8) : Q8 := ⟨addW h.a s.a, addW h.b s.b, addW h.c s.c, addW h.d s.d, addW h.e s.e, addW h.f s.f, addW h.g s.g, addW h.h s.h⟩
theorem Q8.add_ok (h s : Q8) : (h.add s).Ok := by constructor <;> exact addW_ok _ _
/-- How it goes on with a block of 64 bytes. -/
def blockQ (h : Q8) (l : List UInt8) : Q8 := h.add (roundsTo (wordsTo l 64) h 64)
theorem blockQ_ok (h : Q8) (l : List UInt8) : (blockQ h l).Ok := Q8.add_ok _ _
def blocksQ : Nat → Q8 → List UInt8 → Q8
  | 0, h, _ => h
  | k + 1, h, l => blocksQ k (blockQ h (l.take 64)) (l.drop 64)
theorem blocksQ_ok (k : Nat) : ∀ h l, h.Ok → (blocksQ k h l).Ok := by
  induction k with
  | zero => intro h l ho; exact ho
  | succ k ih => intro h l ho; exact ih _ _ (blockQ_ok _ _)
def longL (x : Nat) : List UInt8 := [UInt8.ofNat (x / 72057594037927936), UInt8.ofNat (x / 281474976710656), UInt8.ofNat (x / 1099511627776), UInt8.ofNat (x / 4294967296), UInt8.ofNat (x / 16777216), UInt8.ofNat (x / 65536), UInt8.ofNat (x / 256), UInt8.ofNat x]
/-- How many noughts stand behind the mark. -/
def padN (n : Nat) : Nat := (119 - n % 64) % 64
theorem padN_spec (n : Nat) : (n + 1 + padN n) % 64 = 56 := by unfold padN; omega
theorem padN_min (n j : Nat) (h : j < padN n) : (n + 1 + j) % 64 ≠ 56 := by unfold padN at h; omega
def padL (l : List UInt8) : List UInt8 := l ++ [128] ++ List.replicate (padN l.length) 0 ++ longL (8 * l.length)
theorem padL_length (l : List UInt8) : (padL l).length = l.length + 9 + padN l.length := by
  simp only [padL, longL, List.length_append, List.length_replicate, List.length_cons, List.length_nil]; omega
def sumQ (l : List UInt8) : Q8 := blocksQ ((padL l).length / 64) startQ (padL l)
theorem sumQ_ok (l : List UInt8) : (sumQ l).Ok := blocksQ_ok _ _ _ startQ_ok
def fourL (x : Int) : List Int := [x / 16777216, x / 65536 % 256, x / 256 % 256, x % 256]
def Q8.bytes (s : Q8) : List Int := fourL s.a ++ fourL s.b ++ fourL s.c ++ fourL s.d ++ fourL s.e ++ fourL s.f ++ fourL s.g ++ fourL s.h
/-- What is of a content alone. -/
def idOf (l : List UInt8) : List Int := (sumQ l).bytes
def idV (l : List UInt8) : Value := .agg ((idOf l).map (Value.int .u8)).toArray

theorem id_abc : (idOf [97, 98, 99]).take 4 = [186, 120, 22, 191] := by decide +kernel
theorem id_nil : (idOf []).take 4 = [227, 176, 196, 66] := by decide +kernel
end Go.Proofs.YtofadpodlaakbaaGreat
