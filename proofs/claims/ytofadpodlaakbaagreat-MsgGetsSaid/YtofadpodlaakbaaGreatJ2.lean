import Derived.Laws.Entries
import Derived.WalkKit
import Derived.Test.YtofadpodlaakbaaGreatChecked
import Derived.Test.YtofadpodlaakbaaGreatJ1
import Derived.ProofKit
import Derived.OpenShut
import Derived.WalkLawsBesides
import Derived.WalkSpells
import Derived.IntWalk
import Derived.Outline
import Derived.Handy
import Derived.Deep.QuietTactic
import Derived.BigQuiet
import Derived.WalkSmall
import Derived.Laws.Cover3
import Derived.Deep.MidRow
import Derived.Deep.RegionHeld3
import Derived.Deep.Cut
import Derived.Deep.RegionWith
import Derived.Laws.MakeOwn
import Derived.Laws.CopyOwn
import Derived.OwnWalk
/- Words of 32 bits as whole numbers: what the layer rot computes, in plain Lean; no program in sight. -/
namespace Go.Proofs.YtofadpodlaakbaaGreat
open Go
set_option linter.unusedVariables false
def W (x : Int) : BitVec 32 := BitVec.ofInt 32 x
def U (v : BitVec 32) : Int := (v.toNat : Int)
theorem W_U (v : BitVec 32) : W (U v) = v := by unfold W U; rw [BitVec.ofInt_natCast]; simp
theorem U_W (x : Int) (h0 : 0 ≤ x) (h1 : x ≤ 4294967295) : U (W x) = x := by
 unfold W U; rw [BitVec.toNat_ofInt]; omega
theorem W_toNat (x : Int) (h0 : 0 ≤ x) (h1 : x ≤ 4294967295) : (W x).toNat = x.toNat := by
 unfold W; rw [BitVec.toNat_ofInt]; omega
theorem wrap_u32 (n : Int) : IntKind.u32.wrap n = n % 4294967296 := by simp [IntKind.wrap, IntKind.bits, IntKind.signed]
theorem wrap_U (v : BitVec 32) : IntKind.u32.wrap (v.toNat : Int) = U v := by
 rw [wrap_u32]; unfold U; have := v.isLt; omega
theorem u32_and (x y : Int) : bits .and .u32 x y = U (W x &&& W y) := wrap_U _
theorem u32_or (x y : Int) : bits .or .u32 x y = U (W x ||| W y) := wrap_U _
theorem u32_xor (x y : Int) : bits .xor .u32 x y = U (W x ^^^ W y) := wrap_U _
theorem u32_andNot (x y : Int) : bits .andNot .u32 x y = U (W x &&& ~~~ (W y)) := wrap_U _
theorem wrap_W (n : Int) : IntKind.u32.wrap n = U (W n) := by
 rw [wrap_u32]; unfold U W; rw [BitVec.toNat_ofInt]; omega
theorem W_add (x y : Int) : W (x + y) = W x + W y := by unfold W; exact BitVec.ofInt_add ..
theorem W_sub (x y : Int) : W (x - y) = W x - W y := by
 unfold W
 apply BitVec.eq_of_toInt_eq
 simp [BitVec.toInt_ofInt, BitVec.toInt_sub]
theorem W_div (x : Int) (k : Nat) (h0 : 0 ≤ x) (h1 : x ≤ 4294967295) : W (x / 2 ^ k) = W x >>> k := by
 have hq : x / 2 ^ k = ((x.toNat / 2 ^ k : Nat) : Int) := by
  rw [Int.natCast_ediv]; simp [Int.toNat_of_nonneg h0]
 have hl : x.toNat / 2 ^ k ≤ x.toNat := Nat.div_le_self _ _
 apply BitVec.eq_of_toNat_eq
 rw [hq, BitVec.toNat_ushiftRight, W_toNat x h0 h1, Nat.shiftRight_eq_div_pow]
 generalize x.toNat / 2 ^ k = q at hl ⊢
 rw [W_toNat _ (by omega) (by omega)]
 omega
theorem W_mul (x : Int) (k : Nat) (h0 : 0 ≤ x) (h1 : x ≤ 4294967295) : W (x * 2 ^ k) = W x <<< k := by
 have hq : x * 2 ^ k = ((x.toNat * 2 ^ k : Nat) : Int) := by
  rw [Int.natCast_mul]; simp [Int.toNat_of_nonneg h0]
 apply BitVec.eq_of_toNat_eq
 rw [BitVec.toNat_shiftLeft, W_toNat x h0 h1, hq]
 unfold W
 rw [BitVec.ofInt_natCast, BitVec.toNat_ofNat, Nat.shiftLeft_eq]
def right (x n : Int) : Int := U ((W x).rotateRight (n % 32).toNat)
theorem right_of (x n : Int) (k j : Int) (h0 : 0 ≤ x) (h1 : x ≤ 4294967295) (hk : k = n % 32) (hj : j = 32 - k) :
  bits .or .u32 (x / 2 ^ k.toNat) (IntKind.u32.wrap (x * 2 ^ j.toNat)) = right x n := by
 have hk0 : 0 ≤ n % 32 := by omega
 have hk1 : n % 32 < 32 := by omega
 subst hk; subst hj
 rw [u32_or, wrap_W, W_U, W_div x _ h0 h1, W_mul x _ h0 h1]
 unfold right
 congr 1
 rw [BitVec.rotateRight_def, Nat.mod_eq_of_lt (by omega)]
 congr 2
 omega
def pick (y a b : Int) : Int := U ((W y &&& W a) ||| (W b &&& ~~~ (W y)))
theorem pick_of (y a b : Int) : bits .or .u32 (bits .and .u32 y a) (bits .andNot .u32 b y) = pick y a b := by
 rw [u32_or, u32_and, u32_andNot, W_U, W_U]; rfl
theorem and_not_sub (b y : BitVec 32) : b - (y &&& b) = b &&& ~~~ y := by
 have h : (b &&& ~~~ y) &&& (y &&& b) = 0#32 := by
  ext i hi; simp; intro _ h; simp [h]
 have h2 : (b &&& ~~~ y) + (y &&& b) = b := by
  rw [BitVec.add_eq_or_of_and_eq_zero _ _ h]
  ext i hi; simp; cases b[i] <;> cases y[i] <;> rfl
 rw [BitVec.sub_eq_iff_eq_add]; exact h2.symm
theorem pick_ref (y a b : Int) : bits .or .u32 (bits .and .u32 y a) (IntKind.u32.wrap (b - bits .and .u32 y b)) = pick y a b := by
 rw [u32_or, u32_and, wrap_W, u32_and, W_U, W_U, W_sub, W_U, and_not_sub]; rfl
def most (a b c : Int) : Int := U ((W a &&& W b) ||| (W a &&& W c) ||| (W b &&& W c))
theorem most_ref (a b c : Int) : bits .or .u32 (bits .or .u32 (bits .and .u32 a b) (bits .and .u32 a c)) (bits .and .u32 b c) = most a b c := by
 simp only [u32_or, u32_and, W_U]; rfl
theorem most_of (a b c : Int) : bits .xor .u32 (bits .xor .u32 (bits .and .u32 a b) (bits .and .u32 a c)) (bits .and .u32 b c) = most a b c := by
 simp only [u32_xor, u32_and, W_U]
 unfold most
 congr 1
 ext i hi; simp; cases (W a)[i] <;> cases (W b)[i] <;> cases (W c)[i] <;> rfl
def wordOf (a b c d : Int) : Int := 16777216 * a + 65536 * b + 256 * c + d
theorem word_of (a b c d : Int) (ha : 0 ≤ a ∧ a ≤ 255) (hb : 0 ≤ b ∧ b ≤ 255) (hc : 0 ≤ c ∧ c ≤ 255) (hd : 0 ≤ d ∧ d ≤ 255) :
  bits .or .u32 (bits .or .u32 (bits .or .u32 (a * 16777216) (b * 65536)) (c * 256)) d = wordOf a b c d := by
 simp only [u32_or, W_U]
 have key : ∀ (x y : Int) (k : Nat), 0 ≤ x → x * 2 ^ k ≤ 4294967295 → 0 ≤ y → y < 2 ^ k → k < 32 → W (x * 2 ^ k) ||| W y = W (x * 2 ^ k + y) := by
  intro x y k h0 h1 h2 h3 h4
  have hp : (0 : Int) < 2 ^ k := Int.pow_pos (by decide)
  have hx1 : 0 ≤ x * 2 ^ k := Int.mul_nonneg h0 (by omega)
  have hpk : (2 : Int) ^ k = ((2 ^ k : Nat) : Int) := by simp
  have hx : x ≤ 4294967295 := by
   have : x * 1 ≤ x * 2 ^ k := Int.mul_le_mul_of_nonneg_left (by omega) h0
   omega
  rw [W_add, BitVec.add_eq_or_of_and_eq_zero]
  rw [W_mul x k h0 hx]
  ext i hi
  simp only [BitVec.getElem_and, BitVec.getElem_shiftLeft, BitVec.getElem_zero]
  by_cases hik : i < k
  ·simp [hik]
  ·simp only [hik, decide_false, Bool.not_false, Bool.true_and]
   have : (W y)[i] = false := by
    rw [← BitVec.getLsbD_eq_getElem]
    have hy : y ≤ 4294967295 := by
     have : (2 : Nat) ^ k ≤ 2 ^ 31 := Nat.pow_le_pow_right (by decide) (by omega)
     omega
    rw [BitVec.getLsbD, W_toNat y h2 hy]
    apply Nat.testBit_lt_two_pow
    calc y.toNat < 2 ^ k := by omega
     _ ≤ 2 ^ i := Nat.pow_le_pow_right (by decide) (by omega)
   rw [this]; simp
 have e1 := key a (b * 65536) 24 ha.1 (by omega) (by omega) (by omega) (by decide)
 have e2 := key (a * 256 + b) (c * 256) 16 (by omega) (by omega) (by omega) (by omega) (by decide)
 have e3 := key (a * 65536 + b * 256 + c) d 8 (by omega) (by omega) (by omega) (by omega) (by decide)
 have r1 : a * 16777216 = a * 2 ^ 24 := by rfl
 rw [r1, e1, show a * 2 ^ 24 + b * 65536 = (a * 256 + b) * 2 ^ 16 from by omega, e2, show (a * 256 + b) * 2 ^ 16 + c * 256 = (a * 65536 + b * 256 + c) * 2 ^ 8 from by omega, e3]
 unfold wordOf
 rw [U_W _ (by omega) (by omega)]
 omega
/-! What the statements of layer 1 ask. -/
end Go.Proofs.YtofadpodlaakbaaGreat

/- The walks of the layer rot and of its reference: what each function answers. -/
namespace Go.Proofs.YtofadpodlaakbaaGreat
open Go.ChangeShapes Go.WideShapes Go.ChangeAt Go.RowKit
set_option linter.unusedVariables false
theorem tmod_u64_32 (n : Int) : (IntKind.u64.wrap n).tmod 32 = n % 32 := by
 rw [wrap_u64, Int.tmod_eq_emod_of_nonneg (Int.emod_nonneg _ (by decide))]; omega
theorem tmod32 (n : Int) : -31 ≤ n.tmod 32 ∧ n.tmod 32 ≤ 31 ∧ Hid ((n.tmod 32 < 0 → n.tmod 32 + 32 = n % 32) ∧ (0 ≤ n.tmod 32 → n.tmod 32 = n % 32)) := by
 have h := Int.tmod_add_mul_tdiv n 32
 have a := Int.tmod_lt_of_pos n (show (0 : Int) < 32 by decide)
 have b := Int.lt_tmod_of_pos n (show (0 : Int) < 32 by decide)
 exact ⟨by omega, by omega, ⟨fun _ => by omega, fun _ => by omega⟩⟩
theorem right_any (x n : Int) (w : World) (hx : 0 ≤ x) (hx2 : x ≤ 4294967295) :
  Calls Tryz.prog 116 #[.int .u32 x, .int .i64 n] w fun e w' => e = .returned (.int .u32 (right x n)) ∧ w = w' := by
 have hk := tmod_u64_32 n
 have h0 : 0 ≤ n % 32 := by omega
 have h1 : n % 32 ≤ 31 := by omega
 have h2 : (32 - n % 32) ≤ 32 := by omega
 go_enter Tryz.func116, Tryz.ntmps116
 go_wp2
 go_ret
 exact ⟨ret1 (right_of x n (n % 32) _ hx hx2 rfl rfl), rfl⟩
theorem right_ref (x n : Int) (w : World) (hx : 0 ≤ x) (hx2 : x ≤ 4294967295) :
  Calls Tryz.prog 107 #[.int .u32 x, .int .i64 n] w fun e w' => e = .returned (.int .u32 (right x n)) ∧ w = w' := by
 obtain ⟨hb, hb2, Hm⟩ := tmod32 n
 by_cases h : n.tmod 32 < 0
 ·go_enter Tryz.func107, Tryz.ntmps107
  go_wp2
  go_ret
  exact ⟨ret1 (right_of x n (n.tmod 32 + 32) _ hx hx2 (by have := Hm.out; omega) (by omega)), rfl⟩
 ·go_enter Tryz.func107, Tryz.ntmps107
  go_wp2
  go_ret
  exact ⟨ret1 (right_of x n (n.tmod 32) _ hx hx2 (by have := Hm.out; omega) (by omega)), rfl⟩
theorem pick_any (y a b : Int) (w : World) :
  Calls Tryz.prog 93 #[.int .u32 y, .int .u32 a, .int .u32 b] w fun e w' => e = .returned (.int .u32 (pick y a b)) ∧ w = w' := by
 go_enter Tryz.func93, Tryz.ntmps93
 go_wp2
 go_ret
 exact ⟨ret1 (pick_of y a b), rfl⟩
theorem most_any (a b c : Int) (w : World) :
  Calls Tryz.prog 94 #[.int .u32 a, .int .u32 b, .int .u32 c] w fun e w' => e = .returned (.int .u32 (most a b c)) ∧ w = w' := by
 go_enter Tryz.func94, Tryz.ntmps94
 go_wp2
 go_ret
 exact ⟨ret1 (most_of a b c), rfl⟩
theorem pick_ref_any (y a b : Int) (w : World) :
  Calls Tryz.prog 108 #[.int .u32 y, .int .u32 a, .int .u32 b] w fun e w' => e = .returned (.int .u32 (pick y a b)) ∧ w = w' := by
 go_enter Tryz.func108, Tryz.ntmps108
 go_wp2
 go_ret
 exact ⟨ret1 (pick_ref y a b), rfl⟩
theorem most_ref_any (a b c : Int) (w : World) :
  Calls Tryz.prog 109 #[.int .u32 a, .int .u32 b, .int .u32 c] w fun e w' => e = .returned (.int .u32 (most a b c)) ∧ w = w' := by
 go_enter Tryz.func109, Tryz.ntmps109
 go_wp2
 go_ret
 exact ⟨ret1 (most_ref a b c), rfl⟩
abbrev fourV (x : Int) : Value := .agg #[.int .u8 (x / 16777216), .int .u8 (x / 65536 % 256), .int .u8 (x / 256 % 256), .int .u8 (x % 256)]
theorem four_any (x : Int) (w : World) (hx : 0 ≤ x) (hx2 : x ≤ 4294967295) :
  Calls Tryz.prog 75 #[.int .u32 x] w fun e w' => e = .returned (fourV x) ∧ Below w.heap.size w w' := by
 go_enter Tryz.func75, Tryz.ntmps75
 go_wp2
 go_rounds 5
 exact bodyPost_ret (v := fourV x) (by simp [results, Tryz.results75, go_sem]) rfl ⟨rfl, by go_grown⟩
theorem four_ref (x : Int) (w : World) (hx : 0 ≤ x) (hx2 : x ≤ 4294967295) :
  Calls Tryz.prog 81 #[.int .u32 x] w fun e w' => e = .returned (fourV x) ∧ Below w.heap.size w w' := by
 go_enter Tryz.func81, Tryz.ntmps81
 go_wp2
 exact bodyPost_ret (v := fourV x) (by simp [results, Tryz.results81, go_sem]) rfl ⟨rfl, by go_grown⟩
abbrev longV (x : Int) : Value := .agg #[.int .u8 (x / 72057594037927936), .int .u8 (x / 281474976710656 % 256), .int .u8 (x / 1099511627776 % 256), .int .u8 (x / 4294967296 % 256), .int .u8 (x / 16777216 % 256), .int .u8 (x / 65536 % 256), .int .u8 (x / 256 % 256), .int .u8 (x % 256)]
theorem long_any (x : Int) (w : World) (hx : 0 ≤ x) (hx2 : x ≤ 18446744073709551615) :
  Calls Tryz.prog 89 #[.int .u64 x] w fun e w' => e = .returned (longV x) ∧ Below w.heap.size w w' := by
 go_enter Tryz.func89, Tryz.ntmps89
 go_wp2
 go_rounds 9
 exact bodyPost_ret (v := longV x) (by simp [results, Tryz.results89, go_sem]) rfl ⟨rfl, by go_grown⟩
theorem long_ref_eq (x : Int) (hx : 0 ≤ x) (hx2 : x ≤ 18446744073709551615) :
  (Value.agg #[.int .u8 (x / 256 / 256 / 256 / 256 / 256 / 256 / 256 % 256), .int .u8 (x / 256 / 256 / 256 / 256 / 256 / 256 % 256), .int .u8 (x / 256 / 256 / 256 / 256 / 256 % 256),
   .int .u8 (x / 256 / 256 / 256 / 256 % 256), .int .u8 (x / 256 / 256 / 256 % 256), .int .u8 (x / 256 / 256 % 256), .int .u8 (x / 256 % 256), .int .u8 (x % 256)]) = longV x := by
 have e1 : x / 256 / 256 / 256 / 256 / 256 / 256 / 256 % 256 = x / 72057594037927936 := by omega
 have e2 : x / 256 / 256 / 256 / 256 / 256 / 256 % 256 = x / 281474976710656 % 256 := by omega
 have e3 : x / 256 / 256 / 256 / 256 / 256 % 256 = x / 1099511627776 % 256 := by omega
 have e4 : x / 256 / 256 / 256 / 256 % 256 = x / 4294967296 % 256 := by omega
 have e5 : x / 256 / 256 / 256 % 256 = x / 16777216 % 256 := by omega
 have e6 : x / 256 / 256 % 256 = x / 65536 % 256 := by omega
 rw [e1, e2, e3, e4, e5, e6]
theorem long_ref (x : Int) (w : World) (hx : 0 ≤ x) (hx2 : x ≤ 18446744073709551615) :
  Calls Tryz.prog 103 #[.int .u64 x] w fun e w' => e = .returned (longV x) ∧ Below w.heap.size w w' := by
 go_enter Tryz.func103, Tryz.ntmps103
 go_wp2
 go_rounds 9
 exact bodyPost_ret (v := longV x) (by rw [← long_ref_eq x hx hx2]; simp [results, Tryz.results103, go_sem]) rfl ⟨rfl, by go_grown⟩
def wordAt (l : List UInt8) (p : Int) : Int :=
 if 0 ≤ p ∧ p + 4 ≤ l.length then wordOf (l.getD p.toNat 0).toNat (l.getD (p.toNat + 1) 0).toNat (l.getD (p.toNat + 2) 0).toNat (l.getD (p.toNat + 3) 0).toNat else 0
def wordIs (l : List UInt8) (p : Int) : Bool := decide (0 ≤ p ∧ p + 4 ≤ l.length)
theorem wordAt_lo (l : List UInt8) (p : Int) : 0 ≤ wordAt l p := by
 unfold wordAt wordOf; split
 ·omega
 ·exact Int.le_refl _
theorem wordAt_hi (l : List UInt8) (p : Int) : wordAt l p ≤ 4294967295 := by
 unfold wordAt wordOf; split
 ·have a := u8_bd (l.getD p.toNat 0)
  have b := u8_bd (l.getD (p.toNat + 1) 0)
  have c := u8_bd (l.getD (p.toNat + 2) 0)
  have d := u8_bd (l.getD (p.toNat + 3) 0)
  omega
 ·decide
theorem word_core (b off n c p : Nat) (x0 x1 x2 x3 : Int) (w : World) (hp : p + 4 ≤ n) (hn : n ≤ c) (hn2 : n ≤ 140737488351232) (hcap : c ≤ 9223372036854775807)
  (b0 : 0 ≤ x0) (b0' : x0 ≤ 255) (b1 : 0 ≤ x1) (b1' : x1 ≤ 255) (b2 : 0 ≤ x2) (b2' : x2 ≤ 255) (b3 : 0 ≤ x3) (b3' : x3 ≤ 255)
  (hc0 : w.cell? ⟨b, off + p, none⟩ = some (.int .u8 x0)) (hc1 : w.cell? ⟨b, off + p + 1, none⟩ = some (.int .u8 x1))
  (hc2 : w.cell? ⟨b, off + p + 2, none⟩ = some (.int .u8 x2)) (hc3 : w.cell? ⟨b, off + p + 3, none⟩ = some (.int .u8 x3)) :
  Calls Tryz.prog 114 #[.slice (some ⟨b, off, none⟩) n c, .int .i64 (p : Int)] w fun e w' => e = .returned (.tuple #[.int .u32 (wordOf x0 x1 x2 x3), .bool true]) ∧ Below w.heap.size w w' := by
 have har : ∀ c, (Instr.arrayAt 105 (.slice (some ⟨b, off + p, none⟩) 4 c)).run Tryz.prog w = .ok (.pointer (some ⟨b, off + p, none⟩)) w := fun c => run_arrayAt (P := Tryz.prog) w 105 5 4 _ 4 c Tryz.underlying105 (by decide)
 go_enter Tryz.func114, Tryz.ntmps114
 go_wp2
 go_ret2
 exact ⟨ret_i (word_of x0 x1 x2 x3 ⟨b0, b0'⟩ ⟨b1, b1'⟩ ⟨b2, b2'⟩ ⟨b3, b3'⟩), by go_grown⟩
theorem word_core_ref (b off n c p : Nat) (x0 x1 x2 x3 : Int) (w : World) (hp : p + 4 ≤ n) (hn : n ≤ c) (hn2 : n ≤ 140737488351232) (hcap : c ≤ 9223372036854775807)
  (b0 : 0 ≤ x0) (b0' : x0 ≤ 255) (b1 : 0 ≤ x1) (b1' : x1 ≤ 255) (b2 : 0 ≤ x2) (b2' : x2 ≤ 255) (b3 : 0 ≤ x3) (b3' : x3 ≤ 255)
  (hc0 : w.cell? ⟨b, off + p, none⟩ = some (.int .u8 x0)) (hc1 : w.cell? ⟨b, off + (p + 1), none⟩ = some (.int .u8 x1))
  (hc2 : w.cell? ⟨b, off + (p + 2), none⟩ = some (.int .u8 x2)) (hc3 : w.cell? ⟨b, off + (p + 3), none⟩ = some (.int .u8 x3)) :
  Calls Tryz.prog 117 #[.slice (some ⟨b, off, none⟩) n c, .int .i64 (p : Int)] w fun e w' => e = .returned (.tuple #[.int .u32 (wordOf x0 x1 x2 x3), .bool true]) ∧ Below w.heap.size w w' := by
 go_enter Tryz.func117, Tryz.ntmps117
 go_wp2
 go_quiet (fail)
 go_wp2
 go_ret2
 exact ⟨rfl, below_drewN (Below.refl _ _) _⟩
theorem word_out (a : Option Addr) (n c : Nat) (p : Int) (w : World) (hn : n ≤ 140737488351232) (hp : p < 0 ∨ n < p + 4) (hp1 : -9223372036854775808 ≤ p) (hp2 : p ≤ 9223372036854775807) :
  Calls Tryz.prog 114 #[.slice a n c, .int .i64 p] w fun e w' => e = .returned (.tuple #[.int .u32 0, .bool false]) ∧ Below w.heap.size w w' := by
 by_cases h : p < 0
 ·go_enter Tryz.func114, Tryz.ntmps114
  go_wp2
  go_ret2
  exact ⟨rfl, by go_grown⟩
 ·have h2 : (n : Int) - 4 < p := by omega
  clear hp
  go_enter Tryz.func114, Tryz.ntmps114
  go_wp2
  go_ret2
  exact ⟨rfl, by go_grown⟩
theorem word_out_ref (a : Option Addr) (n c : Nat) (p : Int) (w : World) (hn : n ≤ 140737488351232) (hp : p < 0 ∨ n < p + 4) (hp1 : -9223372036854775808 ≤ p) (hp2 : p ≤ 9223372036854775807) :
  Calls Tryz.prog 117 #[.slice a n c, .int .i64 p] w fun e w' => e = .returned (.tuple #[.int .u32 0, .bool false]) ∧ Below w.heap.size w w' := by
 by_cases h : p < 0
 ·go_enter Tryz.func117, Tryz.ntmps117
  go_wp2
  go_ret2
  exact ⟨rfl, by go_grown⟩
 ·have h2 : (n : Int) - 4 < p := by omega
  clear hp
  go_enter Tryz.func117, Tryz.ntmps117
  go_wp2
  go_ret2
  exact ⟨rfl, by go_grown⟩
theorem word_tells (w : World) (a : Option Addr) (n c : Nat) (l : List UInt8) (p : Int) (hr : Rd w a n c l) (hn2 : n ≤ 140737488351232) (hp1 : -9223372036854775808 ≤ p) (hp2 : p ≤ 9223372036854775807) (F : Nat)
  (hin : ∀ (b off p : Nat) (x0 x1 x2 x3 : Int), p + 4 ≤ n → 0 ≤ x0 → x0 ≤ 255 → 0 ≤ x1 → x1 ≤ 255 → 0 ≤ x2 → x2 ≤ 255 → 0 ≤ x3 → x3 ≤ 255 →
   w.cell? ⟨b, off + p, none⟩ = some (.int .u8 x0) → w.cell? ⟨b, off + (p + 1), none⟩ = some (.int .u8 x1) → w.cell? ⟨b, off + (p + 2), none⟩ = some (.int .u8 x2) → w.cell? ⟨b, off + (p + 3), none⟩ = some (.int .u8 x3) →
   Calls Tryz.prog F #[.slice (some ⟨b, off, none⟩) n c, .int .i64 (p : Int)] w fun e w' => e = .returned (.tuple #[.int .u32 (wordOf x0 x1 x2 x3), .bool true]) ∧ Below w.heap.size w w')
  (hout : p < 0 ∨ n < p + 4 → Calls Tryz.prog F #[.slice a n c, .int .i64 p] w fun e w' => e = .returned (.tuple #[.int .u32 0, .bool false]) ∧ Below w.heap.size w w') :
  Calls Tryz.prog F #[.slice a n c, .int .i64 p] w fun e w' => e = .returned (.tuple #[.int .u32 (wordAt l p), .bool (wordIs l p)]) ∧ Below w.heap.size w w' := by
 by_cases h : 0 ≤ p ∧ p + 4 ≤ l.length
 ·have e1 : wordIs l p = true := by unfold wordIs; exact decide_eq_true h
  have e2 : wordAt l p = wordOf (l.getD p.toNat 0).toNat (l.getD (p.toNat + 1) 0).toNat (l.getD (p.toNat + 2) 0).toNat (l.getD (p.toNat + 3) 0).toNat := by unfold wordAt; rw [if_pos h]
  rw [e1, e2]
  obtain ⟨q, rfl⟩ := Int.eq_ofNat_of_zero_le h.1
  have hl := hr.len
  rcases hr.cells with h0 | ⟨b, off, rfl, _, hc⟩
  ·omega
  ·exact hin b off q _ _ _ _ (by omega) (u8_bd _).1 (u8_bd _).2 (u8_bd _).1 (u8_bd _).2 (u8_bd _).1 (u8_bd _).2 (u8_bd _).1 (u8_bd _).2 (hc q (by omega)) (hc (q + 1) (by omega)) (hc (q + 2) (by omega)) (hc (q + 3) (by omega))
 ·have e1 : wordIs l p = false := by unfold wordIs; exact decide_eq_false h
  have e2 : wordAt l p = 0 := by unfold wordAt; rw [if_neg h]
  rw [e1, e2]
  exact hout (by have := hr.len; omega)
theorem word_any (w : World) (a : Option Addr) (n c : Nat) (l : List UInt8) (p : Int) (hr : Rd w a n c l) (hn2 : n ≤ 140737488351232) (hp1 : -9223372036854775808 ≤ p) (hp2 : p ≤ 9223372036854775807) :
  Calls Tryz.prog 114 #[.slice a n c, .int .i64 p] w fun e w' => e = .returned (.tuple #[.int .u32 (wordAt l p), .bool (wordIs l p)]) ∧ Below w.heap.size w w' := by
 have hle := hr.le
 have hcap := hr.cap
 refine word_tells w a n c l p hr hn2 hp1 hp2 _ ?_ (fun h => word_out a n c p w (by omega) h hp1 hp2)
 intro b off q x0 x1 x2 x3 hq b0 b0' b1 b1' b2 b2' b3 b3' h0 h1 h2 h3
 exact word_core b off n c q x0 x1 x2 x3 w hq hle hn2 hcap b0 b0' b1 b1' b2 b2' b3 b3' h0 h1 h2 h3
theorem word_ref (w : World) (a : Option Addr) (n c : Nat) (l : List UInt8) (p : Int) (hr : Rd w a n c l) (hn2 : n ≤ 140737488351232) (hp1 : -9223372036854775808 ≤ p) (hp2 : p ≤ 9223372036854775807) :
  Calls Tryz.prog 117 #[.slice a n c, .int .i64 p] w fun e w' => e = .returned (.tuple #[.int .u32 (wordAt l p), .bool (wordIs l p)]) ∧ Below w.heap.size w w' := by
 have hle := hr.le
 have hcap := hr.cap
 refine word_tells w a n c l p hr hn2 hp1 hp2 _ ?_ (fun h => word_out_ref a n c p w (by omega) h hp1 hp2)
 intro b off q x0 x1 x2 x3 hq b0 b0' b1 b1' b2 b2' b3 b3' h0 h1 h2 h3
 exact word_core_ref b off n c q x0 x1 x2 x3 w hq hle hn2 hcap b0 b0' b1 b1' b2 b2' b3 b3' h0 h1 h2 h3
end Go.Proofs.YtofadpodlaakbaaGreat

/- What the layer sha computes, on whole numbers and lists; no program in sight. -/
namespace Go.Proofs.YtofadpodlaakbaaGreat
open Go
set_option linter.unusedVariables false
structure Q8 where
 a : Int
 b : Int
 c : Int
 d : Int
 e : Int
 f : Int
 g : Int
 h : Int
def Q8.cells (s : Q8) : List Value := [.int .u32 s.a, .int .u32 s.b, .int .u32 s.c, .int .u32 s.d, .int .u32 s.e, .int .u32 s.f, .int .u32 s.g, .int .u32 s.h]
def Q8.val (s : Q8) : Value := .agg #[.int .u32 s.a, .int .u32 s.b, .int .u32 s.c, .int .u32 s.d, .int .u32 s.e, .int .u32 s.f, .int .u32 s.g, .int .u32 s.h]
def isW (x : Int) : Prop := 0 ≤ x ∧ x ≤ 4294967295
instance (x : Int) : Decidable (isW x) := inferInstanceAs (Decidable (0 ≤ x ∧ x ≤ 4294967295))
structure Q8.Ok (s : Q8) : Prop where
 a : isW s.a
 b : isW s.b
 c : isW s.c
 d : isW s.d
 e : isW s.e
 f : isW s.f
 g : isW s.g
 h : isW s.h
def addW (x y : Int) : Int := IntKind.u32.wrap (x + y)
theorem addW_ok (x y : Int) : isW (addW x y) := by unfold addW isW; rw [wrap_u32]; omega
def greatP (x a b c : Int) : Int := bits .xor .u32 (bits .xor .u32 (right x a) (right x b)) (right x c)
def smallP (x a b : Int) (c : Nat) : Int := bits .xor .u32 (bits .xor .u32 (right x a) (right x b)) (x / 2 ^ c)
def oneP (k w : Int) (s : Q8) : Int := addW (addW (addW (addW s.h (greatP s.e 6 11 25)) (pick s.e s.f s.g)) k) w
def twoP (s : Q8) : Int := addW (greatP s.a 2 13 22) (most s.a s.b s.c)
def rnd (k w : Int) (s : Q8) : Q8 := ⟨addW (oneP k w s) (twoP s), s.a, s.b, s.c, addW s.d (oneP k w s), s.e, s.f, s.g⟩
theorem rnd_ok (k w : Int) (s : Q8) (h : s.Ok) : (rnd k w s).Ok := ⟨addW_ok _ _, h.a, h.b, h.c, addW_ok _ _, h.e, h.f, h.g⟩
def kL : List Int := [0x428a2f98, 0x71374491, 0xb5c0fbcf, 0xe9b5dba5, 0x3956c25b, 0x59f111f1, 0x923f82a4, 0xab1c5ed5, 0xd807aa98, 0x12835b01, 0x243185be, 0x550c7dc3, 0x72be5d74, 0x80deb1fe, 0x9bdc06a7, 0xc19bf174, 0xe49b69c1, 0xefbe4786, 0x0fc19dc6, 0x240ca1cc, 0x2de92c6f, 0x4a7484aa, 0x5cb0a9dc, 0x76f988da, 0x983e5152, 0xa831c66d, 0xb00327c8, 0xbf597fc7, 0xc6e00bf3, 0xd5a79147, 0x06ca6351, 0x14292967, 0x27b70a85, 0x2e1b2138, 0x4d2c6dfc, 0x53380d13, 0x650a7354, 0x766a0abb, 0x81c2c92e, 0x92722c85, 0xa2bfe8a1, 0xa81a664b, 0xc24b8b70, 0xc76c51a3, 0xd192e819, 0xd6990624, 0xf40e3585, 0x106aa070, 0x19a4c116, 0x1e376c08, 0x2748774c, 0x34b0bcb5, 0x391c0cb3, 0x4ed8aa4a, 0x5b9cca4f, 0x682e6ff3, 0x748f82ee, 0x78a5636f, 0x84c87814, 0x8cc70208, 0x90befffa, 0xa4506ceb, 0xbef9a3f7, 0xc67178f2]
def startQ : Q8 := ⟨0x6a09e667, 0xbb67ae85, 0x3c6ef372, 0xa54ff53a, 0x510e527f, 0x9b05688c, 0x1f83d9ab, 0x5be0cd19⟩
theorem startQ_ok : startQ.Ok := by constructor <;> decide
def nextW (l : List UInt8) (ws : List Int) (i : Nat) : Int :=
 if i < 16 then wordAt l (4 * (i : Int)) else addW (addW (addW (ws.getD (i - 16) 0) (ws.getD (i - 7) 0)) (smallP (ws.getD (i - 15) 0) 7 18 3)) (smallP (ws.getD (i - 2) 0) 17 19 10)
def wordsTo (l : List UInt8) : Nat → List Int
 | 0 => []
 | i + 1 => wordsTo l i ++ [nextW l (wordsTo l i) i]
theorem wordsTo_length (l : List UInt8) (i : Nat) : (wordsTo l i).length = i := by
 induction i with
 | zero => rfl
 | succ i ih => simp [wordsTo, ih]
theorem nextW_ok (l : List UInt8) (ws : List Int) (i : Nat) : isW (nextW l ws i) := by
 unfold nextW; split
 ·exact ⟨wordAt_lo _ _, wordAt_hi _ _⟩
 ·exact addW_ok _ _
theorem wordsTo_ok (l : List UInt8) (i : Nat) : ∀ x ∈ wordsTo l i, isW x := by
 induction i with
 | zero => simp [wordsTo]
 | succ i ih =>
  intro x hx
  rw [wordsTo, List.mem_append, List.mem_singleton] at hx
  rcases hx with hx | rfl
  ·exact ih x hx
  ·exact nextW_ok _ _ _
def roundsTo (ws : List Int) (h : Q8) : Nat → Q8
 | 0 => h
 | i + 1 => rnd (kL.getD i 0) (ws.getD i 0) (roundsTo ws h i)
theorem roundsTo_ok (ws : List Int) (h : Q8) (ho : h.Ok) (i : Nat) : (roundsTo ws h i).Ok := by
 induction i with
 | zero => exact ho
 | succ i ih => exact rnd_ok _ _ _ ih
def Q8.add (h s : Q8) : Q8 := ⟨addW h.a s.a, addW h.b s.b, addW h.c s.c, addW h.d s.d, addW h.e s.e, addW h.f s.f, addW h.g s.g, addW h.h s.h⟩
theorem Q8.add_ok (h s : Q8) : (h.add s).Ok := by constructor <;> exact addW_ok _ _
def blockQ (h : Q8) (l : List UInt8) : Q8 := h.add (roundsTo (wordsTo l 64) h 64)
theorem blockQ_ok (h : Q8) (l : List UInt8) : (blockQ h l).Ok := Q8.add_ok _ _
def blocksQ : Nat → Q8 → List UInt8 → Q8
 | 0, h, _ => h
 | k + 1, h, l => blocksQ k (blockQ h (l.take 64)) (l.drop 64)
theorem blocksQ_ok (k : Nat) : ∀ h l, h.Ok → (blocksQ k h l).Ok := by
 induction k with
 | zero => intro h l ho; exact ho
 | succ k ih => intro h l ho; exact ih _ _ (blockQ_ok _ _)
def longL (x : Nat) : List UInt8 := [UInt8.ofNat (x / 72057594037927936), UInt8.ofNat (x / 281474976710656), UInt8.ofNat (x / 1099511627776), UInt8.ofNat (x / 4294967296), UInt8.ofNat (x / 16777216), UInt8.ofNat (x / 65536), UInt8.ofNat (x / 256), UInt8.ofNat x]
def padN (n : Nat) : Nat := (119 - n % 64) % 64
theorem padN_spec (n : Nat) : (n + 1 + padN n) % 64 = 56 := by unfold padN; omega
theorem padN_min (n j : Nat) (h : j < padN n) : (n + 1 + j) % 64 ≠ 56 := by unfold padN at h; omega
def padL (l : List UInt8) : List UInt8 := l ++ [128] ++ List.replicate (padN l.length) 0 ++ longL (8 * l.length)
theorem padL_length (l : List UInt8) : (padL l).length = l.length + 9 + padN l.length := by
 simp only [padL, longL, List.length_append, List.length_replicate, List.length_cons, List.length_nil]; omega
def sumQ (l : List UInt8) : Q8 := blocksQ ((padL l).length / 64) startQ (padL l)
theorem sumQ_ok (l : List UInt8) : (sumQ l).Ok := blocksQ_ok _ _ _ startQ_ok
def fourL (x : Int) : List Int := [x / 16777216, x / 65536 % 256, x / 256 % 256, x % 256]
def Q8.bytes (s : Q8) : List Int := fourL s.a ++ fourL s.b ++ fourL s.c ++ fourL s.d ++ fourL s.e ++ fourL s.f ++ fourL s.g ++ fourL s.h
def idOf (l : List UInt8) : List Int := (sumQ l).bytes
def idV (l : List UInt8) : Value := .agg ((idOf l).map (Value.int .u8)).toArray
end Go.Proofs.YtofadpodlaakbaaGreat

/- The walks of the layer sha's small functions, and of its reference's. -/
namespace Go.Proofs.YtofadpodlaakbaaGreat
open Go.ChangeShapes Go.WideShapes Go.ChangeAt Go.RowKit
set_option linter.unusedVariables false
theorem right_q (x n : Int) (w : World) (h : isW x) : Calls Tryz.prog 116 #[.int .u32 x, .int .i64 n] w fun e w' => e = .returned (.int .u32 (right x n)) ∧ w' = w :=
 (right_any x n w h.1 h.2).mono fun _ _ ⟨a, b⟩ => ⟨a, b.symm⟩
theorem pick_q (x y z : Int) (w : World) : Calls Tryz.prog 93 #[.int .u32 x, .int .u32 y, .int .u32 z] w fun e w' => e = .returned (.int .u32 (pick x y z)) ∧ w' = w :=
 (pick_any x y z w).mono fun _ _ ⟨a, b⟩ => ⟨a, b.symm⟩
theorem most_q (x y z : Int) (w : World) : Calls Tryz.prog 94 #[.int .u32 x, .int .u32 y, .int .u32 z] w fun e w' => e = .returned (.int .u32 (most x y z)) ∧ w' = w :=
 (most_any x y z w).mono fun _ _ ⟨a, b⟩ => ⟨a, b.symm⟩
theorem great_q (x a b c : Int) (w : World) (h : isW x) : Calls Tryz.prog 92 #[.int .u32 x, .int .i64 a, .int .i64 b, .int .i64 c] w fun e w' => e = .returned (.int .u32 (greatP x a b c)) ∧ w' = w := by
 go_enter Tryz.func92, Tryz.ntmps92
 go_wp2_with fail
 refine (right_q x a _ h).mono ?_
 rintro e w1 ⟨rfl, rfl⟩
 go_wp2_with fail
 refine (right_q x b _ h).mono ?_
 rintro e w1 ⟨rfl, rfl⟩
 go_wp2_with fail
 refine (right_q x c _ h).mono ?_
 rintro e w1 ⟨rfl, rfl⟩
 go_wp2
 go_ret
 exact ⟨rfl, rfl⟩
theorem small_q (x a b : Int) (c : Nat) (w : World) (h : isW x) (hc : c < 32) : Calls Tryz.prog 115 #[.int .u32 x, .int .i64 a, .int .i64 b, .int .i64 (c : Int)] w fun e w' => e = .returned (.int .u32 (smallP x a b c)) ∧ ∃ m, w' = w.drewN m := by
 have hc0 : ¬ (c : Int) < 0 := by omega
 have hc1 : ((c : Int)).toNat = c := by omega
 go_enter Tryz.func115, Tryz.ntmps115
 go_wp2_with fail
 go_quiet ((go_at_call 116; refine Calls.quiet_of_same (right_q _ _ _ ?_); exact h))
 go_wp2
 go_ret
 exact ⟨rfl, _, rfl⟩
theorem start_any (w : World) : Calls Tryz.prog 72 #[] w fun e w' => e = .returned startQ.val ∧ Below w.heap.size w w' := by
 go_enter Tryz.func72, Tryz.ntmps72
 go_wp2
 exact bodyPost_ret (v := startQ.val) (by simp [results, Tryz.results72, go_sem, Q8.val, startQ]) rfl ⟨rfl, by go_grown⟩
theorem there_new (w : World) (cs : List Value) (t : TypeId) : (w.alloc (.cells cs.toArray t)).there w.heap.size 0 cs.length := fun j hj => by
 refine ⟨?_, ?_⟩
 ·rw [new_cell (cs := cs.toArray) (i := 0 + j) (x := cs[j]) (by simp [hj])]; rfl
 ·simp
theorem info_w64 : (Tryz.prog.info? 119).map (·.size) = some 64 := by kernel_rfl
theorem under_w64 : Tryz.prog.underlying 119 = some (.array 64 100) := by kernel_rfl
section
variable {P : Program} {ops : Array Oper} {rest : List Oper} {op : Oper} {a : Act} {w : World} {Q : Exit → Act → World → Prop}
theorem wpList_value (hgd : op.guard = none) (v : Value) (w' : World) (hrun : (execOp a.eval op).run P w = .ok (.value v) w') (h : wpList P ops Q rest (a.put op.dst v) w') : wpList P ops Q (op :: rest) a w :=
 wpList_plain hgd fun K hK => by unfold Oper.wp; rw [hrun]; exact hK _ _ h
theorem wpList_build (hgd : op.guard = none) (ty : TypeId) (xs : _) (ho : op.op = .build ty xs) (v : Value) (hrun : (execOp a.eval op).run P w = .ok (.value v) w) (h : wpList P ops Q rest (a.put op.dst v) w) : wpList P ops Q (op :: rest) a w :=
 wpList_value hgd v w hrun h
theorem wpList_alloc (hgd : op.guard = none) (ty : TypeId) (ho : op.op = .alloc ty) (cs : Array Value) (hrun : (execOp a.eval op).run P w = .ok (.value (.pointer (some ⟨w.heap.size, 0, none⟩))) (w.alloc (.cells cs ty))) (h : wpList P ops Q rest (a.put op.dst (.pointer (some ⟨w.heap.size, 0, none⟩))) (w.alloc (.cells cs ty))) : wpList P ops Q (op :: rest) a w :=
 wpList_value hgd _ _ hrun h
end
theorem below_cells {B g : Nat} (hg : B ≤ g) : ∀ (vs : List Value) (o : Nat) (w0 w : World), Below B w0 w → Below B w0 (w.setCells g o vs)
 | [], _, _, _, h => h
 | v :: r, o, w0, w, h => by rw [World.setCells]; exact below_cells hg r (o + 1) w0 _ (h.setCell (p := ⟨g, o, none⟩) hg v)
def zeros64 : List Value := List.replicate 64 (.int .u32 0)
def kV : List Value := kL.map (Value.int .u32)
theorem kV_length : kV.length = 64 := by decide +kernel
theorem kV_one : ∀ v ∈ kV, v.oneCell' = true := by intro v hv; obtain ⟨x, _, rfl⟩ := List.mem_map.1 hv; rfl
set_option maxRecDepth 100000 in
theorem constants_any (w : World) : Calls Tryz.prog 90 #[] w fun e w' => e = .returned (.agg kV.toArray) ∧ Below w.heap.size w w' := by
 have hkr : (World.setCells (w.alloc (.cells zeros64.toArray 119)) w.heap.size 0 kV).rangeAt w.heap.size 0 kV := World.rangeAt_setCells_same _ _ _ _ (by rw [kV_length]; exact there_new w zeros64 _)
 go_enter Tryz.func90, Tryz.ntmps90
 iterate 3 go_step
 refine wpList_alloc rfl 119 rfl zeros64.toArray (by kernel_rfl) ?_
 simp only [Act.put, List.setIfInBounds_toArray, List.set_cons_zero]
 go_step
 rename_i K hK
 refine hK _ _ ?_
 iterate 2 go_step
 refine wpList_build rfl 119 _ rfl (.agg kV.toArray) (by kernel_rfl) ?_
 simp only [Act.put, List.setIfInBounds_toArray, List.set_cons_zero, List.set_cons_succ]
 refine wpList_store_mid rfl 119 (.tmp 0) (.tmp 1) rfl w.heap.size 0 kV.toArray rfl rfl ?h1 ?h2 ?h3 ?_
 case h1 => exact (there_new w zeros64 _)
 case h2 => exact info_w64.trans (congrArg some (by rw [List.size_toArray, kV_length]))
 case h3 => exact all_oneCell_toArray kV_one
 go_step
 rename_i K2 hK2
 refine hK2 _ _ ?_
 go_step
 refine bodyPost_ret (v := .agg kV.toArray) ?_ rfl ⟨rfl, ?_⟩
 ·rw [List.toList_toArray]
  have hl := run_loadVar_mid (P := Tryz.prog) _ w.heap.size 0 119 kV _ hkr under_w64 rfl (info_w64.trans (congrArg some kV_length.symm))
  simp [results, Tryz.results90, Act.put, asAddr, hl]
 ·rw [List.toList_toArray]
  exact below_cells (Nat.le_refl _) _ _ _ _ ((Below.refl _ _).alloc (Nat.le_refl _) _)
end Go.Proofs.YtofadpodlaakbaaGreat

/- The walk of the words of a block: sha.spread. -/
namespace Go.Proofs.YtofadpodlaakbaaGreat
open Go.ChangeShapes Go.WideShapes Go.ChangeAt Go.RowKit
set_option linter.unusedVariables false
def wsV (l : List UInt8) (k : Nat) : List Value := (wordsTo l k ++ List.replicate (64 - k) 0).map (Value.int .u32)
theorem wsV_length (l : List UInt8) (k : Nat) (h : k ≤ 64) : (wsV l k).length = 64 := by
 simp only [wsV, List.length_map, List.length_append, wordsTo_length, List.length_replicate]; omega
theorem wsV_zero (l : List UInt8) : wsV l 0 = zeros64 := by simp [wsV, wordsTo, zeros64]
theorem wsV_full (l : List UInt8) : wsV l 64 = (wordsTo l 64).map (Value.int .u32) := by simp [wsV]
theorem wsV_succ (l : List UInt8) (k : Nat) (h : k < 64) : wsV l (k + 1) = (wsV l k).set k (.int .u32 (nextW l (wordsTo l k) k)) := by
 have hr : List.replicate (64 - k) (0 : Int) = 0 :: List.replicate (64 - (k + 1)) 0 := by
  rw [show 64 - k = (64 - (k + 1)) + 1 by omega, List.replicate_succ]
 unfold wsV
 rw [wordsTo, hr, ← List.map_set]
 congr 1
 rw [List.set_append, if_neg (by rw [wordsTo_length]; omega), wordsTo_length]
 simp
theorem wsV_get (l : List UInt8) (k j : Nat) (h : j < k) : (wsV l k)[j]? = some (.int .u32 ((wordsTo l k).getD j 0)) := by
 unfold wsV
 rw [List.getElem?_map, List.getElem?_append_left (by rw [wordsTo_length]; exact h), List.getD_eq_getElem?_getD, List.getElem?_eq_getElem (by rw [wordsTo_length]; exact h)]
 rfl
theorem wordsTo_isW (l : List UInt8) (k j : Nat) : isW ((wordsTo l k).getD j 0) := by
 rw [List.getD_eq_getElem?_getD]
 cases h : (wordsTo l k)[j]? with
 | none => exact ⟨by decide, by decide⟩
 | some x => exact wordsTo_ok l k x (List.mem_of_getElem? h)
theorem rangeAt_set {w : World} {b : Nat} {cs : List Value} (h : w.rangeAt b 0 cs) (k : Nat) (v : Value) (hk : k < cs.length) : (w.setCell ⟨b, k, none⟩ v).rangeAt b 0 (cs.set k v) := fun j x hj => by
 rw [Nat.zero_add]
 by_cases e : j = k
 ·subst e
  rw [List.getElem?_set_self hk] at hj
  cases hj
  have := h j cs[j] (List.getElem?_eq_getElem hk)
  rw [Nat.zero_add] at this
  exact World.cell?_setCell_same _ _ _ this
 ·rw [List.getElem?_set_ne (by omega)] at hj
  rw [World.cell?_setCell_other _ _ _ _ (by intro h; cases h; exact e rfl)]
  have := h j x hj
  rwa [Nat.zero_add] at this
theorem rangeAt_below {w v : World} {b o : Nat} {cs : List Value} {B : Nat} (h : w.rangeAt b o cs) (hb : Below B w v) (hB : b < B) : v.rangeAt b o cs := fun j x hj => by
 rw [hb.cell hB]; exact h j x hj
theorem there_below {w v : World} {b o n : Nat} {B : Nat} (h : w.there b o n) (hb : Below B w v) (hB : b < B) : v.there b o n := fun j hj => by
 obtain ⟨h1, h2⟩ := h j hj
 exact ⟨by rw [hb.cell hB]; exact h1, by rw [hb.frozen hB]; exact h2⟩
theorem there_set {w : World} {b o n : Nat} (h : w.there b o n) (p : Addr) (v : Value) : (w.setCell p v).there b o n := fun j hj => by
 obtain ⟨h1, h2⟩ := h j hj
 obtain ⟨u, hu⟩ := Option.isSome_iff_exists.1 h1
 refine ⟨?_, by rw [World.frozen?_setCell]; exact h2⟩
 by_cases e : p = ⟨b, o + j, none⟩
 ·subst e; rw [World.cell?_setCell_same _ _ _ hu]; rfl
 ·rw [World.cell?_setCell_other _ _ _ _ e, hu]; rfl
theorem there_at {w : World} {b n : Nat} (h : w.there b 0 n) (k : Nat) (hk : k < n) : ∃ u, w.cell? ⟨b, k, none⟩ = some u ∧ w.frozen? ⟨b, k, none⟩ = false := by
 obtain ⟨h1, h2⟩ := h k hk
 rw [Nat.zero_add] at h1 h2
 obtain ⟨u, hu⟩ := Option.isSome_iff_exists.1 h1
 exact ⟨u, hu, h2⟩
theorem wsV_size (l : List UInt8) : (wsV l 64).toArray.size = 64 := by rw [List.size_toArray, wsV_length l 64 (Nat.le_refl _)]
theorem wsV_one (l : List UInt8) (k : Nat) : ∀ v ∈ wsV l k, v.oneCell' = true := by intro v hv; obtain ⟨x, _, rfl⟩ := List.mem_map.1 hv; rfl
theorem sub_wrap (k j : Nat) (m : Int) (h : (k : Int) - m = (j : Int)) (hk : k < 64) (hm : 0 ≤ m) : IntKind.i64.wrap ((k : Int) - m) = (j : Int) := by
 rw [IntWalk.i64_in _ ⟨by omega, by omega⟩]; exact h
theorem small_3 (x : Int) (w : World) (h : isW x) : Calls Tryz.prog 115 #[.int .u32 x, .int .i64 7, .int .i64 18, .int .i64 3] w fun e w' => e = .returned (.int .u32 (smallP x 7 18 3)) ∧ ∃ m, w' = w.drewN m := small_q x 7 18 3 w h (by decide)
theorem small_10 (x : Int) (w : World) (h : isW x) : Calls Tryz.prog 115 #[.int .u32 x, .int .i64 17, .int .i64 19, .int .i64 10] w fun e w' => e = .returned (.int .u32 (smallP x 17 19 10)) ∧ ∃ m, w' = w.drewN m := small_q x 17 19 10 w h (by decide)
theorem wsV_cell {l : List UInt8} {k : Nat} {wr : World} {b : Nat} (h : wr.rangeAt b 0 (wsV l k)) (j : Nat) (hj : j < k) : wr.cell? ⟨b, j, none⟩ = some (.int .u32 ((wordsTo l k).getD j 0)) := by
 have := h j _ (wsV_get l k j hj)
 rwa [Nat.zero_add] at this
set_option maxRecDepth 100000 in
set_option maxHeartbeats 1000000 in
theorem spread_any (a : Option Addr) (c : Nat) (l : List UInt8) (w : World) (hr : Rd w a 64 c l) : Calls Tryz.prog 91 #[.slice a 64 c] w fun e w' => e = .returned (.agg (wsV l 64).toArray) ∧ Below w.heap.size w w' := by
 go_enter Tryz.func91, Tryz.ntmps91
 iterate 3 go_step
 refine wpList_alloc rfl 119 rfl zeros64.toArray (by kernel_rfl) ?_
 simp only [Act.put, List.setIfInBounds_toArray, List.set_cons_zero, List.set_cons_succ]
 go_step
 rename_i K hK
 refine hK _ _ ?_
 have H0 := Lib.hid (there_new w zeros64 119)
 obtain ⟨w1, hw1⟩ : ∃ w1, w1 = w.alloc (.cells zeros64.toArray 119) := ⟨_, rfl⟩
 rw [← hw1]
 have HB1 : Below w.heap.size w w1 := by rw [hw1]; exact (Below.refl _ _).alloc (Nat.le_refl _) _
 have HR1 : w1.rangeAt w.heap.size 0 (wsV l 0) := by
  rw [wsV_zero, hw1]
  intro j v hj
  exact new_cell (cs := zeros64.toArray) (by rw [Nat.zero_add]; simpa using hj)
 rw [← hw1] at H0
 clear hw1
 go_wp2_with fail
 go_loopw [3, 4] (fun iv kv wr => ∃ k : Nat, k ≤ 64 ∧ kv = .int .i64 (k : Int) ∧ Hid (wr.rangeAt w.heap.size 0 (wsV l k)) ∧ Hid (wr.there w.heap.size 0 64) ∧ Below w.heap.size w wr)
  (fun _ kv _ => 64 - (intOf kv).toNat)
 case atStart => exact ⟨0, by omega, rfl, HR1, H0.out, HB1⟩
 case round =>
  obtain ⟨k, hk, rfl, hR, hT, hB⟩ := hrel
  by_cases hlt : k < 64
  ·have hlt' : (k : Int) < 64 := by omega
   by_cases h16 : k < 16
   ·have h16' : (k : Int) < 16 := by omega
    have HN := Lib.hid (show nextW l (wordsTo l k) k = wordAt l ((k : Int) * 4) by unfold nextW; rw [if_pos h16, Int.mul_comm])
    go_wp2_with fail
    refine (word_any wr a 64 c l ((k : Int) * 4) (hr.below hB) (by omega) (by omega) (by omega)).mono ?_
    rintro e v2 ⟨rfl, hb2⟩
    obtain ⟨u0, hu0, _⟩ := there_at hT.out k hlt
    have hRlt := World.block_lt_of_cell? _ _ hu0
    have hT2 := Lib.hid (there_below hT.out hb2 hRlt)
    have hR2 := Lib.hid (rangeAt_below hR.out hb2 hRlt)
    obtain ⟨u1, hu1, hf1⟩ := there_at hT2.out k hlt
    have hk0 : (0 : Int) ≤ (k : Int) := by omega
    go_wp2
    go_roundw
    case rel => exact ⟨k + 1, by omega, by go_num, by rw [wsV_succ l k hlt, HN.out]; exact rangeAt_set hR2.out k _ (by rw [wsV_length l k hk]; exact hlt), there_set hT2.out _ _, (hB.trans (hb2.mono hB.size)).setCell (p := ⟨w.heap.size, k, none⟩) (Nat.le_refl _) _⟩
    case measure => simp [intOf]; omega
   ·have h16' : ¬ (k : Int) < 16 := by omega
    have hk0 : (0 : Int) ≤ (k : Int) := by omega
    have HN := Lib.hid (show nextW l (wordsTo l k) k = addW (addW (addW ((wordsTo l k).getD (k - 16) 0) ((wordsTo l k).getD (k - 7) 0)) (smallP ((wordsTo l k).getD (k - 15) 0) 7 18 3)) (smallP ((wordsTo l k).getD (k - 2) 0) 17 19 10) by unfold nextW; rw [if_neg h16])
    obtain ⟨j16, e16⟩ : ∃ j, j = k - 16 := ⟨_, rfl⟩
    obtain ⟨j7, e7⟩ : ∃ j, j = k - 7 := ⟨_, rfl⟩
    obtain ⟨j15, e15⟩ : ∃ j, j = k - 15 := ⟨_, rfl⟩
    obtain ⟨j2, e2⟩ : ∃ j, j = k - 2 := ⟨_, rfl⟩
    rw [← e16, ← e7, ← e15, ← e2] at HN
    have c16 := wsV_cell hR.out j16 (by omega)
    have c7 := wsV_cell hR.out j7 (by omega)
    have c15 := wsV_cell hR.out j15 (by omega)
    have c2 := wsV_cell hR.out j2 (by omega)
    have o15 := wordsTo_isW l k j15
    have o2 := wordsTo_isW l k j2
    generalize (wordsTo l k).getD j16 0 = x16 at *
    generalize (wordsTo l k).getD j7 0 = x7 at *
    generalize (wordsTo l k).getD j15 0 = x15 at *
    generalize (wordsTo l k).getD j2 0 = x2 at *
    obtain ⟨u1, hu1, hf1⟩ := there_at hT.out k hlt
    have hRlt := World.block_lt_of_cell? _ _ hu1
    have j16' : (k : Int) - 16 = (j16 : Int) := by omega
    have q16 : IntKind.i64.wrap ((k : Int) - 16) = (j16 : Int) := sub_wrap k _ _ j16' hlt (by decide)
    have j7' : (k : Int) - 7 = (j7 : Int) := by omega
    have q7 : IntKind.i64.wrap ((k : Int) - 7) = (j7 : Int) := sub_wrap k _ _ j7' hlt (by decide)
    have j15' : (k : Int) - 15 = (j15 : Int) := by omega
    have q15 : IntKind.i64.wrap ((k : Int) - 15) = (j15 : Int) := sub_wrap k _ _ j15' hlt (by decide)
    have j2' : (k : Int) - 2 = (j2 : Int) := by omega
    have q2 : IntKind.i64.wrap ((k : Int) - 2) = (j2 : Int) := sub_wrap k _ _ j2' hlt (by decide)
    have b16 : (j16 : Int) < 64 := by omega
    have z16 : (0 : Int) ≤ (j16 : Int) := by omega
    have b7 : (j7 : Int) < 64 := by omega
    have z7 : (0 : Int) ≤ (j7 : Int) := by omega
    have b15 : (j15 : Int) < 64 := by omega
    have z15 : (0 : Int) ≤ (j15 : Int) := by omega
    have b2 : (j2 : Int) < 64 := by omega
    have z2 : (0 : Int) ≤ (j2 : Int) := by omega
    have N4 := Lib.hid (show j16 < k ∧ j7 < k ∧ j15 < k ∧ j2 < k from ⟨by omega, by omega, by omega, by omega⟩)
    clear e16 e7 e15 e2 j16' j7' j15' j2'
    go_wp2_with fail
    clear hr h16' hk
    go_region_held3 (fun w' => w'.cell? ⟨w.heap.size, j16, none⟩ = some (.int .u32 x16) ∧ w'.cell? ⟨w.heap.size, j7, none⟩ = some (.int .u32 x7) ∧ w'.cell? ⟨w.heap.size, j15, none⟩ = some (.int .u32 x15) ∧ w'.cell? ⟨w.heap.size, j2, none⟩ = some (.int .u32 x2))
     (first | exact ⟨c16, c7, c15, c2⟩ | assumption | (have N5 := N4.out; go_split_ands; refine ⟨?_, ?_, ?_, ?_⟩ <;> (rw [World.cell?_setCell_other _ _ _ _ (by intro h; cases h; omega)]; assumption)))
     (first
      | (go_at_call_of 115 (Value.int .i64 7); refine (small_3 _ _ o15).mono ?_; rintro e v1 ⟨rfl, m1, rfl⟩)
      | (go_at_call_of 115 (Value.int .i64 17); refine (small_10 _ _ o2).mono ?_; rintro e v2 ⟨rfl, m2, rfl⟩))
    go_wp2
    have HS := Lib.hid (rangeAt_set (rangeAt_below hR.out (below_drewN (Below.refl _ wr) (1 + m1 + m2)) hRlt) k (.int .u32 (nextW l (wordsTo l k) k)) (by rw [wsV_length l k (Nat.le_of_lt hlt)]; exact hlt))
    go_roundw
    case rel => exact ⟨k + 1, by omega, by go_num, by rw [wsV_succ l k hlt]; have h := HS.out; rw [HN.out] at h ⊢; exact h, there_set (there_below hT.out (below_drewN (Below.refl _ wr) (1 + m1 + m2)) hRlt) _ _, (below_drewN hB (1 + m1 + m2)).setCell (p := ⟨w.heap.size, k, none⟩) (Nat.le_refl _) _⟩
    case measure => simp [intOf]; omega
  ·have hlt' : ¬ (k : Int) < 64 := by omega
   obtain rfl : k = 64 := by omega
   go_upto_region 8 with fail
   go_step
   refine wpList_load_mid rfl 119 (.tmp 2) rfl w.heap.size 0 rfl (wsV l 64) _ hR.out under_w64 rfl (info_w64.trans (congrArg some (wsV_length l 64 (Nat.le_refl _)).symm)) ?_
   simp only [Act.put, List.setIfInBounds_toArray, List.set_cons_zero, List.set_cons_succ]
   refine wpList_store_mid rfl 119 (.tmp 2) (.tmp 42) rfl w.heap.size 0 (wsV l 64).toArray rfl rfl ?h1 ?h2 ?h3 ?_
   case h1 => rw [wsV_size]; exact hT.out
   case h2 => rw [wsV_size]; exact info_w64
   case h3 => exact all_oneCell_toArray (wsV_one l 64)
   go_step
   rename_i K2 hK2
   refine hK2 _ _ ?_
   go_step
   refine bodyPost_ret (v := .agg (wsV l 64).toArray) ?_ rfl ⟨rfl, ?_⟩
   ·rw [List.toList_toArray]
    have hl := run_loadVar_mid (P := Tryz.prog) _ w.heap.size 0 119 (wsV l 64) _ (World.rangeAt_setCells_same wr w.heap.size 0 (wsV l 64) (by rw [wsV_length l 64 (Nat.le_refl _)]; exact hT.out)) under_w64 rfl (info_w64.trans (congrArg some (wsV_length l 64 (Nat.le_refl _)).symm))
    simp [results, Tryz.results91, Act.put, asAddr, hl]
   ·rw [List.toList_toArray]
    exact below_cells (Nat.le_refl _) _ _ _ _ hB
end Go.Proofs.YtofadpodlaakbaaGreat

/- The walk of sha.Pad. -/
namespace Go.Proofs.YtofadpodlaakbaaGreat
open Go.ChangeShapes Go.WideShapes Go.ChangeAt Go.RowKit
set_option linter.unusedVariables false
theorem made_copied {P : Program} (t e ty : TypeId) (hu : P.underlying t = some (.slice e)) (hs : (P.info? e).map (·.size) = some 1) (w : World) (n c C : Nat) (a : Option Addr) (l : List UInt8) (hnC : n ≤ C) (hC : C ≤ maxLen) (z : Array Value) (hr : Rd w a n c l) :
  ∃ w', (Builtin.copy_ #[t, t] ty #[.slice (some ⟨w.heap.size, 0, none⟩) n C, .slice a n c]).run P (w.alloc (.cells (madeCells z C) e)) = .ok (goInt (n : Int)) w' ∧
   w'.ownsRow w.heap.size e 1 (.slice (some ⟨w.heap.size, 0, none⟩) n C) n (l.map B) ∧ Below w.heap.size w w' := by
 have hb1 : Below w.heap.size w (w.alloc (.cells (madeCells z C) e)) := (Below.refl _ _).alloc (Nat.le_refl _) _
 have hnew := heap_alloc_new w (.cells (madeCells z C) e)
 have hl := hr.len
 rcases hr.cells with h0 | ⟨b, off, rfl, hlt, hc⟩
 ·subst h0
  obtain rfl : l = [] := List.eq_nil_of_length_eq_zero hl
  exact ⟨_, run_copy_none _ t t ty e _ _ 0 C 0 c hu hs rfl, ⟨rfl, .inr ⟨w.heap.size, C, madeCells z C, rfl, Nat.le_refl _, hnew, hnC, hC, by rw [size_madeCells, Nat.mul_one], by simp⟩⟩, hb1⟩
 ·have hrun := run_copy_row (P := P) (w.alloc (.cells (madeCells z C) e)) t t ty e w.heap.size 0 n C ⟨b, off, none⟩ n c (madeCells z C) e (l.map B) hu hs hnew (by simp [hl]) (by
   intro j v hv
   have hj : j < n := by have := (List.getElem?_eq_some_iff.1 hv).1; simpa [hl] using this
   have hadd : (⟨b, off, none⟩ : Addr).add j = ⟨b, off + j, none⟩ := by unfold Addr.add; split <;> simp_all
   rw [hadd, World.cell?_alloc_lt w _ _ hlt, hc j hj]
   have hjl : j < l.length := by omega
   rw [List.getElem?_map, List.getElem?_eq_getElem hjl] at hv
   simp only [Option.map_some, Option.some.injEq] at hv
   rw [← hv, List.getD_eq_getElem?_getD, List.getElem?_eq_getElem hjl]; rfl) (by rw [size_madeCells]; simp; omega) (by intro v hv; obtain ⟨x, _, rfl⟩ := List.mem_map.1 hv; rfl)
  rw [List.length_map, hl] at hrun
  have hcur : ((List.take 0 (madeCells z C).toList ++ l.map B ++ List.drop (0 + n) (madeCells z C).toList).toArray : Array Value).size = C := by
   have := size_madeCells z C
   simp [hl, this]; omega
  refine ⟨_, hrun, ⟨by simp [hl], .inr ⟨w.heap.size, C, _, rfl, Nat.le_refl _, setRow_heap _ _ _ _ _ _ hnew, hnC, hC, by rw [Nat.mul_one]; exact hcur, ?_⟩⟩, below_setRow hb1 (Nat.le_refl _) _⟩
  simp [hl]
theorem long_cells (x : Nat) (h : x < 18446744073709551616) : (longL x).map B = [.int .u8 ((x : Int) / 72057594037927936), .int .u8 ((x : Int) / 281474976710656 % 256), .int .u8 ((x : Int) / 1099511627776 % 256), .int .u8 ((x : Int) / 4294967296 % 256), .int .u8 ((x : Int) / 16777216 % 256), .int .u8 ((x : Int) / 65536 % 256), .int .u8 ((x : Int) / 256 % 256), .int .u8 ((x : Int) % 256)] := by
 simp only [longL, List.map_cons, List.map_nil, B, UInt8.toNat_ofNat']
 simp only [List.cons.injEq, Value.int.injEq, true_and, and_true]
 omega
set_option maxRecDepth 100000 in
set_option maxHeartbeats 2000000 in
theorem pad_any (a : Option Addr) (n c : Nat) (l : List UInt8) (w : World) (hr : Rd w a n c l) (hn : n ≤ 5000) : Calls Tryz.prog 73 #[.slice a n c] w (OwnB (padL l) w) := by
 obtain ⟨i0, hi, hz0, hz1, hz2⟩ := info_parts info_u8
 have hmk : ∀ w : World, (Instr.makeSlice 28 (.int .i64 (n : Int)) (.int .i64 ((n : Int) + 128))).run Tryz.prog w = .ok (.slice (some ⟨w.heap.size, 0, none⟩) n (n + 128)) (w.alloc (.cells (madeCells #[.int .u8 0] (n + 128)) 5)) := fun w => by
  have := run_make w 28 5 i0 (.int .u8 0) Tryz.underlying28 hi hz0 .i64 .i64 (n : Int) ((n + 128 : Nat) : Int) (by omega) (by omega) (by rw [hz2]; omega) (by omega)
  rw [hz1, show ((n : Int)).toNat = n by omega, show (((n + 128 : Nat) : Int)).toNat = n + 128 by omega, Nat.mul_one, show (((n + 128 : Nat) : Int)) = (n : Int) + 128 by omega] at this
  exact this
 have HI := Lib.hid (show True ∧ i0.size = 1 ∧ i0.bytes = 1 from ⟨trivial, hz1, hz2⟩)
 have hl := hr.len
 obtain ⟨w2, hcp, hown, hb⟩ := made_copied (P := Tryz.prog) 28 5 3 Tryz.underlying28 (by kernel_rfl) w n c (n + 128) a l (by omega) (by unfold maxLen; omega) #[.int .u8 0] hr
 have hb2a : Below w2.heap.size w2 (w2.alloc (.cells #[.int .u8 128] 5)) := (Below.refl _ _).alloc (Nat.le_refl _) _
 have hr3 : Rd (w2.alloc (.cells #[.int .u8 128] 5)) (some ⟨w2.heap.size, 0, none⟩) 1 1 [128] := Rd.made w2 [128] 5 (by decide)
 obtain ⟨v3, w3, hrun3, hown3, hg3⟩ := run_app (P := Tryz.prog) (ty := 28) Tryz.underlying28 hi hz0 hz1 hz2 rfl (ownsRow_below hown hb2a) hr3 (by intro h; cases h) (by omega) (Nat.le_trans hb.size hb2a.size)
 have hb3 := below_own (Below.step hb hb2a) (ownsRow_below hown hb2a) hg3 (Nat.le_trans hb.size hb2a.size)
 have HRUN := Lib.hid hrun3
 have HB3 := Lib.hid hb3
 have HR := Lib.hid hr
 have HOWN3 := Lib.hid hown3
 have HN := Lib.hid hn
 clear hr hown hb hb2a hr3 hrun3 hg3 hb3
 go_enter Tryz.func73, Tryz.ntmps73
 go_wp2_with (at_builtin; refine Lib.wpList_append_run _ rfl _ _ _ _ rfl _ _ rfl rfl _ _ HRUN.out ?_)
 clear hcp hmk HRUN
 go_loopw [3] (fun vv wr => ∃ j : Nat, j ≤ padN n ∧ Hid (wr.ownsRow w.heap.size 5 1 vv (n + 1 + j) ((l ++ [128] ++ List.replicate j 0).map B)) ∧ Hid (Below w.heap.size w wr))
  (fun vv _ => match vv with | .slice _ m _ => 8000 - m | _ => 0)
 case atStart => exact ⟨0, Nat.zero_le _, Lib.hid (by have := HOWN3.out; simpa using this), HB3.out⟩
 case round =>
  obtain ⟨j, hj, hO, hB⟩ := hrel
  obtain ⟨a3, c3, rfl, hr3⟩ := Rd.of_own hO.out
  by_cases hlt : j < padN n
  ·have hm := padN_min n j hlt
   obtain ⟨m, hmm⟩ : ∃ m, m = n + 1 + j := ⟨_, rfl⟩
   rw [← hmm] at hm hO hr3 ⊢
   have hm' : ¬ (m : Int) % 64 = 56 := by omega
   have hbr : Below wr.heap.size wr (wr.alloc (.cells #[.int .u8 0] 5)) := (Below.refl _ _).alloc (Nat.le_refl _) _
   have hr4 : Rd (wr.alloc (.cells #[.int .u8 0] 5)) (some ⟨wr.heap.size, 0, none⟩) 1 1 [0] := Rd.made wr [0] 5 (by decide)
   obtain ⟨v4, w4, hrun4, hown4, hg4⟩ := run_app (P := Tryz.prog) (ty := 28) Tryz.underlying28 hi hz0 hz1 hz2 rfl (ownsRow_below hO.out hbr) hr4 (by intro h; cases h) (by have := HN.out; unfold padN at hj; omega) (Nat.le_trans hB.out.size hbr.size)
   have hb4 := below_own (Below.step hB.out hbr) (ownsRow_below hO.out hbr) hg4 (Nat.le_trans hB.out.size hbr.size)
   obtain ⟨a4, c4, rfl, _⟩ := Rd.of_own (l := l ++ [128] ++ List.replicate j 0 ++ [0]) (by rw [List.map_append]; exact hown4)
   have HRUN := Lib.hid hrun4
   have HO4 := Lib.hid hown4
   have HB4 := Lib.hid hb4
   have HMM := Lib.hid hmm
   clear hrun4 hown4 hb4 hg4 hr4 hbr hr3 hm hmm
   go_wp2_with (at_builtin; refine Lib.wpList_append_run _ rfl _ _ _ _ rfl _ _ rfl rfl _ _ HRUN.out ?_)
   have hn' := HN.out
   have hp' : padN n < 64 := by unfold padN; omega
   refine ⟨⟨j + 1, by omega, Lib.hid ?_, HB4.out⟩, ?_⟩
   ·have := HO4.out
    rw [show n + 1 + (j + 1) = m + 1 by have := HMM.out; omega, List.replicate_succ', ← List.append_assoc, List.map_append]
    exact this
   ·have := HMM.out
    show 8000 - (m + 1) < 8000 - m
    omega
  ·obtain rfl : j = padN n := by omega
   have hm := padN_spec n
   obtain ⟨m, hmm⟩ : ∃ m, m = n + 1 + padN n := ⟨_, rfl⟩
   rw [← hmm] at hm hO hr3 ⊢
   have hm' : (m : Int) % 64 = 56 := by omega
   have hn' : (n : Int) ≤ 5000 := by have := HN.out; omega
   have HMM := Lib.hid hmm
   clear hr3 hm hmm
   go_wp2_with fail
   refine (long_any ((n : Int) * 8) wr (by omega) (by omega)).mono ?_
   rintro e w5 ⟨rfl, hb5⟩
   have hlc := long_cells (8 * n) (by have := HN.out; omega)
   rw [show (((8 * n : Nat)) : Int) = (n : Int) * 8 by omega] at hlc
   have hr6 : Rd (w5.alloc (.cells ((longL (8 * n)).map B).toArray 117)) (some ⟨w5.heap.size, 0, none⟩) 8 8 (longL (8 * n)) := Rd.made w5 (longL (8 * n)) 117 (by simp [longL])
   rw [hlc] at hr6
   have hO5 := ownsRow_below hO.out hb5
   have hb6 : Below w5.heap.size w5 (w5.alloc (.cells ([.int .u8 ((n : Int) * 8 / 72057594037927936), .int .u8 ((n : Int) * 8 / 281474976710656 % 256), .int .u8 ((n : Int) * 8 / 1099511627776 % 256), .int .u8 ((n : Int) * 8 / 4294967296 % 256), .int .u8 ((n : Int) * 8 / 16777216 % 256), .int .u8 ((n : Int) * 8 / 65536 % 256), .int .u8 ((n : Int) * 8 / 256 % 256), .int .u8 ((n : Int) * 8 % 256)] : List Value).toArray 117)) := (Below.refl _ _).alloc (Nat.le_refl _) _
   have hb56 := Below.step hb5 hb6
   obtain ⟨v7, w7, hrun7, hown7, hg7⟩ := run_app (P := Tryz.prog) (ty := 28) Tryz.underlying28 hi hz0 hz1 hz2 rfl (ownsRow_below hO5 hb6) hr6 (by intro h; cases h) (by have := HN.out; have := HMM.out; unfold padN at this; omega) (Nat.le_trans hB.out.size hb56.size)
   have hb7 := below_own (Below.step hB.out hb56) (ownsRow_below hO5 hb6) hg7 (Nat.le_trans hB.out.size hb56.size)
   have HRUN := Lib.hid hrun7
   have HO7 := Lib.hid hown7
   have HB7 := Lib.hid hb7
   clear hrun7 hown7 hg7 hb7 hr6 hlc hO5 hb6 hb56 hb5
   go_wp2_with (at_builtin; refine Lib.wpList_append_run _ rfl _ _ _ _ rfl _ _ rfl rfl _ _ HRUN.out ?_)
   go_ret
   refine ⟨v7, rfl, ?_, HB7.out⟩
   have h7 := HO7.out
   rw [padL_length, hl, show n + 9 + padN n = m + 8 by have := HMM.out; omega]
   unfold padL
   rw [hl, List.map_append]
   exact h7
end Go.Proofs.YtofadpodlaakbaaGreat
