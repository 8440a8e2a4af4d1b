/- Words of 32 bits as whole numbers: what the layer rot computes, in plain Lean; no program in sight. -/
import Derived.Laws.Entries
import Derived.WalkKit
namespace Go.Proofs.YtofadpodlaakbaaGreat
open Go
set_option linter.unusedVariables false

/-- A whole number as a word of 32 bits. -/
def W (x : Int) : BitVec 32 := BitVec.ofInt 32 x
/-- A word of 32 bits as a whole number. -/
def U (v : BitVec 32) : Int := (v.toNat : Int)

theorem U_lo (v : BitVec 32) : 0 ≤ U v := by unfold U; omega
theorem U_hi (v : BitVec 32) : U v ≤ 4294967295 := by unfold U; have := v.isLt; omega
theorem W_U (v : BitVec 32) : W (U v) = v := by unfold W U; rw [BitVec.ofInt_natCast]; simp
theorem U_W (x : Int) (h0 : 0 ≤ x) (h1 : x ≤ 4294967295) : U (W x) = x := by
  unfold W U; rw [BitVec.toNat_ofInt]; omega
theorem U_inj {a b : BitVec 32} (h : U a = U b) : a = b := by
  unfold U at h; exact BitVec.eq_of_toNat_eq (by omega)
theorem W_toNat (x : Int) (h0 : 0 ≤ x) (h1 : x ≤ 4294967295) : (W x).toNat = x.toNat := by
  unfold W; rw [BitVec.toNat_ofInt]; omega

theorem wrap_u32 (n : Int) : IntKind.u32.wrap n = n % 4294967296 := by simp [IntKind.wrap, IntKind.bits, IntKind.signed]
theorem wrap_U (v : BitVec 32) : IntKind.u32.wrap (v.toNat : Int) = U v := by
  rw [wrap_u32]; unfold U; have := v.isLt; omega
theorem u32_and (x y : Int) : bits .and .u32 x y = U (W x &&& W y) := wrap_U _
theorem u32_or (x y : Int) : bits .or .u32 x y = U (W x ||| W y) := wrap_U _
theorem u32_xor (x y : Int) : bits .xor .u32 x y = U (W x ^^^ W y) := wrap_U _
theorem u32_andNot (x y : Int) : bits .andNot .u32 x y = U (W x &&& ~~~ (W y)) := wrap_U _
theorem wrap_W (n : Int) : IntKind.u32.wrap n = U (W n) := by
  rw [wrap_u32]; unfold U W; rw [BitVec.toNat_ofInt]; omega
theorem W_add (x y : Int) : W (x + y) = W x + W y := by unfold W; exact BitVec.ofInt_add ..
theorem W_sub (x y : Int) : W (x - y) = W x - W y := by
  unfold W
  apply BitVec.eq_of_toInt_eq
  simp [BitVec.toInt_ofInt, BitVec.toInt_sub]
theorem W_div (x : Int) (k : Nat) (h0 : 0 ≤ x) (h1 : x ≤ 4294967295) : W (x / 2 ^ k) = W x >>> k := by
  have hq : x / 2 ^ k = ((x.toNat / 2 ^ k : Nat) : Int) := by
    rw [Int.natCast_ediv]; simp [Int.toNat_of_nonneg h0]
  have hl : x.toNat / 2 ^ k ≤ x.toNat := Nat.div_le_self _ _
  apply BitVec.eq_of_toNat_eq
  rw [hq, BitVec.toNat_ushiftRight, W_toNat x h0 h1, Nat.shiftRight_eq_div_pow]
  generalize x.toNat / 2 ^ k = q at hl ⊢
  rw [W_toNat _ (by omega) (by omega)]
  omega
theorem W_mul (x : Int) (k : Nat) (h0 : 0 ≤ x) (h1 : x ≤ 4294967295) : W (x * 2 ^ k) = W x <<< k := by
  have hq : x * 2 ^ k = ((x.toNat * 2 ^ k : Nat) : Int) := by
    rw [Int.natCast_mul]; simp [Int.toNat_of_nonneg h0]
  apply BitVec.eq_of_toNat_eq
  rw [BitVec.toNat_shiftLeft, W_toNat x h0 h1, hq]
  unfold W
  rw [BitVec.ofInt_natCast, BitVec.toNat_ofNat, Nat.shiftLeft_eq]

/-- The word gone round to the right by n. -/
def right (x n : Int) : Int := U ((W x).rotateRight (n % 32).toNat)
theorem right_lo (x n : Int) : 0 ≤ right x n := U_lo _
theorem right_hi (x n : Int) : right x n ≤ 4294967295 := U_hi _

theorem right_of (x n : Int) (k j : Int) (h0 : 0 ≤ x) (h1 : x ≤ 4294967295) (hk : k = n % 32) (hj : j = 32 - k) :
    bits .or .u32 (x / 2 ^ k.toNat) (IntKind.u32.wrap (x * 2 ^ j.toNat)) = right x n := by
  have hk0 : 0 ≤ n % 32 := by omega
  have hk1 : n % 32 < 32 := by omega
  subst hk; subst hj
  rw [u32_or, wrap_W, W_U, W_div x _ h0 h1, W_mul x _ h0 h1]
  unfold right
  congr 1
  rw [BitVec.rotateRight_def, Nat.mod_eq_of_lt (by omega)]
  congr 2
  omega

/-- Bits of two words by a third one. -/
def pick (y a b : Int) : Int := U ((W y &&& W a) ||| (W b &&& ~~~ (W y)))
theorem pick_lo (y a b : Int) : 0 ≤ pick y a b := U_lo _
theorem pick_hi (y a b : Int) : pick y a b ≤ 4294967295 := U_hi _
theorem pick_of (y a b : Int) : bits .or .u32 (bits .and .u32 y a) (bits .andNot .u32 b y) = pick y a b := by
  rw [u32_or, u32_and, u32_andNot, W_U, W_U]; rfl

theorem and_not_sub (b y : BitVec 32) : b - (y &&& b) = b &&& ~~~ y := by
  have h : (b &&& ~~~ y) &&& (y &&& b) = 0#32 := by
    ext i hi; simp; intro _ h; simp [h]
  have h2 : (b &&& ~~~ y) + (y &&& b) = b := by
    rw [BitVec.add_eq_or_of_and_eq_zero _ _ h]
    ext i hi; simp; cases b[i] <;> cases y[i] <;> rfl
  rw [BitVec.sub_eq_iff_eq_add]; exact h2.symm
theorem and_le (y b : Int) (h0 : 0 ≤ b) (h1 : b ≤ 4294967295) : bits .and .u32 y b ≤ b := by
  rw [u32_and]
  have : (W y &&& W b).toNat ≤ (W b).toNat := by rw [BitVec.toNat_and]; exact Nat.and_le_right
  rw [W_toNat b h0 h1] at this
  unfold U; omega
theorem bits_and_lo (x y : Int) : 0 ≤ bits .and .u32 x y := by rw [u32_and]; exact U_lo _
theorem pick_ref (y a b : Int) : bits .or .u32 (bits .and .u32 y a) (IntKind.u32.wrap (b - bits .and .u32 y b)) = pick y a b := by
  rw [u32_or, u32_and, wrap_W, u32_and, W_U, W_U, W_sub, W_U, and_not_sub]; rfl
theorem pick_ref' (y a b : Int) (h0 : 0 ≤ b) (h1 : b ≤ 4294967295) : bits .or .u32 (bits .and .u32 y a) (b - bits .and .u32 y b) = pick y a b := by
  rw [← pick_ref]
  have e : IntKind.u32.wrap (b - bits .and .u32 y b) = b - bits .and .u32 y b := by
    rw [wrap_u32]; have := and_le y b h0 h1; have := bits_and_lo y b; omega
  rw [e]

/-- The bits that two of three words have at least. -/
def most (a b c : Int) : Int := U ((W a &&& W b) ||| (W a &&& W c) ||| (W b &&& W c))
theorem most_lo (a b c : Int) : 0 ≤ most a b c := U_lo _
theorem most_hi (a b c : Int) : most a b c ≤ 4294967295 := U_hi _
theorem most_ref (a b c : Int) : bits .or .u32 (bits .or .u32 (bits .and .u32 a b) (bits .and .u32 a c)) (bits .and .u32 b c) = most a b c := by
  simp only [u32_or, u32_and, W_U]; rfl
theorem most_of (a b c : Int) : bits .xor .u32 (bits .xor .u32 (bits .and .u32 a b) (bits .and .u32 a c)) (bits .and .u32 b c) = most a b c := by
  simp only [u32_xor, u32_and, W_U]
  unfold most
  congr 1
  ext i hi; simp; cases (W a)[i] <;> cases (W b)[i] <;> cases (W c)[i] <;> rfl

/-- The word of four bytes. -/
def wordOf (a b c d : Int) : Int := 16777216 * a + 65536 * b + 256 * c + d
theorem word_of (a b c d : Int) (ha : 0 ≤ a ∧ a ≤ 255) (hb : 0 ≤ b ∧ b ≤ 255) (hc : 0 ≤ c ∧ c ≤ 255) (hd : 0 ≤ d ∧ d ≤ 255) :
    bits .or .u32 (bits .or .u32 (bits .or .u32 (a * 16777216) (b * 65536)) (c * 256)) d = wordOf a b c d := by
  simp only [u32_or, W_U]
  have key : ∀ (x y : Int) (k : Nat), 0 ≤ x → x * 2 ^ k ≤ 4294967295 → 0 ≤ y → y < 2 ^ k → k < 32 → W (x * 2 ^ k) ||| W y = W (x * 2 ^ k + y) := by
    intro x y k h0 h1 h2 h3 h4
    have hp : (0 : Int) < 2 ^ k := Int.pow_pos (by decide)
    have hx1 : 0 ≤ x * 2 ^ k := Int.mul_nonneg h0 (by omega)
    have hpk : (2 : Int) ^ k = ((2 ^ k : Nat) : Int) := by simp
    have hx : x ≤ 4294967295 := by
      have : x * 1 ≤ x * 2 ^ k := Int.mul_le_mul_of_nonneg_left (by omega) h0
      omega
    rw [W_add, BitVec.add_eq_or_of_and_eq_zero]
    rw [W_mul x k h0 hx]
    ext i hi
    simp only [BitVec.getElem_and, BitVec.getElem_shiftLeft, BitVec.getElem_zero]
    by_cases hik : i < k
    · simp [hik]
    · simp only [hik, decide_false, Bool.not_false, Bool.true_and]
      have : (W y)[i] = false := by
        rw [← BitVec.getLsbD_eq_getElem]
        have hy : y ≤ 4294967295 := by
          have : (2 : Nat) ^ k ≤ 2 ^ 31 := Nat.pow_le_pow_right (by decide) (by omega)
          omega
        rw [BitVec.getLsbD, W_toNat y h2 hy]
        apply Nat.testBit_lt_two_pow
        calc y.toNat < 2 ^ k := by omega
          _ ≤ 2 ^ i := Nat.pow_le_pow_right (by decide) (by omega)
      rw [this]; simp
  have e1 := key a (b * 65536) 24 ha.1 (by omega) (by omega) (by omega) (by decide)
  have e2 := key (a * 256 + b) (c * 256) 16 (by omega) (by omega) (by omega) (by omega) (by decide)
  have e3 := key (a * 65536 + b * 256 + c) d 8 (by omega) (by omega) (by omega) (by omega) (by decide)
  have r1 : a * 16777216 = a * 2 ^ 24 := by rfl
  rw [r1, e1, show a * 2 ^ 24 + b * 65536 = (a * 256 + b) * 2 ^ 16 from by omega, e2, show (a * 256 + b) * 2 ^ 16 + c * 256 = (a * 65536 + b * 256 + c) * 2 ^ 8 from by omega, e3]
  unfold wordOf
  rw [U_W _ (by omega) (by omega)]
  omega

/-! What the statements of layer 1 ask. -/
theorem pick_same (y a : Int) (h0 : 0 ≤ a) (h1 : a ≤ 4294967295) : pick y a a = a := by
  rw [← U_W a h0 h1]; unfold pick; rw [W_U]; congr 1
  ext i hi; simp; cases (W a)[i] <;> cases (W y)[i] <;> rfl
theorem W_all : W 4294967295 = 4294967295#32 := by decide
theorem all_bits : ∀ i : Fin 32, (4294967295#32)[i.val] = true := by decide
theorem all_bit (i : Nat) (hi : i < 32) : (4294967295#32)[i] = true := all_bits ⟨i, hi⟩
theorem W_zero : W 0 = 0#32 := by decide
theorem pick_all (a b : Int) (h0 : 0 ≤ a) (h1 : a ≤ 4294967295) : pick 4294967295 a b = a := by
  rw [← U_W a h0 h1]; unfold pick; rw [W_U, W_all]; congr 1
  ext i hi; simp [all_bit i hi]
theorem pick_zero (a b : Int) (h0 : 0 ≤ b) (h1 : b ≤ 4294967295) : pick 0 a b = b := by
  rw [← U_W b h0 h1]; unfold pick; rw [W_U, W_zero]; congr 1
  ext i hi; simp [all_bit i hi]
theorem most_same (a b : Int) (h0 : 0 ≤ a) (h1 : a ≤ 4294967295) : most a a b = a := by
  rw [← U_W a h0 h1]; unfold most; rw [W_U]; congr 1
  ext i hi; simp only [BitVec.getElem_or, BitVec.getElem_and]; cases (W a)[i] <;> cases (W b)[i] <;> rfl
theorem most_bac (a b c : Int) : most b a c = most a b c := by
  unfold most; congr 1
  ext i hi; simp; cases (W a)[i] <;> cases (W b)[i] <;> cases (W c)[i] <;> rfl
theorem most_cba (a b c : Int) : most c b a = most a b c := by
  unfold most; congr 1
  ext i hi; simp; cases (W a)[i] <;> cases (W b)[i] <;> cases (W c)[i] <;> rfl
theorem right_zero (n : Int) : right 0 n = 0 := by
  unfold right; rw [W_zero]
  have : (0#32).rotateRight (n % 32).toNat = 0#32 := by ext i hi; simp [BitVec.getElem_rotateRight]
  rw [this]; rfl
theorem right_ones (n : Int) : right 4294967295 n = 4294967295 := by
  unfold right; rw [W_all]
  have : (4294967295#32).rotateRight (n % 32).toNat = 4294967295#32 := by
    ext i hi; rw [BitVec.getElem_rotateRight, all_bit i hi]; split
    · exact all_bit _ _
    · exact all_bit _ _
  rw [this]; rfl
theorem pick_or (x y : Int) : pick x x y = bits .or .u32 x y := by
  rw [u32_or]; unfold pick; congr 1
  ext i hi; simp; cases (W x)[i] <;> cases (W y)[i] <;> rfl
theorem pick_and (x y : Int) : pick x y 0 = bits .and .u32 x y := by
  rw [u32_and]; unfold pick; rw [W_zero]; congr 1; simp
theorem most_and (x y : Int) : most x y 0 = bits .and .u32 x y := by
  rw [u32_and]; unfold most; rw [W_zero]; congr 1; simp
theorem most_or (x y : Int) : most x y 4294967295 = bits .or .u32 x y := by
  rw [u32_or]; unfold most; rw [W_all]; congr 1
  ext i hi; simp [all_bit i hi]; cases (W x)[i] <;> cases (W y)[i] <;> rfl

/-- Is 2^k in a word? -/
def bitB (x k : Int) : Bool := (W x).getLsbD k.toNat

theorem right_bit (x n : Int) (k : Nat) (hk : k < 32) : (W (right x n)).getLsbD k = (W x).getLsbD ((k + (n % 32).toNat) % 32) := by
  have hm : (n % 32).toNat < 32 := by omega
  unfold right; rw [W_U, BitVec.getLsbD_rotateRight, Nat.mod_eq_of_lt hm]
  by_cases h : k < 32 - (n % 32).toNat
  · rw [decide_eq_true h]; simp only [cond_true]; congr 1; omega
  · rw [decide_eq_false h, decide_eq_true hk]; simp only [Bool.true_and, cond_false]; congr 1; omega
theorem right_ext (a b : Int) (a0 : 0 ≤ a) (a1 : a ≤ 4294967295) (b0 : 0 ≤ b) (b1 : b ≤ 4294967295) (h : ∀ k, k < 32 → (W a).getLsbD k = (W b).getLsbD k) : a = b := by
  rw [← U_W a a0 a1, ← U_W b b0 b1]; congr 1
  ext i hi; have := h i hi; rwa [BitVec.getLsbD_eq_getElem hi, BitVec.getLsbD_eq_getElem hi] at this
theorem right_32 (x : Int) (h0 : 0 ≤ x) (h1 : x ≤ 4294967295) : right x 32 = x := by
  refine right_ext _ _ (right_lo _ _) (right_hi _ _) h0 h1 fun k hk => ?_
  rw [right_bit x 32 k hk]; congr 1; omega
theorem right_right (x a b : Int) : right (right x a) b = right x (a + b) := by
  refine right_ext _ _ (right_lo _ _) (right_hi _ _) (right_lo _ _) (right_hi _ _) fun k hk => ?_
  rw [right_bit _ _ k hk, right_bit _ _ _ (by omega), right_bit _ _ k hk]; congr 1; omega
theorem right_back (x a : Int) (h0 : 0 ≤ x) (h1 : x ≤ 4294967295) : right (right x a) (-a) = x := by
  rw [right_right]
  refine right_ext _ _ (right_lo _ _) (right_hi _ _) h0 h1 fun k hk => ?_
  rw [right_bit _ _ k hk]; congr 1; omega
theorem right_is_zero (x a : Int) (h0 : 0 ≤ x) (h1 : x ≤ 4294967295) : (right x a == 0) = (x == 0) := by
  by_cases h : x = 0
  · subst h; rw [right_zero]
  · have : right x a ≠ 0 := by
      intro e
      have := right_back x a h0 h1
      rw [e, right_zero] at this
      exact h this.symm
    rw [beq_eq_false_iff_ne.2 h, beq_eq_false_iff_ne.2 this]
theorem right_bitB (x n k : Int) (k0 : 0 ≤ k) (k1 : k ≤ 31) (n0 : -1000 ≤ n) (n1 : n ≤ 1000) : bitB (right x n) k = bitB x ((k + n + 1024) % 32) := by
  unfold bitB; rw [right_bit _ _ _ (by omega)]; congr 1; omega
theorem pick_bitB (x y z k : Int) : bitB (pick x y z) k = if bitB x k = true then bitB y k else bitB z k := by
  unfold bitB pick; rw [W_U]; simp
  cases (W x).getLsbD k.toNat <;> cases (W y).getLsbD k.toNat <;> cases h : (W z).getLsbD k.toNat <;> simp
  all_goals (have := BitVec.lt_of_getLsbD h; omega)
theorem most_bitB (x y z k : Int) : bitB (most x y z) k = (bitB x k && bitB y k || bitB x k && bitB z k || bitB y k && bitB z k) := by
  unfold bitB most; rw [W_U]; simp
theorem bitB_of (x : Int) (k : Nat) (h0 : 0 ≤ x) (h1 : x ≤ 4294967295) : bitB x k = (x / 2 ^ k % 2 == 1) := by
  have hq : x / 2 ^ k = ((x.toNat / 2 ^ k : Nat) : Int) := by
    rw [Int.natCast_ediv]; simp [Int.toNat_of_nonneg h0]
  unfold bitB
  rw [hq, BitVec.getLsbD, W_toNat x h0 h1, Int.toNat_natCast, Nat.testBit_eq_decide_div_mod_eq]
  rw [Bool.eq_iff_iff]; simp only [decide_eq_true_eq, beq_iff_eq]
  generalize x.toNat / 2 ^ k = q
  omega

/-- A number from 0 to 255 as a byte. -/
def by8 (n : Int) : UInt8 := UInt8.ofNat n.toNat
theorem by8_toNat (n : Int) (h0 : 0 ≤ n) (h1 : n ≤ 255) : ((by8 n).toNat : Int) = n := by unfold by8; simp only [UInt8.toNat_ofNat']; omega
theorem wordOf_four (x : Int) (h0 : 0 ≤ x) (h1 : x ≤ 4294967295) : wordOf (x / 16777216) (x / 65536 % 256) (x / 256 % 256) (x % 256) = x := by unfold wordOf; omega
theorem four_wordOf (a b c d : Int) (ha : 0 ≤ a ∧ a ≤ 255) (hb : 0 ≤ b ∧ b ≤ 255) (hc : 0 ≤ c ∧ c ≤ 255) (hd : 0 ≤ d ∧ d ≤ 255) :
    wordOf a b c d / 16777216 = a ∧ wordOf a b c d / 65536 % 256 = b ∧ wordOf a b c d / 256 % 256 = c ∧ wordOf a b c d % 256 = d := by unfold wordOf; omega
end Go.Proofs.YtofadpodlaakbaaGreat
