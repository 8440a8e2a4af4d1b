/- What is put is got, and the other way round: numbers in bytes, in plain words. No program in sight. -/
import Derived.Test.YtdefdccbcnpodaaEncPlain
namespace Go.Proofs.Ytdefdccbcnpodaa
open Go
set_option linter.unusedVariables false

/-- The number that bytes begin with, from the i-th byte on, n being what the others make. -/
def getGo : List UInt8 → Nat → Nat → Nat × Nat
  | [], _, _ => (0, 0)
  | c :: r, i, n =>
    if i ≥ 10 then (0, 0)
    else if c.toNat ≥ 128 then getGo r (i + 1) (n + (c.toNat - 128) * 128 ^ i)
    else if (0 < i ∧ c.toNat = 0) ∨ (i = 9 ∧ 1 < c.toNat) then (0, 0) else (n + c.toNat * 128 ^ i, i + 1)
/-- The number that bytes begin with, and how many bytes it has; none: 0, 0. -/
def getL (l : List UInt8) : Nat × Nat := getGo l 0 0

theorem getGo_ten (l : List UInt8) (i n : Nat) (h : 10 ≤ i) : getGo l i n = (0, 0) := by
  cases l with
  | nil => rfl
  | cons c r => rw [getGo, if_pos h]

theorem pow128 (k : Nat) : (128 : Nat) ^ k = 2 ^ (7 * k) := by rw [show (128 : Nat) = 2 ^ 7 from rfl, ← Nat.pow_mul]
theorem pow128_pos (k : Nat) : 0 < (128 : Nat) ^ k := Nat.pow_pos (by decide)
theorem pow128_le {j k : Nat} (h : j ≤ k) : (128 : Nat) ^ j ≤ 128 ^ k := Nat.pow_le_pow_right (by decide) h

theorem getGo_put (r : List UInt8) (k : Nat) : ∀ (m i n : Nat), m < k → m * 128 ^ i < 18446744073709551616 → (0 < i → 0 < m) → i ≤ 9 →
    getGo (numL m ++ r) i n = (n + m * 128 ^ i, i + (numL m).length) := by
  induction k with
  | zero => intro m i n h; omega
  | succ k ih =>
    intro m i n hk hm hi h9
    by_cases hb : m > 127
    · have h8 : i ≤ 8 := by
        rcases Nat.lt_or_ge i 9 with h | h
        · omega
        · exfalso
          have := pow128_le h
          have h2 : 128 * 128 ^ 9 ≤ m * 128 ^ i := Nat.mul_le_mul (by omega) this
          omega
      rw [numL_big hb, List.cons_append, getGo, if_neg (by omega), big_byte, if_pos (by omega)]
      have hd : m / 128 * 128 ^ (i + 1) ≤ m * 128 ^ i := by
        rw [Nat.pow_succ, ← Nat.mul_assoc, Nat.mul_right_comm]
        exact Nat.mul_le_mul_right _ (by omega)
      rw [ih (m / 128) (i + 1) _ (by omega) (by omega) (by omega) (by omega)]
      simp only [List.length_cons, Prod.mk.injEq]
      refine ⟨?_, by omega⟩
      rw [show m % 128 + 128 - 128 = m % 128 from by omega, Nat.pow_succ, Nat.add_assoc]
      congr 1
      rw [← Nat.mul_assoc, Nat.mul_right_comm, ← Nat.add_mul]
      congr 1
      omega
    · have hs := small_byte m (by omega)
      rw [numL_small (by omega), List.cons_append, getGo, if_neg (by omega), hs, if_neg (by omega), if_neg ?_]
      · simp
      · rintro (⟨h1, h2⟩ | ⟨h1, h2⟩)
        · have := hi h1; omega
        · subst h1
          have : 2 * 128 ^ 9 ≤ m * 128 ^ 9 := Nat.mul_le_mul_right _ h2
          omega
theorem getL_put (N : Nat) (hN : N < 18446744073709551616) (r : List UInt8) : getL (numL N ++ r) = (N, (numL N).length) := by
  unfold getL; rw [getGo_put r (N + 1) N 0 0 (by omega) (by omega) (by omega) (by omega)]; simp

theorem getGo_got (l : List UInt8) : ∀ (i n m k : Nat), getGo l i n = (m, k) → k ≠ 0 → n < 128 ^ i →
    ∃ q, m = n + q * 128 ^ i ∧ k = i + (numL q).length ∧ numL q = l.take (k - i) ∧ (0 < i → 0 < q) ∧ m < 18446744073709551616 ∧ k ≤ 10 := by
  induction l with
  | nil => intro i n m k h hk; rw [getGo] at h; simp only [Prod.mk.injEq] at h; exact absurd h.2.symm hk
  | cons c r ih =>
    intro i n m k h hk hn
    rw [getGo] at h
    by_cases h10 : i ≥ 10
    · rw [if_pos h10] at h; simp only [Prod.mk.injEq] at h; exact absurd h.2.symm hk
    rw [if_neg h10] at h
    have hc := c.toNat_lt
    by_cases hb : c.toNat ≥ 128
    · rw [if_pos hb] at h
      have hn2 : n + (c.toNat - 128) * 128 ^ i < 128 ^ (i + 1) := by
        have : (c.toNat - 128) * 128 ^ i ≤ 127 * 128 ^ i := Nat.mul_le_mul_right _ (by omega)
        rw [Nat.pow_succ]; omega
      obtain ⟨q, h1, h2, h3, h4, h5, h6⟩ := ih (i + 1) _ m k h hk hn2
      have hq : q > 0 := h4 (by omega)
      have hbig : q * 128 + (c.toNat - 128) > 127 := by omega
      have hnum : numL (q * 128 + (c.toNat - 128)) = c :: numL q := by
        rw [numL_big hbig]
        have e1 : (q * 128 + (c.toNat - 128)) / 128 = q := by omega
        have e2 : (q * 128 + (c.toNat - 128)) % 128 + 128 = c.toNat := by omega
        rw [e1, e2]; simp
      refine ⟨q * 128 + (c.toNat - 128), ?_, ?_, ?_, fun _ => by omega, h5, h6⟩
      · rw [h1, Nat.pow_succ, Nat.add_mul, ← Nat.mul_assoc, Nat.mul_right_comm q 128]; omega
      · rw [hnum, List.length_cons]; omega
      · rw [hnum, h3, show k - i = (k - (i + 1)) + 1 from by omega, List.take_succ_cons]
    · rw [if_neg hb] at h
      by_cases hz : (0 < i ∧ c.toNat = 0) ∨ (i = 9 ∧ 1 < c.toNat)
      · rw [if_pos hz] at h; simp only [Prod.mk.injEq] at h; exact absurd h.2.symm hk
      · rw [if_neg hz] at h
        simp only [Prod.mk.injEq] at h
        obtain ⟨h1, h2⟩ := h
        have hs : numL c.toNat = [c] := by rw [numL_small (by omega)]; simp
        refine ⟨c.toNat, h1.symm, by rw [hs]; simp; omega, by rw [hs, show k - i = 1 from by omega]; simp, fun h0 => ?_, ?_, by omega⟩
        · have : ¬ (c.toNat = 0) := fun e => hz (.inl ⟨h0, e⟩)
          omega
        · rcases Nat.lt_or_ge i 9 with h9 | h9
          · have e1 : (128 : Nat) ^ i ≤ 128 ^ 8 := pow128_le (by omega)
            have : c.toNat * 128 ^ i ≤ 127 * 128 ^ 8 := Nat.mul_le_mul (by omega) e1
            omega
          · have hi9 : i = 9 := by omega
            subst hi9
            have h1c : c.toNat ≤ 1 := by
              rcases Nat.lt_or_ge 1 c.toNat with h | h
              · exact absurd (.inr ⟨rfl, h⟩) hz
              · exact h
            have : c.toNat * 128 ^ 9 ≤ 1 * 128 ^ 9 := Nat.mul_le_mul_right _ h1c
            omega
theorem getL_got {l : List UInt8} {m k : Nat} (h : getL l = (m, k)) (hk : k ≠ 0) : numL m = l.take k ∧ k = (numL m).length ∧ m < 18446744073709551616 ∧ k ≤ 10 := by
  obtain ⟨q, h1, h2, h3, _, h5, h6⟩ := getGo_got l 0 0 m k h hk (by decide)
  simp at h1
  subst h1
  exact ⟨by simpa using h3, by omega, h5, h6⟩
theorem getGo_none (l : List UInt8) : ∀ i n, (getGo l i n).2 = 0 → getGo l i n = (0, 0) := by
  induction l with
  | nil => intro i n _; rfl
  | cons c r ih =>
    intro i n h
    rw [getGo] at h ⊢
    by_cases h1 : i ≥ 10
    · rw [if_pos h1]
    · rw [if_neg h1] at h ⊢
      by_cases h2 : c.toNat ≥ 128
      · rw [if_pos h2] at h ⊢; exact ih _ _ h
      · rw [if_neg h2] at h ⊢
        by_cases h3 : (0 < i ∧ c.toNat = 0) ∨ (i = 9 ∧ 1 < c.toNat)
        · rw [if_pos h3]
        · rw [if_neg h3] at h; simp at h
theorem getL_none {l : List UInt8} (h : (getL l).2 = 0) : getL l = (0, 0) := getGo_none l 0 0 h
theorem getL_lt (l : List UInt8) : (getL l).1 < 18446744073709551616 := by
  by_cases h : (getL l).2 = 0
  · rw [getL_none h]; decide
  · exact (getL_got (l := l) (m := (getL l).1) (k := (getL l).2) rfl h).2.2.1
theorem getL_le10 (l : List UInt8) : (getL l).2 ≤ 10 := by
  by_cases h : (getL l).2 = 0
  · omega
  · exact (getL_got (l := l) (m := (getL l).1) (k := (getL l).2) rfl h).2.2.2
theorem getL_le (l : List UInt8) : (getL l).2 ≤ l.length := by
  by_cases h : (getL l).2 = 0
  · omega
  · obtain ⟨h1, h2, _⟩ := getL_got (l := l) (m := (getL l).1) (k := (getL l).2) rfl h
    have := congrArg List.length h1
    simp only [List.length_take] at this
    omega

/-- What bytes make, seven bits each. -/
def valN : List UInt8 → Nat
  | [] => 0
  | c :: r => c.toNat % 128 + 128 * valN r
theorem valN_snoc (l : List UInt8) (c : UInt8) : valN (l ++ [c]) = valN l + 128 ^ l.length * (c.toNat % 128) := by
  induction l with
  | nil => simp [valN]
  | cons d r ih => simp only [List.cons_append, valN, ih, List.length_cons, Nat.pow_succ]; rw [Nat.mul_add, Nat.add_assoc, Nat.mul_right_comm, Nat.mul_comm _ 128, ← Nat.mul_assoc]
theorem valN_numL (k : Nat) : ∀ m, m < k → valN (numL m) = m := by
  induction k with
  | zero => intro m h; omega
  | succ k ih =>
    intro m h
    by_cases hb : m > 127
    · rw [numL_big hb, valN, big_byte, ih (m / 128) (by omega)]; omega
    · rw [numL_small (by omega), valN, valN, small_byte m (by omega)]; omega

/-- All bytes of a number but the last one are 128 at least; the last one is below. -/
theorem numL_bytes (k : Nat) : ∀ m, m < k → ∀ i, i < (numL m).length → (((numL m).getD i 0).toNat < 128 ↔ i + 1 = (numL m).length) := by
  induction k with
  | zero => intro m h; omega
  | succ k ih =>
    intro m h i hi
    by_cases hb : m > 127
    · rw [numL_big hb] at hi ⊢
      cases i with
      | zero =>
        have := numL_pos (m / 128)
        rw [List.getD_cons_zero, big_byte]; simp only [List.length_cons]; omega
      | succ i =>
        simp only [List.length_cons] at hi ⊢
        rw [List.getD_cons_succ, ih (m / 128) (by omega) i (by omega)]; omega
    · rw [numL_small (by omega)] at hi ⊢
      simp at hi
      subst hi
      simp only [List.getD_cons_zero, small_byte m (by omega : m ≤ 127)]; simp; omega
theorem getD_take (l : List UInt8) (k i : Nat) (h : i < k) : (l.take k).getD i 0 = l.getD i 0 := by
  rw [List.getD_eq_getElem?_getD, List.getD_eq_getElem?_getD, List.getElem?_take, if_pos h]

/-- Where the first byte below 128 is the k-th one: the number is what the bytes make, if that has just these bytes; else there is none. -/
theorem getL_by (l : List UInt8) (k : Nat) (hk : k < l.length) (h10 : k < 10) (hall : ∀ i, i < k → (l.getD i 0).toNat ≥ 128) (hlast : (l.getD k 0).toNat < 128) :
    getL l = if numL (valN (l.take (k + 1)) % 18446744073709551616) = l.take (k + 1) then (valN (l.take (k + 1)) % 18446744073709551616, k + 1) else (0, 0) := by
  by_cases h : numL (valN (l.take (k + 1)) % 18446744073709551616) = l.take (k + 1)
  · rw [if_pos h]
    have e := getL_put (valN (l.take (k + 1)) % 18446744073709551616) (Nat.mod_lt _ (by decide)) (l.drop (k + 1))
    rw [h, List.take_append_drop] at e
    rw [e]; simp; omega
  · rw [if_neg h]
    by_cases h0 : (getL l).2 = 0
    · exact getL_none h0
    · exfalso
      obtain ⟨h1, h2, h3, h4⟩ := getL_got (l := l) (m := (getL l).1) (k := (getL l).2) rfl h0
      have hj : (getL l).2 = k + 1 := by
        generalize hg : (getL l).2 = j at *
        generalize (getL l).1 = m at *
        have hb := numL_bytes (m + 1) m (by omega)
        rw [← h2, h1] at hb
        rcases Nat.lt_trichotomy j (k + 1) with hlt | rfl | hgt
        · exfalso
          have := (hb (j - 1) (by omega)).2 (by omega)
          rw [getD_take _ _ _ (by omega)] at this
          have := hall (j - 1) (by omega)
          omega
        · rfl
        · exfalso
          have hb2 := hb k (by omega)
          rw [getD_take _ _ _ (by omega)] at hb2
          have := hb2.1 hlast
          omega
      rw [hj] at h1
      apply h
      rw [← h1, valN_numL _ _ (Nat.lt_succ_self _), Nat.mod_eq_of_lt h3]

/-- Where no byte of the first ten is below 128 there is none. -/
theorem getL_no (l : List UInt8) (h : ∀ i, i < l.length → i < 10 → (l.getD i 0).toNat ≥ 128) : getL l = (0, 0) := by
  by_cases h0 : (getL l).2 = 0
  · exact getL_none h0
  · exfalso
    obtain ⟨h1, h2, h3, h4⟩ := getL_got (l := l) (m := (getL l).1) (k := (getL l).2) rfl h0
    have hle := getL_le l
    generalize (getL l).2 = j at *
    generalize (getL l).1 = m at *
    have hb := numL_bytes (m + 1) m (by omega)
    rw [← h2, h1] at hb
    have := (hb (j - 1) (by omega)).2 (by omega)
    rw [getD_take _ _ _ (by omega)] at this
    have := h (j - 1) (by omega) (by omega)
    omega
end Go.Proofs.Ytdefdccbcnpodaa
