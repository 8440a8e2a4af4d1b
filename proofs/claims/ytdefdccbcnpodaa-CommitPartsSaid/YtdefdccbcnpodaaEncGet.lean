/- The walks of Get, of the layer enc and of its reference. -/
import Derived.Test.YtdefdccbcnpodaaEncWalks
import Derived.Test.YtdefdccbcnpodaaEncLaw
import Derived.Laws.Bits64b
namespace Go.Proofs.Ytdefdccbcnpodaa
open Go.ChangeShapes Go.WideShapes Go.ChangeAt Go.RowKit
set_option linter.unusedVariables false

theorem and127_all : ∀ x : Fin 256, bits .and .u8 ((x.val : Nat) : Int) 127 = ((x.val % 128 : Nat) : Int) := by decide +kernel
theorem and128_all : ∀ x : Fin 256, bits .and .u8 ((x.val : Nat) : Int) 128 = if x.val ≥ 128 then 128 else 0 := by decide +kernel
theorem and127 (c : UInt8) : bits .and .u8 (c.toNat : Int) 127 = ((c.toNat % 128 : Nat) : Int) := and127_all ⟨c.toNat, c.toNat_lt⟩
theorem and128 (c : UInt8) : bits .and .u8 (c.toNat : Int) 128 = if c.toNat ≥ 128 then 128 else 0 := and128_all ⟨c.toNat, c.toNat_lt⟩

theorem or_u64_lo (x y : Int) : 0 ≤ bits .or .u64 x y := by
  show 0 ≤ IntKind.u64.wrap _
  rw [wrap_u64]; omega
theorem or_u64_hi (x y : Int) : bits .or .u64 x y ≤ 18446744073709551615 := by
  show IntKind.u64.wrap _ ≤ _
  rw [wrap_u64]; omega

theorem or_shift (acc k x : Nat) (hk : k ≤ 9) (h : acc < 128 ^ k) (hx : x * 128 ^ k < 18446744073709551616) :
    bits .or .u64 (acc : Int) (IntKind.u64.wrap ((x : Int) * 2 ^ (7 * k))) = ((acc + x * 128 ^ k : Nat) : Int) := by
  have e1 : ((x : Int) * 2 ^ (7 * k)) = ((x * 128 ^ k : Nat) : Int) := by rw [pow128]; push_cast; rfl
  have hac : acc < 18446744073709551616 := Nat.lt_of_lt_of_le h (Nat.le_trans (pow128_le hk) (by decide))
  rw [e1, wrap_u64, Int.emod_eq_of_lt (by omega) (by omega), bits_or_u64_nat _ _ hac hx]
  congr 1
  rw [pow128] at h ⊢
  rw [Nat.mul_comm x, Nat.or_comm, ← Nat.two_pow_add_eq_or_of_lt h, Nat.add_comm]

theorem getGo_cons {l : List UInt8} {k : Nat} {x : UInt8} (h : k < l.length) (hx : l.getD k 0 = x) (acc : Nat) : getGo (l.drop k) k acc = getGo (x :: l.drop (k + 1)) k acc := by
  rw [List.drop_eq_getElem_cons h]
  have : l[k] = x := by rw [← hx]; simp [h]
  rw [this]

set_option maxHeartbeats 800000 in
theorem get_some (n c m : Nat) (l : List UInt8) (w : World) (b off : Nat) (hnc : n ≤ c) (hcap : c ≤ 9223372036854775807) (hl : n ≤ 140737488351232) (hln : l.length = n)
    (hm1 : m ≤ n) (hm2 : m ≤ 10) (hm3 : m = n ∨ m = 10)
    (hc : ∀ i, i < n → w.cell? ⟨b, off + i, none⟩ = some (.int .u8 ((l.getD i 0).toNat : Int))) :
    Calls Try.prog 85 #[.slice (some ⟨b, off, none⟩) n c] w fun e w' => e = .returned (.tuple #[.int .u64 ((getL l).1 : Int), .int .i64 ((getL l).2 : Int)]) ∧ w = w' := by
  have HC := Lib.hid hc; clear hc
  have HL := Lib.hid hln; clear hln
  have hmin : min (n : Int) 10 = (m : Int) := by omega
  have hmax : max (m : Int) 0 = (m : Int) := by omega
  have HM := Lib.hid hm3; clear hm3
  go_enter Try.func85, Try.ntmps85
  go_wp2
  clear hmin hmax
  go_loop [4, 13] (fun nv kv => ∃ (k acc : Nat) (q : Int), k ≤ m ∧ kv = .int .i64 (k : Int) ∧ nv = .int .u64 q ∧ 0 ≤ q ∧ q ≤ 18446744073709551615 ∧ Hid (k ≤ 9 → q = acc ∧ acc < 128 ^ k) ∧ Hid (getGo (l.drop k) k acc = getL l))
    (fun _ kv => m - (intOf kv).toNat)
  case atStart => exact ⟨0, 0, 0, Nat.zero_le _, rfl, rfl, Int.le_refl _, by decide, (fun _ => ⟨rfl, by decide⟩ : 0 ≤ 9 → (0 : Int) = (0 : Nat) ∧ 0 < 128 ^ 0), (rfl : getGo (l.drop 0) 0 0 = getL l)⟩
  case round =>
    obtain ⟨k, acc, q, hk, rfl, rfl, q0, q1, HQ, HG⟩ := hrel
    by_cases hlt : k < m
    · have hcell := HC.out k (by omega)
      obtain ⟨x, hx⟩ : ∃ x, l.getD k 0 = x := ⟨_, rfl⟩
      rw [hx] at hcell
      have HX := Lib.hid (getGo_cons (l := l) (by have := HL.out; omega) hx acc); clear hx
      obtain ⟨x0, x1⟩ := u8_bd x
      have h127 := and127 x
      have h128 := and128 x
      have o1 := or_u64_lo q (IntKind.u64.wrap (((x.toNat % 128 : Nat) : Int) * 2 ^ (7 * k)))
      have o2 := or_u64_hi q (IntKind.u64.wrap (((x.toNat % 128 : Nat) : Int) * 2 ^ (7 * k)))
      by_cases hbig : x.toNat ≥ 128
      · rw [if_pos hbig] at h128
        have HN := Lib.hid (show getGo (l.drop (k + 1)) (k + 1) (acc + (x.toNat - 128) * 128 ^ k) = getL l by
          rw [← HG.out, HX.out, getGo, if_neg (by omega), if_pos hbig])
        have HQ2 := Lib.hid (show k + 1 ≤ 9 → bits .or .u64 q (IntKind.u64.wrap (((x.toNat : Int) % 128) * 2 ^ (7 * k))) = ((acc + (x.toNat - 128) * 128 ^ k : Nat) : Int) ∧ acc + (x.toNat - 128) * 128 ^ k < 128 ^ (k + 1) by
          intro h9
          obtain ⟨e1, e2⟩ := HQ.out (by omega)
          have e3 : ((x.toNat : Int) % 128) = ((x.toNat - 128 : Nat) : Int) := by omega
          have e4 : (x.toNat - 128) * 128 ^ k < 128 ^ (k + 1) := by rw [Nat.pow_succ, Nat.mul_comm (128 ^ k)]; exact Nat.mul_lt_mul_of_pos_right (by omega) (Nat.pow_pos (by decide))
          have e5 : (128 : Nat) ^ (k + 1) ≤ 128 ^ 9 := Nat.pow_le_pow_right (by decide) h9
          rw [e1, e3, or_shift acc k _ (by omega) e2 (by omega)]
          refine ⟨rfl, ?_⟩
          have : (x.toNat - 128) * 128 ^ k ≤ 127 * 128 ^ k := Nat.mul_le_mul_right _ (by omega)
          rw [Nat.pow_succ]; omega)
        go_wp2
        exact ⟨⟨k + 1, _, _, by omega, by go_num, rfl, o1, o2, HQ2.out, HN.out⟩, by simp [intOf]; omega⟩
      · rw [if_neg hbig] at h128
        by_cases hz : 0 < k ∧ x.toNat = 0
        · have HN := Lib.hid (show getL l = (0, 0) by rw [← HG.out, HX.out, getGo, if_neg (by omega), if_neg hbig, if_pos (.inl hz)])
          obtain ⟨hz1, hz2⟩ := hz
          have hz3 : ((x.toNat : Int) == 0) = true := by simp [hz2]
          go_wp2
          go_ret2
          rw [HN.out]; exact ⟨rfl, rfl⟩
        · by_cases h9 : k = 9 ∧ 1 < x.toNat
          · have HN := Lib.hid (show getL l = (0, 0) by rw [← HG.out, HX.out, getGo, if_neg (by omega), if_neg hbig, if_pos (.inr h9)])
            obtain ⟨hz1, hz2⟩ := h9
            have hz3 : ((x.toNat : Int) == 0) = false := by simp; omega
            have hz4 : ((k : Int) == 9) = true := by simp; omega
            have hz5 : (1 : Int) < (x.toNat : Int) := by omega
            have hz6 : 0 < k := by omega
            clear hz1
            go_wp2
            go_ret2
            rw [HN.out]; exact ⟨rfl, rfl⟩
          · have HN := Lib.hid (show getL l = (acc + x.toNat * 128 ^ k, k + 1) by rw [← HG.out, HX.out, getGo, if_neg (by omega), if_neg hbig, if_neg (by rintro (h | h) <;> contradiction)])
            have HQ2 := Lib.hid (show bits .or .u64 q (IntKind.u64.wrap (((x.toNat : Int) % 128) * 2 ^ (7 * k))) = ((acc + x.toNat * 128 ^ k : Nat) : Int) by
              obtain ⟨e1, e2⟩ := HQ.out (by omega)
              have e3 : ((x.toNat : Int) % 128) = ((x.toNat : Nat) : Int) := by omega
              have e4 : x.toNat * 128 ^ k < 18446744073709551616 := by
                by_cases hk9 : k = 9
                · subst hk9
                  have : x.toNat ≤ 1 := by omega
                  have : x.toNat * 128 ^ 9 ≤ 1 * 128 ^ 9 := Nat.mul_le_mul_right _ this
                  omega
                · have e6 : (128 : Nat) ^ k ≤ 128 ^ 8 := Nat.pow_le_pow_right (by decide) (by omega)
                  have : x.toNat * 128 ^ k ≤ 127 * 128 ^ 8 := Nat.mul_le_mul (by omega) e6
                  omega
              rw [e1, e3, or_shift acc k _ (by omega) e2 e4])
            have fin : ∀ w' : World, Ending.returned (.tuple #[.int .u64 (bits .or .u64 q (IntKind.u64.wrap (((x.toNat : Int) % 128) * 2 ^ (7 * k)))), .int .i64 ((k : Int) + 1)]) = .returned (.tuple #[.int .u64 ((getL l).1 : Int), .int .i64 ((getL l).2 : Int)]) := fun _ => by
              rw [HN.out]; exact ret_ii HQ2.out (by simp)
            have FIN := Lib.hid fin; clear fin
            rcases Nat.eq_zero_or_pos k with hk0 | hk0
            · have hk1 : ¬ 0 < k := by omega
              have hz4 : ((k : Int) == 9) = false := by simp; omega
              clear hk0
              go_wp2
              go_ret2
              exact ⟨FIN.out w, rfl⟩
            · have hz3 : ((x.toNat : Int) == 0) = false := by simp; omega
              by_cases hk9 : k = 9
              · have hz4 : ((k : Int) == 9) = true := by simp; omega
                have hz5 : ¬ (1 : Int) < (x.toNat : Int) := by omega
                clear hk9
                go_wp2
                go_ret2
                exact ⟨FIN.out w, rfl⟩
              · have hz4 : ((k : Int) == 9) = false := by simp; omega
                go_wp2
                go_ret2
                exact ⟨FIN.out w, rfl⟩
    · have HN := Lib.hid (show getL l = (0, 0) by
        rw [← HG.out]
        rcases HM.out with h | h
        · rw [List.drop_of_length_le (by have := HL.out; omega)]; rfl
        · exact getGo_ten _ _ _ (by omega))
      go_wp2
      go_ret2
      rw [HN.out]; exact ⟨rfl, by trivial⟩

theorem get_zero (a : Option Addr) (c : Nat) (w : World) (hcap : c ≤ 9223372036854775807) :
    Calls Try.prog 85 #[.slice a 0 c] w fun e w' => e = .returned (.tuple #[.int .u64 0, .int .i64 0]) ∧ w = w' := by
  cases a with
  | none =>
    go_enter Try.func85, Try.ntmps85
    go_wp2
    go_rounds 1
    go_ret2
    exact ⟨rfl, rfl⟩
  | some ad =>
    go_enter Try.func85, Try.ntmps85
    go_wp2
    go_rounds 1
    go_ret2
    exact ⟨rfl, rfl⟩

theorem get_any (a : Option Addr) (n c : Nat) (l : List UInt8) (w : World) (hr : Rd w a n c l) (hl : n ≤ 140737488351232) :
    Calls Try.prog 85 #[.slice a n c] w fun e w' => e = .returned (.tuple #[.int .u64 ((getL l).1 : Int), .int .i64 ((getL l).2 : Int)]) ∧ w = w' := by
  rcases Nat.eq_zero_or_pos n with h0 | h0
  · subst h0
    have : l = [] := List.eq_nil_of_length_eq_zero hr.len
    subst this
    exact get_zero a c w hr.cap
  · rcases hr.cells with h | ⟨b, off, rfl, _, hc⟩
    · omega
    · exact get_some n c (min n 10) l w b off hr.le hr.cap hl hr.len (by omega) (by omega) (by omega) hc
end Go.Proofs.Ytdefdccbcnpodaa
