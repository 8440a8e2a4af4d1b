/- The statement RotBack, walked out of the contracts of what it calls. -/
import Derived.Test.YtgehpjojcfbldaaRotLaws
namespace Go.Proofs.Ytgehpjojcfbldaa
open Go.ChangeShapes Go.WideShapes Go.ChangeAt Go.RowKit
set_option linter.unusedVariables false

theorem back_word (x : Int) (x0 : 0 ≤ x) (x1 : x ≤ 4294967295) : wordAt [by8 (x / 16777216), by8 (x / 65536 % 256), by8 (x / 256 % 256), by8 (x % 256)] 0 = x := by
  have e : wordAt [by8 (x / 16777216), by8 (x / 65536 % 256), by8 (x / 256 % 256), by8 (x % 256)] 0 =
      wordOf (by8 (x / 16777216)).toNat (by8 (x / 65536 % 256)).toNat (by8 (x / 256 % 256)).toNat (by8 (x % 256)).toNat := rfl
  rw [e, by8_toNat _ (by omega) (by omega), by8_toNat _ (by omega) (by omega), by8_toNat _ (by omega) (by omega), by8_toNat _ (by omega) (by omega)]
  exact wordOf_four x x0 x1

theorem back_made (x : Int) (x0 : 0 ≤ x) (x1 : x ≤ 4294967295) (v : World) (o : Obj) :
    Rd ((v.alloc o).alloc (.cells #[.int .u8 (x / 16777216), .int .u8 (x / 65536 % 256), .int .u8 (x / 256 % 256), .int .u8 (x % 256)] 5)) (some ⟨v.heap.size + 1, 0, none⟩) 4 4 [by8 (x / 16777216), by8 (x / 65536 % 256), by8 (x / 256 % 256), by8 (x % 256)] := by
  have h := Rd.made (v.alloc o) [by8 (x / 16777216), by8 (x / 65536 % 256), by8 (x / 256 % 256), by8 (x % 256)] 5 (by simp)
  simpa [by8_toNat (x / 16777216) (by omega) (by omega), by8_toNat (x / 65536 % 256) (by omega) (by omega), by8_toNat (x / 256 % 256) (by omega) (by omega), by8_toNat (x % 256) (by omega) (by omega)] using h
theorem back_is (a b c d : UInt8) : wordIs [a, b, c, d] 0 = true := by unfold wordIs; exact decide_eq_true ⟨by decide, by simp⟩

theorem rotBack_out (x : Int) (a : Option Addr) (n c : Nat) (p : Int) (w : World) (x0 : 0 ≤ x) (x1 : x ≤ 4294967295) (p0 : -9223372036854775808 ≤ p) (p1 : p ≤ 9223372036854775807)
    (hl : n ≤ 100) (ho : p < 0 ∨ (0 ≤ p ∧ (n : Int) - 4 < p)) :
    Calls Try.prog 6 #[.int .u32 x, .slice a n c, .int .i64 p] w fun e w' => e = .returned (.bool true) ∧ Below w.heap.size w w' := by
  rcases ho with ho | ⟨ho1, ho2⟩
  all_goals
    go_enter Try.func6, Try.ntmps6
    go_wp2_with fail
    refine (awake_any _).mono ?_
    rintro e v1 ⟨rfl, hb1⟩
    go_wp2_with fail
    refine (four_any x _ x0 x1).mono ?_
    rintro e v2 ⟨rfl, hb2⟩
    go_wp2_with fail
    refine (word_any _ _ 4 4 _ 0 (back_made x x0 x1 _ _) (by decide) (by decide) (by decide)).mono ?_
    rintro e v3 ⟨rfl, hb3⟩
    rw [back_word x x0 x1, back_is]
    go_wp2_with fail
    refine (word_out a n c p _ (by omega) (by omega) p0 p1).mono ?_
    rintro e v4 ⟨rfl, hb4⟩
    go_wp2_with fail
    go_ret
    exact ⟨rfl, ((((hb1.step hb2).alloc ((hb1.step hb2).size) _).alloc (by have := (hb1.step hb2).size; simp; omega) _).step hb3).step hb4⟩

theorem rotBack_in (x : Int) (b off n c p : Nat) (y0 y1 y2 y3 : Int) (w : World) (x0 : 0 ≤ x) (x1 : x ≤ 4294967295)
    (hl : n ≤ 100) (hp : p + 4 ≤ n) (hnc : n ≤ c) (hcap : c ≤ 9223372036854775807)
    (b0 : 0 ≤ y0) (b0' : y0 ≤ 255) (b1 : 0 ≤ y1) (b1' : y1 ≤ 255) (b2 : 0 ≤ y2) (b2' : y2 ≤ 255) (b3 : 0 ≤ y3) (b3' : y3 ≤ 255)
    (hc0 : w.cell? ⟨b, off + p, none⟩ = some (.int .u8 y0)) (hc1 : w.cell? ⟨b, off + (p + 1), none⟩ = some (.int .u8 y1))
    (hc2 : w.cell? ⟨b, off + (p + 2), none⟩ = some (.int .u8 y2)) (hc3 : w.cell? ⟨b, off + (p + 3), none⟩ = some (.int .u8 y3)) :
    Calls Try.prog 6 #[.int .u32 x, .slice (some ⟨b, off, none⟩) n c, .int .i64 (p : Int)] w fun e w' => e = .returned (.bool true) ∧ Below w.heap.size w w' := by
  obtain ⟨e0, e1, e2, e3⟩ := four_wordOf y0 y1 y2 y3 ⟨b0, b0'⟩ ⟨b1, b1'⟩ ⟨b2, b2'⟩ ⟨b3, b3'⟩
  have HF := Lib.hid (show fourV (wordOf y0 y1 y2 y3) = .agg #[.int .u8 y0, .int .u8 y1, .int .u8 y2, .int .u8 y3] by unfold fourV; rw [e0, e1, e2, e3])
  have hw0 : 0 ≤ wordOf y0 y1 y2 y3 := by unfold wordOf; omega
  have hw1 : wordOf y0 y1 y2 y3 ≤ 4294967295 := by unfold wordOf; omega
  have hp2 : (p : Int) ≤ (n : Int) - 4 := by omega
  clear e0 e1 e2 e3
  go_enter Try.func6, Try.ntmps6
  go_wp2_with fail
  refine (awake_any _).mono ?_
  rintro e v1 ⟨rfl, hb1⟩
  replace hc0 := carry_cell hc0 hb1
  replace hc1 := carry_cell hc1 hb1
  replace hc2 := carry_cell hc2 hb1
  replace hc3 := carry_cell hc3 hb1
  go_wp2_with fail
  refine (four_any x _ x0 x1).mono ?_
  rintro e v2 ⟨rfl, hb2⟩
  replace hc0 := carry_cell hc0 hb2
  replace hc1 := carry_cell hc1 hb2
  replace hc2 := carry_cell hc2 hb2
  replace hc3 := carry_cell hc3 hb2
  go_wp2_with fail
  refine (word_any _ _ 4 4 _ 0 (back_made x x0 x1 _ _) (by decide) (by decide) (by decide)).mono ?_
  rintro e v3 ⟨rfl, hb3⟩
  replace hc0 := carry_cell (carry_alloc (carry_alloc hc0)) hb3
  replace hc1 := carry_cell (carry_alloc (carry_alloc hc1)) hb3
  replace hc2 := carry_cell (carry_alloc (carry_alloc hc2)) hb3
  replace hc3 := carry_cell (carry_alloc (carry_alloc hc3)) hb3
  rw [back_word x x0 x1, back_is]
  go_wp2_with fail
  refine (word_core b off n c p y0 y1 y2 y3 _ hp hnc (by omega) hcap b0 b0' b1 b1' b2 b2' b3 b3' hc0 hc1 hc2 hc3).mono ?_
  rintro e v4 ⟨rfl, hb4⟩
  replace hc0 := carry_cell hc0 hb4
  replace hc1 := carry_cell hc1 hb4
  replace hc2 := carry_cell hc2 hb4
  replace hc3 := carry_cell hc3 hb4
  go_wp2_with fail
  refine (four_any _ _ hw0 hw1).mono ?_
  rintro e v5 ⟨rfl, hb5⟩
  rw [HF.out]
  replace hc0 := carry_cell hc0 hb5
  replace hc1 := carry_cell hc1 hb5
  replace hc2 := carry_cell hc2 hb5
  replace hc3 := carry_cell hc3 hb5
  have hb := block_lt_of_cell hc0
  simp only at hb
  have HB := Lib.hid ((((((hb1.step hb2).alloc ((hb1.step hb2).size) (.cells #[.int .u8 (x / 16777216), .int .u8 (x / 65536 % 256), .int .u8 (x / 256 % 256), .int .u8 (x % 256)] 31)).alloc (by have := (hb1.step hb2).size; simp; omega) _).step hb3).step hb4).step hb5)
  clear hb1 hb2 hb3 hb4 hb5
  go_wp2_with fail
  go_quiet (fail)
  go_wp2
  go_ret
  exact ⟨rfl, below_drewN (HB.out.alloc HB.out.size _) _⟩

theorem rotBack_walk (x : Int) (a : Option Addr) (n c : Nat) (l : List UInt8) (p : Int) (w : World) (w1 : (Lit.int .u32 x).wf = true) (hr : Rd w a n c l) (w2 : (Lit.int .i64 p).wf = true) :
    Calls Try.prog 6 #[.int .u32 x, .slice a n c, .int .i64 p] w fun e w' => e = .returned (.bool true) ∧ Below w.heap.size w w' := by
  obtain ⟨x0, x1⟩ := wf_u32_bd w1
  obtain ⟨p0, p1⟩ := wf_i64_bd w2
  clear w1 w2
  have hr0 := hr.len
  by_cases hl : n ≤ 100
  · by_cases hin : 0 ≤ p ∧ p + 4 ≤ n
    · obtain ⟨q, rfl⟩ := Int.eq_ofNat_of_zero_le hin.1
      rcases hr.cells with h0 | ⟨b, off, rfl, _, hc⟩
      · omega
      · exact rotBack_in x b off n c q _ _ _ _ w x0 x1 hl (by omega) hr.le hr.cap (u8_bd _).1 (u8_bd _).2 (u8_bd _).1 (u8_bd _).2 (u8_bd _).1 (u8_bd _).2 (u8_bd _).1 (u8_bd _).2 (hc q (by omega)) (hc (q + 1) (by omega)) (hc (q + 2) (by omega)) (hc (q + 3) (by omega))
    · exact rotBack_out x a n c p w x0 x1 p0 p1 hl (by omega)
  · have hl2 : 100 < (n : Int) := by omega
    have hl3 : n ≤ 9223372036854775807 := Nat.le_trans hr.le hr.cap
    clear hr hr0
    go_enter Try.func6, Try.ntmps6
    go_wp2_with fail
    refine (awake_any _).mono ?_
    rintro e v1 ⟨rfl, hb1⟩
    go_wp2_with fail
    go_ret
    exact ⟨rfl, hb1⟩
end Go.Proofs.Ytgehpjojcfbldaa
