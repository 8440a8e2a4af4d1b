/- The statements of layer 1 with loops and slices, walked out of the contracts of what they call. -/
import Derived.Test.YtgehpjojcfbldaaRotLaws
import Derived.LoopTactic
namespace Go.Proofs.Ytgehpjojcfbldaa
open Go.ChangeShapes Go.WideShapes Go.ChangeAt Go.RowKit
set_option linter.unusedVariables false

theorem long_halves (x y : Int) (x0 : 0 ≤ x) (x1 : x ≤ 4294967295) (y0 : 0 ≤ y) (y1 : y ≤ 4294967295) :
    longV (4294967296 * x + y) = .agg #[.int .u8 (x / 16777216), .int .u8 (x / 65536 % 256), .int .u8 (x / 256 % 256), .int .u8 (x % 256), .int .u8 (y / 16777216), .int .u8 (y / 65536 % 256), .int .u8 (y / 256 % 256), .int .u8 (y % 256)] := by
  have e1 : (4294967296 * x + y) / 72057594037927936 = x / 16777216 := by omega
  have e2 : (4294967296 * x + y) / 281474976710656 % 256 = x / 65536 % 256 := by omega
  have e3 : (4294967296 * x + y) / 1099511627776 % 256 = x / 256 % 256 := by omega
  have e4 : (4294967296 * x + y) / 4294967296 % 256 = x % 256 := by omega
  have e5 : (4294967296 * x + y) / 16777216 % 256 = y / 16777216 := by omega
  have e6 : (4294967296 * x + y) / 65536 % 256 = y / 65536 % 256 := by omega
  have e7 : (4294967296 * x + y) / 256 % 256 = y / 256 % 256 := by omega
  have e8 : (4294967296 * x + y) % 256 = y % 256 := by omega
  unfold longV; rw [e1, e2, e3, e4, e5, e6, e7, e8]

theorem rotLong_walk (x y : Int) (w0 : (Lit.int .u32 x).wf = true) (w1 : (Lit.int .u32 y).wf = true) (w : World) :
    Calls Try.prog 10 #[.int .u32 x, .int .u32 y] w fun e w' => e = .returned (.bool true) ∧ Below w.heap.size w w' := by
  obtain ⟨x0, x1⟩ := wf_u32_bd w0
  obtain ⟨y0, y1⟩ := wf_u32_bd w1
  clear w0 w1
  go_enter Try.func10, Try.ntmps10
  go_wp2_with fail
  refine (awake_any _).mono ?_
  rintro e v1 ⟨rfl, hb1⟩
  go_wp2_with fail
  refine (four_any x _ x0 x1).mono ?_
  rintro e v2 ⟨rfl, hb2⟩
  go_wp2_with fail
  refine (four_any y _ y0 y1).mono ?_
  rintro e v3 ⟨rfl, hb3⟩
  go_wp2_with fail
  refine (long_any (4294967296 * x + y) _ (by omega) (by omega)).mono ?_
  rintro e v4 ⟨rfl, hb4⟩
  rw [long_halves x y x0 x1 y0 y1]
  have p0 := carry_cell (carry_alloc (o := .cells #[.int .u8 (y / 16777216), .int .u8 (y / 65536 % 256), .int .u8 (y / 256 % 256), .int .u8 (y % 256)] 31) (carry_cell (new_cell (w := v2) (t := 31) (i := 0) (cs := #[.int .u8 (x / 16777216), .int .u8 (x / 65536 % 256), .int .u8 (x / 256 % 256), .int .u8 (x % 256)]) rfl) hb3)) hb4
  have p1 := carry_cell (carry_alloc (o := .cells #[.int .u8 (y / 16777216), .int .u8 (y / 65536 % 256), .int .u8 (y / 256 % 256), .int .u8 (y % 256)] 31) (carry_cell (new_cell (w := v2) (t := 31) (i := 1) (cs := #[.int .u8 (x / 16777216), .int .u8 (x / 65536 % 256), .int .u8 (x / 256 % 256), .int .u8 (x % 256)]) rfl) hb3)) hb4
  have p2 := carry_cell (carry_alloc (o := .cells #[.int .u8 (y / 16777216), .int .u8 (y / 65536 % 256), .int .u8 (y / 256 % 256), .int .u8 (y % 256)] 31) (carry_cell (new_cell (w := v2) (t := 31) (i := 2) (cs := #[.int .u8 (x / 16777216), .int .u8 (x / 65536 % 256), .int .u8 (x / 256 % 256), .int .u8 (x % 256)]) rfl) hb3)) hb4
  have p3 := carry_cell (carry_alloc (o := .cells #[.int .u8 (y / 16777216), .int .u8 (y / 65536 % 256), .int .u8 (y / 256 % 256), .int .u8 (y % 256)] 31) (carry_cell (new_cell (w := v2) (t := 31) (i := 3) (cs := #[.int .u8 (x / 16777216), .int .u8 (x / 65536 % 256), .int .u8 (x / 256 % 256), .int .u8 (x % 256)]) rfl) hb3)) hb4
  have q0 := carry_cell (new_cell (w := v3) (t := 31) (i := 0) (cs := #[.int .u8 (y / 16777216), .int .u8 (y / 65536 % 256), .int .u8 (y / 256 % 256), .int .u8 (y % 256)]) rfl) hb4
  have q1 := carry_cell (new_cell (w := v3) (t := 31) (i := 1) (cs := #[.int .u8 (y / 16777216), .int .u8 (y / 65536 % 256), .int .u8 (y / 256 % 256), .int .u8 (y % 256)]) rfl) hb4
  have q2 := carry_cell (new_cell (w := v3) (t := 31) (i := 2) (cs := #[.int .u8 (y / 16777216), .int .u8 (y / 65536 % 256), .int .u8 (y / 256 % 256), .int .u8 (y % 256)]) rfl) hb4
  have q3 := carry_cell (new_cell (w := v3) (t := 31) (i := 3) (cs := #[.int .u8 (y / 16777216), .int .u8 (y / 65536 % 256), .int .u8 (y / 256 % 256), .int .u8 (y % 256)]) rfl) hb4
  have z2 : v2.heap.size < v4.heap.size := block_lt_of_cell p0
  have z3 : v3.heap.size < v4.heap.size := block_lt_of_cell q0
  have HB := Lib.hid (((hb1.step hb2).alloc ((hb1.step hb2).size) (.cells #[.int .u8 (x / 16777216), .int .u8 (x / 65536 % 256), .int .u8 (x / 256 % 256), .int .u8 (x % 256)] 31)).step hb3)
  have HB2 := Lib.hid ((HB.out.alloc HB.out.size (.cells #[.int .u8 (y / 16777216), .int .u8 (y / 65536 % 256), .int .u8 (y / 256 % 256), .int .u8 (y % 256)] 31)).step hb4)
  clear HB hb1 hb2 hb3 hb4
  go_wp2
  refine wp_loop_rounds 5 ?_
  rw [rounds_succ]
  go_wp2
  go_quiet (fail)
  go_wp2
  rw [rounds_succ]
  go_wp2
  go_quiet (fail)
  go_wp2
  rw [rounds_succ]
  go_wp2
  go_quiet (fail)
  go_wp2
  rw [rounds_succ]
  go_wp2
  go_quiet (fail)
  go_wp2
  rw [rounds_succ]
  go_wp2
  go_ret
  refine ⟨rfl, ?_⟩
  exact below_drewN (HB2.out.alloc HB2.out.size _) _

theorem bit_any (x : Int) (k : Nat) (w : World) (x0 : 0 ≤ x) (x1 : x ≤ 4294967295) (hk : k ≤ 31) :
    Calls Try.prog 24 #[.int .u32 x, .int .i64 (k : Int)] w fun e w' => e = .returned (.bool (bitB x k)) ∧ w = w' := by
  go_enter Try.func24, Try.ntmps24
  go_wp2
  go_loop [0, 5] (fun y i => ∃ (j : Nat) (q : Int), j ≤ k ∧ i = .int .i64 (j : Int) ∧ y = .int .u32 q ∧ 0 ≤ q ∧ q ≤ 4294967295 ∧ Hid (q = x / 2 ^ j)) (fun _ i => k - (intOf i).toNat)
  case atStart => exact ⟨0, x, Nat.zero_le _, rfl, rfl, x0, x1, (by simp : x = x / 2 ^ 0)⟩
  case round =>
    obtain ⟨j, q, hj, rfl, rfl, q0, q1, HQ⟩ := hrel
    by_cases hlt : j < k
    · go_wp2
      go_round
      case rel => exact ⟨j + 1, q / 2, by omega, by go_num, rfl, by omega, by omega, (by rw [HQ.out, Int.pow_succ, Int.ediv_ediv_of_nonneg (Int.pow_nonneg (by decide))] : q / 2 = x / 2 ^ (j + 1))⟩
      case measure => simp [intOf]; omega
    · go_wp2
      go_ret
      refine ⟨retb ?_, rfl⟩
      have e : j = k := by omega
      rw [bitB_of x k x0 x1, ← e, ← HQ.out]

theorem rotBytes_walk (a : Option Addr) (n c : Nat) (l : List UInt8) (p x y : Int) (w : World) (hr : Rd w a n c l) (w1 : (Lit.int .i64 p).wf = true) (w2 : (Lit.int .u32 x).wf = true) (w3 : (Lit.int .u64 y).wf = true) :
    Calls Try.prog 4 #[.slice a n c, .int .i64 p, .int .u32 x, .int .u64 y] w fun e w' => e = .returned (.bool true) ∧ Below w.heap.size w w' := by
  obtain ⟨p0, p1⟩ := wf_i64_bd w1
  obtain ⟨x0, x1⟩ := wf_u32_bd w2
  obtain ⟨y0, y1⟩ := wf_u64_bd w3
  clear w1 w2 w3
  have hr0 := hr.len
  have hn : n ≤ 140737488351232 ∨ 100 < n := by omega
  by_cases hl : n ≤ 100
  · have HR := Lib.hid hr0; clear hr0
    have he4 := fun w => run_equalIn_arr_int (P := Try.prog) w 9998 [x / 16777216, x / 65536 % 256, x / 256 % 256, x % 256] [x / 16777216, x / 65536 % 256, x / 256 % 256, x % 256] Try.underlying31 Try.underlying5 (by kernel_rfl) rfl rfl
    have he8 := fun w => run_equalIn_arr_int (P := Try.prog) w 9998 [y / 72057594037927936, y / 281474976710656 % 256, y / 1099511627776 % 256, y / 4294967296 % 256, y / 16777216 % 256, y / 65536 % 256, y / 256 % 256, y % 256] [y / 72057594037927936, y / 281474976710656 % 256, y / 1099511627776 % 256, y / 4294967296 % 256, y / 16777216 % 256, y / 65536 % 256, y / 256 % 256, y % 256] Try.underlying33 Try.underlying5 (by kernel_rfl) rfl rfl
    simp only [Nat.reduceAdd, List.map_cons, List.map_nil, beq_self_eq_true] at he4 he8
    go_enter Try.func4, Try.ntmps4
    go_wp2_with fail
    refine (awake_any _).mono ?_
    rintro e v1 ⟨rfl, hb1⟩
    have hr1 := hr.below hb1
    go_wp2_with fail
    refine (word_any _ a n c l p hr1 (by omega) p0 p1).mono ?_
    rintro e v2 ⟨rfl, hb2⟩
    have hr2 := hr1.below hb2
    go_wp2_with fail
    refine (word_ref _ a n c l p hr2 (by omega) p0 p1).mono ?_
    rintro e v3 ⟨rfl, hb3⟩
    go_wp2_with fail
    refine (four_any x _ x0 x1).mono ?_
    rintro e v4 ⟨rfl, hb4⟩
    go_wp2_with fail
    refine (four_ref x _ x0 x1).mono ?_
    rintro e v5 ⟨rfl, hb5⟩
    go_wp2_with fail
    refine (long_any y _ y0 y1).mono ?_
    rintro e v6 ⟨rfl, hb6⟩
    go_wp2_with fail
    refine (long_ref y _ y0 y1).mono ?_
    rintro e v7 ⟨rfl, hb7⟩
    go_wp2
    go_ret
    exact ⟨rfl, ((((((hb1.step hb2).step hb3).step hb4).step hb5).step hb6).step hb7)⟩
  · have hl2 : 100 < (n : Int) := by omega
    have hl3 : n ≤ 9223372036854775807 := Nat.le_trans hr.le hr.cap
    clear hr hr0 hn
    go_enter Try.func4, Try.ntmps4
    go_wp2_with fail
    refine (awake_any _).mono ?_
    rintro e v1 ⟨rfl, hb1⟩
    go_wp2_with fail
    go_ret
    exact ⟨rfl, hb1⟩

theorem bit_int (x k : Int) (w : World) (x0 : 0 ≤ x) (x1 : x ≤ 4294967295) (k0 : 0 ≤ k) (k1 : k ≤ 31) :
    Calls Try.prog 24 #[.int .u32 x, .int .i64 k] w fun e w' => e = .returned (.bool (bitB x k)) ∧ w = w' := by
  obtain ⟨j, rfl⟩ := Int.eq_ofNat_of_zero_le k0
  exact bit_any x j w x0 x1 (by omega)

theorem pick_bit_is {x y z k : Int} {p q r : Bool} (hp : bitB x k = p) (hq : bitB y k = q) (hr : bitB z k = r) : bitB (pick x y z) k = bif p then q else r := by
  rw [pick_bitB, hp, hq, hr]; cases p <;> rfl
theorem most_bit_is {x y z k : Int} {p q r : Bool} (hp : bitB x k = p) (hq : bitB y k = q) (hr : bitB z k = r) : bitB (most x y z) k = (p && q || p && r || q && r) := by
  rw [most_bitB, hp, hq, hr]

set_option maxHeartbeats 1600000 in
theorem rotBits_in (x y z n k : Int) (x0 : 0 ≤ x) (x1 : x ≤ 4294967295) (y0 : 0 ≤ y) (y1 : y ≤ 4294967295) (z0 : 0 ≤ z) (z1 : z ≤ 4294967295) (k0 : 0 ≤ k) (k1 : k ≤ 31) (n0 : -1000 ≤ n) (n1 : n ≤ 1000) (w : World) :
    Calls Try.prog 8 #[.int .u32 x, .int .u32 y, .int .u32 z, .int .i64 n, .int .i64 k] w fun e w' => e = .returned (.bool true) ∧ Below w.heap.size w w' := by
  have ha0 : 0 ≤ k + n + 1024 := by omega
  have ha1 : 0 ≤ (k + n + 1024) % 32 := by omega
  have ha2 : (k + n + 1024) % 32 ≤ 31 := by omega
  have r1 := right_lo x n
  have r2 := right_hi x n
  have p1 := pick_lo x y z
  have p2 := pick_hi x y z
  have m1 := most_lo x y z
  have m2 := most_hi x y z
  have HR := Lib.hid (right_bitB x n k k0 k1 n0 n1)
  cases hp : bitB x k <;> cases hq : bitB y k <;> cases hr : bitB z k
  all_goals
    have HP := Lib.hid (pick_bit_is hp hq hr)
    have HM := Lib.hid (most_bit_is hp hq hr)
    have H1 := Lib.hid hp
    have H2 := Lib.hid hq
    have H3 := Lib.hid hr
    clear hp hq hr
    go_enter Try.func8, Try.ntmps8
    go_wp2_with fail
    refine (awake_any _).mono ?_
    rintro e v1 ⟨rfl, hw1⟩
    go_wp2_with fail
    refine (bit_int x k _ x0 x1 k0 k1).mono ?_
    rintro e v2 ⟨rfl, rfl⟩
    rw [H1.out]
    go_wp2_with fail
    refine (bit_int y k _ y0 y1 k0 k1).mono ?_
    rintro e v2 ⟨rfl, rfl⟩
    rw [H2.out]
    go_wp2_with fail
    refine (bit_int z k _ z0 z1 k0 k1).mono ?_
    rintro e v2 ⟨rfl, rfl⟩
    rw [H3.out]
    go_wp2_with fail
    refine (right_any x n _ x0 x1).mono ?_
    rintro e v2 ⟨rfl, rfl⟩
    go_wp2_with fail
    refine (bit_int _ k _ r1 r2 k0 k1).mono ?_
    rintro e v2 ⟨rfl, rfl⟩
    rw [HR.out]
    go_wp2_with fail
    refine (bit_int x _ _ x0 x1 ha1 ha2).mono ?_
    rintro e v2 ⟨rfl, rfl⟩
    go_wp2_with fail
    refine (pick_any x y z _).mono ?_
    rintro e v2 ⟨rfl, rfl⟩
    go_wp2_with fail
    refine (bit_int _ k _ p1 p2 k0 k1).mono ?_
    rintro e v2 ⟨rfl, rfl⟩
    rw [HP.out]
    go_wp2_with fail
    refine (most_any x y z _).mono ?_
    rintro e v2 ⟨rfl, rfl⟩
    go_wp2_with fail
    refine (bit_int _ k _ m1 m2 k0 k1).mono ?_
    rintro e v2 ⟨rfl, rfl⟩
    rw [HM.out]
    go_wp2
    go_ret
    exact ⟨rfl, hw1⟩

theorem rotBits_walk (x y z n k : Int) (w0 : (Lit.int .u32 x).wf = true) (w1 : (Lit.int .u32 y).wf = true) (w2 : (Lit.int .u32 z).wf = true) (w3 : (Lit.int .i64 n).wf = true) (w4 : (Lit.int .i64 k).wf = true) (w : World) :
    Calls Try.prog 8 #[.int .u32 x, .int .u32 y, .int .u32 z, .int .i64 n, .int .i64 k] w fun e w' => e = .returned (.bool true) ∧ Below w.heap.size w w' := by
  obtain ⟨x0, x1⟩ := wf_u32_bd w0
  obtain ⟨y0, y1⟩ := wf_u32_bd w1
  obtain ⟨z0, z1⟩ := wf_u32_bd w2
  clear w0 w1 w2 w3 w4
  by_cases h : 0 ≤ k ∧ k ≤ 31 ∧ -1000 ≤ n ∧ n ≤ 1000
  · obtain ⟨k0, k1, n0, n1⟩ := h
    exact rotBits_in x y z n k x0 x1 y0 y1 z0 z1 k0 k1 n0 n1 w
  · have h' : k < 0 ∨ (0 ≤ k ∧ 31 < k) ∨ ((0 ≤ k ∧ k ≤ 31) ∧ n < -1000) ∨ ((0 ≤ k ∧ k ≤ 31) ∧ (-1000 ≤ n ∧ 1000 < n)) := by omega
    clear h
    rcases h' with h | ⟨h1, h2⟩ | ⟨⟨h1, h2⟩, h3⟩ | ⟨⟨h1, h2⟩, h3, h4⟩
    all_goals
      go_enter Try.func8, Try.ntmps8
      go_wp2_with fail
      refine (awake_any _).mono ?_
      rintro e v1 ⟨rfl, hw1⟩
      go_wp2_with fail
      go_ret
      exact ⟨rfl, hw1⟩

end Go.Proofs.Ytgehpjojcfbldaa
