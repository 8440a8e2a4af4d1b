/- The statements EncSigns, EncGets and EncPuts, walked out of the contracts of what they call. -/
import Derived.Test.YtdckonfcdflmdaaEncLaws
namespace Go.Proofs.Ytdckonfcdflmdaa
open Go.ChangeShapes Go.WideShapes Go.ChangeAt Go.RowKit
set_option linter.unusedVariables false

set_option maxHeartbeats 1000000 in
theorem encSigns_walk (n m : Int) (w0 : (Lit.int .i64 n).wf = true) (w1 : (Lit.int .u64 m).wf = true) (w : World) :
    Calls Try.prog 6 #[.int .i64 n, .int .u64 m] w fun e w' => e = .returned (.bool true) ∧ Below w.heap.size w w' := by
  obtain ⟨n0, n1⟩ := wf_i64_bd w0
  obtain ⟨m0, m1⟩ := wf_u64_bd w1
  clear w0 w1
  have f0 := fold_lo n
  have f1 := fold_hi n n0 n1
  have u0 := unfold_lo m m0 m1
  have u1 := unfold_hi m m0 m1
  have HU := Lib.hid (unfold_fold n)
  have HF := Lib.hid (fold_unfold m m0)
  have hcase : n < -1000000 ∨ (-1000000 ≤ n ∧ 1000000 < n) ∨ ((-1000000 ≤ n ∧ n < 0) ∧ (fold n ≤ 2000000 ∧ fold n % 2 = 1)) ∨ ((0 ≤ n ∧ n ≤ 1000000) ∧ (fold n ≤ 2000000 ∧ fold n % 2 = 0)) := by
    unfold fold; by_cases h : 0 ≤ n
    · rw [if_pos h]; omega
    · rw [if_neg h]; omega
  rcases hcase with h | ⟨h, h2⟩ | ⟨⟨h1, h2⟩, h3, h4⟩ | ⟨⟨h1, h2⟩, h3, h4⟩
  all_goals
    go_enter Try.func6, Try.ntmps6
    go_wp2_with fail
    refine (awake_any _).mono ?_
    rintro e v1 ⟨rfl, hb1⟩
    go_wp2_with fail
    refine (fold_any n _ n0 n1).mono ?_
    rintro e v2 ⟨rfl, rfl⟩
    go_wp2_with fail
    refine (unfold_any (fold n) _ f0 f1).mono ?_
    rintro e v2 ⟨rfl, rfl⟩
    rw [HU.out]
    go_wp2_with fail
    refine (unfold_any m _ m0 m1).mono ?_
    rintro e v2 ⟨rfl, rfl⟩
    go_wp2_with fail
    refine (fold_any (unfold' m) _ u0 u1).mono ?_
    rintro e v2 ⟨rfl, rfl⟩
    rw [HF.out]
    go_wp2
    go_ret
    first | exact ⟨rfl, hb1⟩ | exact ⟨retb (by simp; omega), hb1⟩

set_option maxHeartbeats 1000000 in
theorem encGets_walk (a : Option Addr) (n c : Nat) (l : List UInt8) (most : Int) (w : World) (hr : Rd w a n c l) (w1 : (Lit.int .i64 most).wf = true) :
    Calls Try.prog 4 #[.slice a n c, .int .i64 most] w fun e w' => e = .returned (.bool true) ∧ Below w.heap.size w w' := by
  obtain ⟨m0, m1⟩ := wf_i64_bd w1
  clear w1
  by_cases hl : n ≤ 300
  · have htl := toList_bytes
    go_enter Try.func4, Try.ntmps4
    go_wp2_with fail
    refine (awake_any _).mono ?_
    rintro e v1 ⟨rfl, hb1⟩
    have hr1 := hr.below hb1
    go_wp2_with fail
    refine (get_any a n c l _ hr1 (by omega)).mono ?_
    rintro e v2 ⟨rfl, rfl⟩
    go_wp2_with fail
    refine (get_ref a n c l _ hr1 (by omega)).mono ?_
    rintro e v3 ⟨rfl, hb3⟩
    have hr3 := hr1.below hb3
    go_wp2_with fail
    refine (cut_any a n c l most _ hr3 (by omega) m0 m1).mono ?_
    rintro e v4 ⟨u4, rfl, hown4, hb4⟩
    have hr4 := hr3.below hb4
    go_wp2_with fail
    refine (cut_ref a n c l most _ hr4 (by omega) m0 m1).mono ?_
    rintro e v5 ⟨u5, rfl, hown5, hb5⟩
    have hs4 := str_own (ownsRow_below hown4 hb5)
    have hs5 := str_own hown5
    go_wp2
    go_ret
    exact ⟨rfl, Below.step (Below.step (Below.step hb1 hb3) hb4) hb5⟩
  · have hl2 : 300 < (n : Int) := by omega
    have hl3 : n ≤ 9223372036854775807 := Nat.le_trans hr.le hr.cap
    clear hr
    go_enter Try.func4, Try.ntmps4
    go_wp2_with fail
    refine (awake_any _).mono ?_
    rintro e v1 ⟨rfl, hb1⟩
    go_wp2_with fail
    go_ret
    exact ⟨rfl, hb1⟩

set_option maxRecDepth 100000 in
set_option maxHeartbeats 2000000 in
theorem encPuts_walk (N : Nat) (k : Int) (s : ByteArray) (hN : N < 18446744073709551616) (k0 : -9223372036854775808 ≤ k) (k1 : k ≤ 9223372036854775807) (hs : s.size ≤ 9223372036854775807) (w : World) :
    Calls Try.prog 3 #[.int .u64 (N : Int), .int .i64 k, .string s] w fun e w' => e = .returned (.bool true) ∧ Below w.heap.size w w' := by
  by_cases hl : s.size ≤ 300
  · have htl := toList_bytes
    have hN0 : (0 : Int) ≤ (N : Int) := by omega
    have hN1 : (N : Int) ≤ 18446744073709551615 := by omega
    go_enter Try.func3, Try.ntmps3
    go_wp2_with fail
    refine (awake_any _).mono ?_
    rintro e v1 ⟨rfl, hb1⟩
    go_wp2_with fail
    go_region_with (first
      | (go_at_call 11; refine (num_any N hN _).mono ?_; rintro e v2 ⟨u2, rfl, hown2, hb2⟩; have hs2 := str_own hown2)
      | (go_at_call 12; refine (num_ref N hN _).mono ?_; rintro e v3 ⟨u3, rfl, hown3, hb3⟩; have hs3 := str_own hown3; have hs23 := str_own (ownsRow_below hown2 hb3))
      | (go_at_call 13; refine (fold_any k _ k0 k1).mono ?_; rintro e v4 ⟨rfl, rfl⟩)
      | (go_at_call 14; refine (fold_ref k _ k0 k1).mono ?_; rintro e v4 ⟨rfl, rfl⟩)
      | (go_at_call 15; refine (unfold_any N _ hN0 hN1).mono ?_; rintro e v4 ⟨rfl, rfl⟩)
      | (go_at_call 16; refine (unfold_ref N _ hN0 hN1).mono ?_; rintro e v4 ⟨rfl, rfl⟩)
      | (go_at_call 17; refine (text_any s _ (by omega)).mono ?_; rintro e v5 ⟨u5, rfl, hown5, hb5⟩; have hs5 := str_own hown5)
      | (go_at_call 18; refine (text_ref s _ (by omega)).mono ?_; rintro e v6 ⟨u6, rfl, hown6, hb6⟩; have hs6 := str_own hown6; have hs56 := str_own (ownsRow_below hown5 hb6)))
    all_goals
      go_wp2
      go_ret
      exact ⟨rfl, Below.step (Below.step (Below.step (Below.step hb1.drew hb2) hb3) hb5) hb6⟩
  · have hl2 : 300 < (s.size : Int) := by omega
    go_enter Try.func3, Try.ntmps3
    go_wp2_with fail
    refine (awake_any _).mono ?_
    rintro e v1 ⟨rfl, hb1⟩
    go_wp2_with fail
    go_ret
    exact ⟨rfl, hb1⟩
end Go.Proofs.Ytdckonfcdflmdaa
