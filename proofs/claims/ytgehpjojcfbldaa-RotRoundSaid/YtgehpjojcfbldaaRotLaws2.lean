/- The statements of layer 1, walked out of the contracts of what they call. -/
import Derived.Test.YtgehpjojcfbldaaRotLaws
namespace Go.Proofs.Ytgehpjojcfbldaa
open Go.ChangeShapes Go.WideShapes Go.ChangeAt Go.RowKit
set_option linter.unusedVariables false

theorem rotTells_walk (a b c n : Int) (w0 : (Lit.int .u32 a).wf = true) (w1 : (Lit.int .u32 b).wf = true) (w2 : (Lit.int .u32 c).wf = true) (w3 : (Lit.int .i64 n).wf = true) (w : World) :
    Calls Try.prog 3 #[.int .u32 a, .int .u32 b, .int .u32 c, .int .i64 n] w fun e w' => e = .returned (.bool true) ∧ Below w.heap.size w w' := by
  obtain ⟨a0, a1⟩ := wf_u32_bd w0
  clear w0 w1 w2 w3
  go_enter Try.func3, Try.ntmps3
  go_wp2_with fail
  refine (awake_any _).mono ?_
  rintro e v1 ⟨rfl, hb1⟩
  go_wp2_with fail
  refine (right_any a n _ a0 a1).mono ?_
  rintro e v2 ⟨rfl, rfl⟩
  go_wp2_with fail
  refine (right_ref a n _ a0 a1).mono ?_
  rintro e v2 ⟨rfl, rfl⟩
  go_wp2_with fail
  refine (pick_any _ _ _ _).mono ?_
  rintro e v2 ⟨rfl, rfl⟩
  go_wp2_with fail
  refine (pick_ref_any _ _ _ _).mono ?_
  rintro e v2 ⟨rfl, rfl⟩
  go_wp2_with fail
  refine (most_any _ _ _ _).mono ?_
  rintro e v2 ⟨rfl, rfl⟩
  go_wp2_with fail
  refine (most_ref_any _ _ _ _).mono ?_
  rintro e v2 ⟨rfl, rfl⟩
  go_wp2
  go_ret
  exact ⟨rfl, hb1⟩

theorem rotSame_walk (a b c : Int) (w0 : (Lit.int .u32 a).wf = true) (w1 : (Lit.int .u32 b).wf = true) (w2 : (Lit.int .u32 c).wf = true) (w : World) :
    Calls Try.prog 7 #[.int .u32 a, .int .u32 b, .int .u32 c] w fun e w' => e = .returned (.bool true) ∧ Below w.heap.size w w' := by
  obtain ⟨a0, a1⟩ := wf_u32_bd w0
  obtain ⟨b0, b1⟩ := wf_u32_bd w1
  clear w0 w1 w2
  go_enter Try.func7, Try.ntmps7
  go_wp2_with fail
  refine (awake_any _).mono ?_
  rintro e v1 ⟨rfl, hb1⟩
  go_wp2_with fail
  refine (most_any _ _ _ _).mono ?_
  rintro e v2 ⟨rfl, rfl⟩
  go_wp2_with fail
  refine (pick_any _ _ _ _).mono ?_
  rintro e v2 ⟨rfl, rfl⟩
  rw [pick_same a b b0 b1]
  go_wp2_with fail
  refine (pick_any _ _ _ _).mono ?_
  rintro e v2 ⟨rfl, rfl⟩
  rw [pick_all a b a0 a1]
  go_wp2_with fail
  refine (pick_any _ _ _ _).mono ?_
  rintro e v2 ⟨rfl, rfl⟩
  rw [pick_zero a b b0 b1]
  go_wp2_with fail
  refine (most_any _ _ _ _).mono ?_
  rintro e v2 ⟨rfl, rfl⟩
  rw [most_same a b a0 a1]
  go_wp2_with fail
  refine (most_any _ _ _ _).mono ?_
  rintro e v2 ⟨rfl, rfl⟩
  rw [most_bac a b c]
  go_wp2_with fail
  refine (most_any _ _ _ _).mono ?_
  rintro e v2 ⟨rfl, rfl⟩
  rw [most_cba a b c]
  go_wp2
  go_ret
  exact ⟨rfl, hb1⟩

theorem rotEnds_walk (x y n : Int) (w0 : (Lit.int .u32 x).wf = true) (w1 : (Lit.int .u32 y).wf = true) (w2 : (Lit.int .i64 n).wf = true) (w : World) :
    Calls Try.prog 9 #[.int .u32 x, .int .u32 y, .int .i64 n] w fun e w' => e = .returned (.bool true) ∧ Below w.heap.size w w' := by
  clear w0 w1 w2
  go_enter Try.func9, Try.ntmps9
  go_wp2_with fail
  refine (awake_any _).mono ?_
  rintro e v1 ⟨rfl, hb1⟩
  go_wp2_with fail
  refine (right_any 0 n _ (by decide) (by decide)).mono ?_
  rintro e v2 ⟨rfl, rfl⟩
  rw [right_zero n]
  go_wp2_with fail
  refine (right_any 4294967295 n _ (by decide) (by decide)).mono ?_
  rintro e v2 ⟨rfl, rfl⟩
  rw [right_ones n]
  go_wp2_with fail
  refine (pick_any _ _ _ _).mono ?_
  rintro e v2 ⟨rfl, rfl⟩
  rw [pick_or x y]
  go_wp2_with fail
  refine (pick_any _ _ _ _).mono ?_
  rintro e v2 ⟨rfl, rfl⟩
  rw [pick_and x y]
  go_wp2_with fail
  refine (most_any _ _ _ _).mono ?_
  rintro e v2 ⟨rfl, rfl⟩
  rw [most_and x y]
  go_wp2_with fail
  refine (most_any _ _ _ _).mono ?_
  rintro e v2 ⟨rfl, rfl⟩
  rw [most_or x y]
  go_wp2
  go_ret
  exact ⟨rfl, hb1⟩

theorem rotRound_walk (x a b : Int) (w0 : (Lit.int .u32 x).wf = true) (w1 : (Lit.int .i64 a).wf = true) (w2 : (Lit.int .i64 b).wf = true) (w : World) :
    Calls Try.prog 5 #[.int .u32 x, .int .i64 a, .int .i64 b] w fun e w' => e = .returned (.bool true) ∧ Below w.heap.size w w' := by
  obtain ⟨x0, x1⟩ := wf_u32_bd w0
  clear w0 w1 w2
  by_cases h : -1000 ≤ a ∧ a ≤ 1000 ∧ -1000 ≤ b ∧ b ≤ 1000
  · obtain ⟨ha0, ha1, hb0, hb1⟩ := h
    go_enter Try.func5, Try.ntmps5
    go_wp2_with fail
    refine (awake_any _).mono ?_
    rintro e v1 ⟨rfl, hw1⟩
    have r1 := right_lo x a
    have r2 := right_hi x a
    go_wp2_with fail
    refine (right_any x a _ x0 x1).mono ?_
    rintro e v2 ⟨rfl, rfl⟩
    go_wp2_with fail
    refine (right_any x 32 _ x0 x1).mono ?_
    rintro e v2 ⟨rfl, rfl⟩
    rw [right_32 x x0 x1]
    go_wp2_with fail
    refine (right_any _ b _ r1 r2).mono ?_
    rintro e v2 ⟨rfl, rfl⟩
    rw [right_right x a b]
    go_wp2_with fail
    refine (right_any x (a + b) _ x0 x1).mono ?_
    rintro e v2 ⟨rfl, rfl⟩
    go_wp2_with fail
    refine (right_any _ (-a) _ r1 r2).mono ?_
    rintro e v2 ⟨rfl, rfl⟩
    rw [right_back x a x0 x1]
    have hz := right_is_zero x a x0 x1
    go_wp2
    go_ret
    exact ⟨rfl, hw1⟩
  · have h' : a < -1000 ∨ (-1000 ≤ a ∧ 1000 < a) ∨ ((-1000 ≤ a ∧ a ≤ 1000) ∧ b < -1000) ∨ ((-1000 ≤ a ∧ a ≤ 1000) ∧ (-1000 ≤ b ∧ 1000 < b)) := by omega
    clear h
    rcases h' with h | ⟨h1, h2⟩ | ⟨⟨h1, h2⟩, h3⟩ | ⟨⟨h1, h2⟩, h3, h4⟩
    all_goals
      go_enter Try.func5, Try.ntmps5
      go_wp2_with fail
      refine (awake_any _).mono ?_
      rintro e v1 ⟨rfl, hw1⟩
      go_wp2_with fail
      go_ret
      exact ⟨rfl, hw1⟩
end Go.Proofs.Ytgehpjojcfbldaa
