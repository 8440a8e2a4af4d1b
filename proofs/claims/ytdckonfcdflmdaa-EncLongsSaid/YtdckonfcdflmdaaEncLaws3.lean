/- The statement EncLongs, walked out of the contracts of what it calls. -/
import Derived.Test.YtdckonfcdflmdaaEncLaws
namespace Go.Proofs.Ytdckonfcdflmdaa
open Go.ChangeShapes Go.WideShapes Go.ChangeAt Go.RowKit
set_option linter.unusedVariables false

theorem numL_mono (k : Nat) : ∀ m n, m < k → m ≤ n → (numL m).length ≤ (numL n).length := by
  induction k with
  | zero => intro m n h; omega
  | succ k ih =>
    intro m n h hmn
    by_cases hb : m > 127
    · rw [numL_big hb, numL_big (show n > 127 by omega)]
      have := ih (m / 128) (n / 128) (by omega) (by omega)
      simp only [List.length_cons]; omega
    · rw [numL_small (by omega)]
      have := numL_pos n
      simp; omega
theorem numL_one (n : Nat) : (numL n).length = 1 ↔ n < 128 := by
  by_cases hb : n > 127
  · rw [numL_big hb]; have := numL_pos (n / 128); simp only [List.length_cons]; omega
  · rw [numL_small (by omega)]; simp; omega
theorem numL_two (n : Nat) : 2 < (numL n).length ↔ 16384 ≤ n := by
  by_cases hb : n > 127
  · rw [numL_big hb, List.length_cons]
    have h1 := numL_one (n / 128)
    have := numL_pos (n / 128)
    omega
  · rw [numL_small (by omega)]; simp; omega

set_option maxRecDepth 100000 in
set_option maxHeartbeats 1000000 in
theorem encLongs_walk (N M : Nat) (hN : N < 18446744073709551616) (hM : M < 18446744073709551616) (w : World) :
    Calls Try.prog 7 #[.int .u64 (N : Int), .int .u64 (M : Int)] w fun e w' => e = .returned (.bool true) ∧ Below w.heap.size w w' := by
  have hx1 := numL_pos N
  have hx2 := numL_le10 N hN
  have hy2 := numL_le10 M hM
  have HB := Lib.hid (numL_bytes (N + 1) N (by omega))
  have hmono : ¬ ((M : Int) < (N : Int) ∧ (((numL N).length : Nat) : Int) < ((numL M).length : Nat)) := by
    rintro ⟨h1, h2⟩
    have := numL_mono (M + 1) M N (by omega) (by omega)
    omega
  have h1 := numL_one N
  have h2 := numL_two N
  have HE1 := Lib.hid (show ((((numL N).length : Nat) : Int) == 1) = decide ((N : Int) < 128) by
    rw [Bool.eq_iff_iff, beq_iff_eq, decide_eq_true_eq]; omega)
  have HE2 := Lib.hid (show decide ((2 : Int) < (((numL N).length : Nat) : Int)) = decide ((16384 : Int) ≤ (N : Int)) by
    rw [Bool.eq_iff_iff, decide_eq_true_eq, decide_eq_true_eq]; omega)
  clear h1 h2
  obtain ⟨lx, hlx⟩ : ∃ lx, lx = (numL N).length := ⟨_, rfl⟩
  obtain ⟨ly, hly⟩ : ∃ ly, ly = (numL M).length := ⟨_, rfl⟩
  rw [← hlx] at hx1 hx2 hmono HE1 HE2
  rw [← hly] at hy2 hmono
  have HLX := Lib.hid hlx
  have HLY := Lib.hid hly
  clear hlx hly
  have hmm : ¬ (M : Int) < (N : Int) ∨ ((M : Int) < (N : Int) ∧ ¬ (lx : Int) < (ly : Int)) := by omega
  clear hmono
  rcases hmm with hm | ⟨hm, hm2⟩
  all_goals
    go_enter Try.func7, Try.ntmps7
    go_wp2_with fail
    refine (awake_any _).mono ?_
    rintro e v1 ⟨rfl, hb1⟩
    go_wp2_with fail
    refine (num_any N hN _).mono ?_
    rintro e v2 ⟨u2, rfl, hown2, hb2⟩
    rw [← HLX.out] at hown2
    go_wp2_with fail
    refine (num_any M hM _).mono ?_
    rintro e v3 ⟨u3, rfl, hown3, hb3⟩
    rw [← HLY.out] at hown3
    obtain ⟨a3, c3, rfl, hr3⟩ := Rd.of_own hown3
    obtain ⟨a2, c2, rfl, hr2⟩ := Rd.of_own (ownsRow_below hown2 hb3)
    rcases hr2.cells with h0 | ⟨b, off, rfl, hlt, hc⟩
    · omega
    have hcc := hr2.le
    have HC := Lib.hid hc; clear hc hr2 hr3 hown2 hown3
    have HBB := Lib.hid (Below.step (Below.step hb1 hb2) hb3); clear hb1 hb2 hb3
    go_wp2
    go_loop [8] (fun iv => ∃ i : Nat, i ≤ lx ∧ iv = .int .i64 (i : Int)) (fun iv => lx - (intOf iv).toNat)
    case atStart => exact ⟨0, Nat.zero_le _, rfl⟩
    case round =>
      obtain ⟨i, hi, rfl⟩ := hrel
      by_cases hlt2 : i < lx
      · have hcell := HC.out i hlt2
        have hb := HB.out i (by rw [← HLX.out]; exact hlt2)
        rw [← HLX.out] at hb
        generalize (numL N).getD i 0 = x at hcell hb
        by_cases hend : i + 1 = lx
        · have hx : (x.toNat : Int) < 128 := by omega
          have hz : ((i : Int) == (lx : Int) - 1) = true := by rw [beq_iff_eq]; omega
          have HEND := Lib.hid hend; clear hb hend
          go_wp2
          exact ⟨⟨i + 1, by omega, by go_num⟩, by simp [intOf]; omega⟩
        · have hx : ¬ (x.toNat : Int) < 128 := by omega
          have hz : ((i : Int) == (lx : Int) - 1) = false := by rw [beq_eq_false_iff_ne]; omega
          clear hb hend
          go_wp2
          exact ⟨⟨i + 1, by omega, by go_num⟩, by simp [intOf]; omega⟩
      · have h3 : ((N : Int) < 128 ∧ ((lx : Int) == 1) = true ∧ ¬ (2 : Int) < lx) ∨ (¬ (N : Int) < 128 ∧ ((lx : Int) == 1) = false ∧ (N : Int) < 16384 ∧ ¬ (2 : Int) < lx) ∨ (¬ (N : Int) < 128 ∧ ((lx : Int) == 1) = false ∧ ¬ (N : Int) < 16384 ∧ (2 : Int) < lx) := by
          have e1 := HE1.out
          have e2 := HE2.out
          by_cases hA : (N : Int) < 128
          · rw [decide_eq_true hA] at e1
            have : lx = 1 := by have := (beq_iff_eq.1 e1); omega
            exact .inl ⟨hA, e1, by omega⟩
          · rw [decide_eq_false hA] at e1
            by_cases hB : (16384 : Int) ≤ (N : Int)
            · rw [decide_eq_true hB] at e2
              exact .inr (.inr ⟨hA, e1, by omega, of_decide_eq_true e2⟩)
            · rw [decide_eq_false hB] at e2
              exact .inr (.inl ⟨hA, e1, by omega, of_decide_eq_false e2⟩)
        rcases h3 with ⟨t1, t2, t3⟩ | ⟨t1, t2, t3, t4⟩ | ⟨t1, t2, t3, t4⟩
        all_goals
          go_wp2
          go_ret
          first | exact ⟨rfl, HBB.out⟩ | exact ⟨retb (by simp; omega), HBB.out⟩
end Go.Proofs.Ytdckonfcdflmdaa
