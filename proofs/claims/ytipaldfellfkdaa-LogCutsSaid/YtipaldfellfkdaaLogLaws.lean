/- The statement LogLongs, walked out of the contracts of what it calls. -/
import Derived.Test.YtipaldfellfkdaaLogAwake
namespace Go.Proofs.Ytipaldfellfkdaa
open Go.ChangeShapes Go.WideShapes Go.ChangeAt Go.RowKit
set_option linter.unusedVariables false

theorem numL_one {n : Nat} (h : n ≤ 127) : (numL n).length = 1 := by rw [numL_small h]; rfl
theorem numL_two {n : Nat} (h : 127 < n) (h2 : n ≤ 16383) : (numL n).length = 2 := by
  rw [numL_big h, List.length_cons, numL_small (by omega)]; rfl
theorem Rd.zeros (w : World) (n : Nat) (e : TypeId) (h : n ≤ 140737488351232) : Rd (w.alloc (.cells (madeCells #[.int .u8 0] n) e)) (some ⟨w.heap.size, 0, none⟩) n n (List.replicate n 0) := by
  refine ⟨by simp, Nat.le_refl _, by omega, .inr ⟨w.heap.size, 0, rfl, by simp, fun i hi => ?_⟩⟩
  rw [cell_of_row _ w.heap.size (0 + i) _ e (0, 0) (heap_alloc_new w _)]
  have e1 : (List.replicate n (0 : UInt8)).getD i 0 = 0 := by
    rw [List.getD_eq_getElem?_getD, List.getElem?_replicate, if_pos hi]; rfl
  rw [e1]
  simp [madeCells, hi, Nat.mod_one]

set_option maxRecDepth 100000 in
set_option maxHeartbeats 2000000 in
theorem logLongs_walk (i : Int) (w0 : (Lit.int .i64 i).wf = true) (w : World) :
    Calls Try.prog 6 #[.int .i64 i] w fun e w' => e = .returned (.bool true) ∧ Below w.heap.size w w' := by
  obtain ⟨i0, i1⟩ := wf_i64_bd w0
  clear w0
  by_cases hlo : i < 0
  · go_enter Try.func6, Try.ntmps6
    go_wp2_with fail
    refine (awake_any _).mono ?_
    rintro e v1 ⟨rfl, hb1⟩
    go_wp2_with fail
    go_ret
    exact ⟨rfl, hb1⟩
  by_cases hhi : 5000 < i
  · go_enter Try.func6, Try.ntmps6
    go_wp2_with fail
    refine (awake_any _).mono ?_
    rintro e v1 ⟨rfl, hb1⟩
    go_wp2_with fail
    go_ret
    exact ⟨rfl, hb1⟩
  obtain ⟨n, rfl⟩ := Int.eq_ofNat_of_zero_le (show 0 ≤ i by omega)
  have hn0 : (0 : Int) ≤ (n : Int) := by omega
  clear i0 i1
  obtain ⟨j0, hi, hz0, hz1, hz2⟩ := info_parts info_u8
  have hmk : ∀ w : World, (Instr.makeSlice 22 (.int .i64 (n : Int)) (.int .i64 (n : Int))).run Try.prog w = .ok (.slice (some ⟨w.heap.size, 0, none⟩) n n) (w.alloc (.cells (madeCells #[.int .u8 0] n) 5)) := fun w => by
    have := run_make w 22 5 j0 (.int .u8 0) Try.underlying22 hi hz0 .i64 .i64 (n : Int) (n : Int) (by omega) (by omega) (by rw [hz2]; omega) (by omega)
    rw [hz1, show ((n : Int)).toNat = n by omega, Nat.mul_one] at this
    exact this
  clear hi hz0 hz1 hz2
  by_cases hbig : 4000 < n
  · have hbi : (4000 : Int) < (n : Int) := by omega
    have hln : ¬ n ≤ 4000 := by omega
    go_enter Try.func6, Try.ntmps6
    go_wp2_with fail
    refine (awake_any _).mono ?_
    rintro e v1 ⟨rfl, hb1⟩
    have hrz := Rd.zeros v1 n 5 (by omega)
    have HR := Lib.hid hrz
    clear hrz
    go_wp2_with fail
    refine (frame_over _ n n _ _ HR.out hbig).mono ?_
    rintro e w2 ⟨rfl, rfl⟩
    go_wp2_with fail
    go_ret
    exact ⟨rfl, hb1.alloc hb1.size _⟩
  · have hbi : ¬ (4000 : Int) < (n : Int) := by omega
    obtain ⟨m, hm⟩ : ∃ m, m = (frameL (List.replicate n 0)).length := ⟨_, rfl⟩
    have hrl : (List.replicate n (0 : UInt8)).length = n := by simp
    have HM := Lib.hid hm
    by_cases h127 : 127 < n
    · have h1 : (127 : Int) < (n : Int) := by omega
      have hmm : (m : Int) = (n : Int) + 6 := by rw [hm, frameL_length, hrl, numL_two h127 (by omega)]; omega
      clear hm
      go_enter Try.func6, Try.ntmps6
      go_wp2_with fail
      refine (awake_any _).mono ?_
      rintro e v1 ⟨rfl, hb1⟩
      have hrz := Rd.zeros v1 n 5 (by omega)
      have HR := Lib.hid hrz
      clear hrz
      go_wp2_with fail
      refine (frame_any _ n n _ _ HR.out (by intro h; cases h) (by omega)).mono ?_
      rintro e w2 ⟨v2, rfl, hown2, hb2⟩
      rw [← HM.out] at hown2
      obtain ⟨a2, c2, rfl, _⟩ := Rd.of_own hown2
      clear hown2
      go_wp2_with fail
      go_ret
      exact ⟨rfl, (hb1.alloc hb1.size _).step hb2⟩
    · have h1 : ¬ (127 : Int) < (n : Int) := by omega
      have hmm : (m : Int) = (n : Int) + 5 := by rw [hm, frameL_length, hrl, numL_one (by omega)]; omega
      clear hm
      go_enter Try.func6, Try.ntmps6
      go_wp2_with fail
      refine (awake_any _).mono ?_
      rintro e v1 ⟨rfl, hb1⟩
      have hrz := Rd.zeros v1 n 5 (by omega)
      have HR := Lib.hid hrz
      clear hrz
      go_wp2_with fail
      refine (frame_any _ n n _ _ HR.out (by intro h; cases h) (by omega)).mono ?_
      rintro e w2 ⟨v2, rfl, hown2, hb2⟩
      rw [← HM.out] at hown2
      obtain ⟨a2, c2, rfl, _⟩ := Rd.of_own hown2
      clear hown2
      go_wp2_with fail
      go_ret
      exact ⟨rfl, (hb1.alloc hb1.size _).step hb2⟩
end Go.Proofs.Ytipaldfellfkdaa
