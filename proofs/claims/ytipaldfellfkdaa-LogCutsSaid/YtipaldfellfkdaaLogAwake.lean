/- The chapter's example of the layer log. -/
import Derived.Test.YtipaldfellfkdaaLogMend
namespace Go.Proofs.Ytipaldfellfkdaa
open Go.ChangeShapes Go.WideShapes Go.ChangeAt Go.RowKit
set_option linter.unusedVariables false

theorem sum4_nil : sum4 [] = [227, 176, 196, 66] := by decide +kernel
theorem frame_nil : frameL [] = [0, 227, 176, 196, 66] := by
  unfold frameL; rw [sum4_nil, show ([] : List UInt8).length = 0 from rfl, numL_small (by decide)]; rfl
theorem getL_zero (r : List UInt8) : getL (0 :: r) = (0, 1) := by
  have := getL_put 0 (by decide) r
  rw [numL_small (by decide)] at this
  exact this
theorem getL_one (r : List UInt8) : getL (1 :: r) = (1, 1) := by
  have := getL_put 1 (by decide) r
  rw [numL_small (by decide)] at this
  exact this
theorem ok_nil (r : List UInt8) : okF ([0, 227, 176, 196, 66] ++ r) := by
  have hg : getL ([0, 227, 176, 196, 66] ++ r) = (0, 1) := getL_zero _
  have e1 : numF ([0, 227, 176, 196, 66] ++ r) = 0 := congrArg Prod.fst hg
  have e2 : atF ([0, 227, 176, 196, 66] ++ r) = 1 := congrArg Prod.snd hg
  refine ⟨by rw [e2]; decide, by rw [e1]; decide, by unfold lenF; rw [e1, e2]; simp, ?_⟩
  have e3 : recF ([0, 227, 176, 196, 66] ++ r) = [] := by unfold recF; rw [e1, e2]; rfl
  have e4 : tailF ([0, 227, 176, 196, 66] ++ r) = [227, 176, 196, 66] := by unfold tailF; rw [e1, e2]; rfl
  rw [e3, e4, sum4_nil]
theorem len_nil (r : List UInt8) : lenF ([0, 227, 176, 196, 66] ++ r) = 5 ∧ recF ([0, 227, 176, 196, 66] ++ r) = [] := by
  have hg : getL ([0, 227, 176, 196, 66] ++ r) = (0, 1) := getL_zero _
  have e1 : numF ([0, 227, 176, 196, 66] ++ r) = 0 := congrArg Prod.fst hg
  have e2 : atF ([0, 227, 176, 196, 66] ++ r) = 1 := congrArg Prod.snd hg
  exact ⟨by unfold lenF; rw [e1, e2], by unfold recF; rw [e1, e2]; rfl⟩
theorem read_nil : readL [0, 227, 176, 196, 66] = ([[]], 5) := by
  have h := readL_ok (ok_nil [])
  rw [(len_nil []).1, (len_nil []).2] at h
  rw [List.append_nil] at h
  rw [h, show List.drop 5 ([0, 227, 176, 196, 66] : List UInt8) = [] from rfl, readL_no okF_nil]
  rfl
theorem no_two : ¬ okF [1, 97] := by
  intro h
  have hg : getL [1, 97] = (1, 1) := getL_one _
  have e1 : numF [1, 97] = 1 := congrArg Prod.fst hg
  have e2 : atF [1, 97] = 1 := congrArg Prod.snd hg
  have := h.2.2.1
  unfold lenF at this
  rw [e1, e2] at this
  simp at this
theorem read_seven : (readL [0, 227, 176, 196, 66, 1, 97]).2 = 5 := by
  have h := readL_ok (ok_nil [1, 97])
  rw [(len_nil [1, 97]).1] at h
  have h2 : readL [0, 227, 176, 196, 66, 1, 97] = _ := h
  rw [h2]
  show 5 + (readL (List.drop 5 ([0, 227, 176, 196, 66] ++ [1, 97]))).2 = 5
  rw [show List.drop 5 (([0, 227, 176, 196, 66] : List UInt8) ++ [1, 97]) = [1, 97] from rfl, readL_no no_two]
  rfl
theorem frame_a : ∃ r, frameL [97] = 1 :: 97 :: r ∧ (frameL [97]).length = 6 := by
  refine ⟨sum4 [97], ?_, ?_⟩
  · unfold frameL; rw [show ([97] : List UInt8).length = 1 from rfl, numL_small (by decide)]; rfl
  · rw [frameL_length, show ([97] : List UInt8).length = 1 from rfl, numL_small (by decide)]; rfl

/-- What the walk is told: no sum stands in it. -/
theorem awake_facts : ∃ D : List UInt8, (D.length = 11 ∧ D.take 7 = [0, 227, 176, 196, 66, 1, 97]) ∧
    (∀ w : World, Calls Try.prog 8 #[.slice none 0 0] w fun e w' => ∃ a c, e = .returned (.tuple #[.slice a 5 c, .int .i64 0]) ∧ (a = none → c = 0) ∧ Rd w' a 5 c [0, 227, 176, 196, 66] ∧ Below w.heap.size w w') ∧
    (∀ (w : World) (a : Option Addr) (c : Nat), (a = none → c = 0) → Rd w a 5 c [0, 227, 176, 196, 66] → Calls Try.prog 10 #[.slice a 5 c] w fun e w' => ∃ a' c', e = .returned (.tuple #[.slice a' 1 c', .int .i64 5]) ∧ Below w.heap.size w w') ∧
    (∀ (w : World) (a : Option Addr) (c : Nat) (a2 : Option Addr) (c2 : Nat), (a = none → c = 0) → Rd w a 5 c [0, 227, 176, 196, 66] → (a2 = none → c2 = 0) → Rd w a2 1 c2 [97] → Calls Try.prog 13 #[.slice a 5 c, .int .i64 20, .slice a2 1 c2] w fun e w' => ∃ a' c', e = .returned (.tuple #[.slice a' 11 c', .int .i64 0]) ∧ (a' = none → c' = 0) ∧ Rd w' a' 11 c' D ∧ Below w.heap.size w w') ∧
    (∀ (w : World) (a : Option Addr) (c : Nat), (a = none → c = 0) → Rd w a 7 c [0, 227, 176, 196, 66, 1, 97] → Calls Try.prog 15 #[.slice a 7 c] w fun e w' => ∃ a' c', e = .returned (.slice a' 5 c') ∧ Below w.heap.size w w') := by
  obtain ⟨r, hr, hl⟩ := frame_a
  refine ⟨[0, 227, 176, 196, 66] ++ frameL [97], ⟨by rw [List.length_append, hl]; rfl, by rw [hr]; rfl⟩, fun w => ?_, fun w a c hac hrd => ?_, fun w a c a2 c2 hac hrd hac2 hrd2 => ?_, fun w a c hac hrd => ?_⟩
  · refine (frame_any none 0 0 [] w (Rd.nil w) (fun _ => rfl) (by decide)).mono ?_
    rintro e w' ⟨v, rfl, hown, hb⟩
    rw [frame_nil] at hown
    obtain ⟨a, c, rfl, hrd⟩ := Rd.of_own hown
    exact ⟨a, c, rfl, own_none hown, hrd, hb⟩
  · refine (read_any a 5 c _ w hrd hac (by decide)).mono ?_
    rintro e w' ⟨v, xs, rfl, hown, _, hb⟩
    rw [read_nil] at hown ⊢
    rcases hown.2 with ⟨_, h0⟩ | ⟨g, cap, cur, rfl, _⟩
    · cases h0
    · exact ⟨_, _, rfl, hb⟩
  · refine (write_ok a 5 c _ 20 a2 1 c2 [97] w hrd hac (by decide) hrd2 hac2 (by decide) (by rw [hl]; decide)).mono ?_
    rintro e w' ⟨v, rfl, hown, hb⟩
    have h11 : (([0, 227, 176, 196, 66] : List UInt8) ++ frameL [97]).length = 11 := by rw [List.length_append, hl]; rfl
    rw [h11] at hown
    obtain ⟨a', c', rfl, hrd'⟩ := Rd.of_own hown
    exact ⟨a', c', rfl, own_none hown, hrd', hb⟩
  · refine (mend_any a 7 c _ w hrd hac (by decide)).mono ?_
    rintro e w' ⟨v, rfl, hown, hb⟩
    rw [read_seven] at hown
    obtain ⟨a', c', rfl, _⟩ := Rd.of_own hown
    exact ⟨a', c', rfl, hb⟩

set_option maxRecDepth 100000 in
set_option maxHeartbeats 2000000 in
theorem awake_any (w : World) : Calls Try.prog 7 #[] w fun e w' => e = .returned (.bool true) ∧ Below w.heap.size w w' := by
  obtain ⟨D, ⟨hD, hD7⟩, h1, h2, h3, h4⟩ := awake_facts
  have H1 := Lib.hid h1
  have H2 := Lib.hid h2
  have H3 := Lib.hid h3
  have H4 := Lib.hid h4
  have HD := Lib.hid (show D.length = 11 ∧ D.take 7 = [0, 227, 176, 196, 66, 1, 97] from ⟨hD, hD7⟩)
  clear hD hD7 h1 h2 h3 h4
  go_enter Try.func7, Try.ntmps7
  go_wp2_with fail
  refine (H1.out w).mono ?_
  rintro e w1 ⟨a1, c1, rfl, hac1, hr1, hb1⟩
  have HR1 := Lib.hid hr1
  clear hr1
  go_wp2_with fail
  refine (H2.out w1 a1 c1 hac1 HR1.out).mono ?_
  rintro e w2 ⟨a3, c3, rfl, hb2⟩
  have hcv := Lib.run_convert_bytes_const (P := Try.prog) w2 22 5 #[.int .u8 97] 1 1 Try.underlying22 Try.underlying5
  have hb3 : Below w2.heap.size w2 (w2.alloc (.cells #[.int .u8 97] 5 (1, 2))) := (Below.refl _ _).alloc (Nat.le_refl _) _
  have HR97 := Lib.hid (show Rd (w2.alloc (.cells #[.int .u8 97] 5 (1, 2))) (some ⟨w2.heap.size, 0, none⟩) 1 1 [97] by simpa using Rd.marked w2 [97] 5 (1, 2) (by simp))
  have HRB := Lib.hid (HR1.out.below (hb2.step hb3))
  have HB := Lib.hid (hb1.step (hb2.step hb3))
  clear hb1 hb2 hb3
  go_wp2_with fail
  clear hcv
  refine (H3.out _ a1 c1 _ _ hac1 HRB.out (by intro h; cases h) HR97.out).mono ?_
  rintro e w4 ⟨a5, c5, rfl, hac5, hr5, hb4⟩
  have hs := str_drew (HRB.out.below hb4) 0
  have hs0 : (convert 22 9 (.slice a1 5 c1)).run Try.prog w4 = .ok (.string ⟨#[0, 227, 176, 196, 66]⟩) w4 := hs
  obtain ⟨a7, e7, e7', hR7, hac7⟩ := hr5.fr hac5 7 (by decide)
  have H7 := Lib.hid (show Rd w4 a7 7 c5 [0, 227, 176, 196, 66, 1, 97] by have := hR7 w4 hr5; rwa [HD.out.2] at this)
  have HB4 := Lib.hid (HB.out.step hb4)
  clear hs hr5 hR7 hb4
  have f7 : ∀ w', (Instr.sliceAt 22 (.slice a5 11 c5) none (some (.int .i64 7)) none).run Try.prog w' = .ok (.slice a7 7 c5) w' := e7
  have f7' : ∀ w', (Instr.slice 22 (.slice a5 11 c5) none (some (.int .i64 7)) none).run Try.prog w' = .ok (.slice a7 7 c5) w' := e7'
  clear e7 e7'
  go_wp2_with fail
  refine (H4.out _ a7 c5 hac7 H7.out).mono ?_
  rintro e w6 ⟨a8, c8, rfl, hb6⟩
  go_wp2_with fail
  go_ret
  exact ⟨rfl, HB4.out.step hb6⟩
end Go.Proofs.Ytipaldfellfkdaa
