/- The statements of layer 3, walked out of the contracts of what they call. -/
import Derived.Test.YtdckonfcdflmdaaEncCutRef
namespace Go.Proofs.Ytdckonfcdflmdaa
open Go.ChangeShapes Go.WideShapes Go.ChangeAt Go.RowKit
set_option linter.unusedVariables false

theorem numL_300 : numL 300 = [172, 2] := by rw [numL_big (by decide), numL_small (by decide)]; rfl
theorem txtL_a : txtL (ByteArray.mk #[97]).data.toList = [1, 97] := by unfold txtL; rw [numL_small (by decide)]; rfl
/-- 'string(b)' of bytes of the call's own. -/
theorem str_own {w : World} {base n : Nat} {v : Value} {l : List UInt8} (h : w.ownsRow base 5 1 v n (l.map B)) : (convert 24 9 v).run Try.prog w = .ok (.string ⟨l.toArray⟩) w := by
  obtain ⟨a, c, rfl, hr⟩ := Rd.of_own h
  exact hr.str (P := Try.prog) 24 5 9 Try.underlying24 Try.underlying5 Try.underlying9

set_option maxHeartbeats 1000000 in
theorem awake_any (w : World) : Calls Try.prog 10 #[] w fun e w' => e = .returned (.bool true) ∧ Below w.heap.size w w' := by
  have htl := toList_bytes
  go_enter Try.func10, Try.ntmps10
  go_wp2_with fail
  refine (get_any _ 3 3 [172, 2, 9] _ (by simpa using Rd.made w [172, 2, 9] 5 (by simp)) (by decide)).mono ?_
  rintro e w1 ⟨rfl, rfl⟩
  rw [show getL [172, 2, 9] = (300, 2) from by decide]
  go_wp2_with fail
  refine (cut_any _ 3 3 [1, 97, 98] 5 _ (by simpa using Rd.made (w.alloc (.cells #[.int .u8 172, .int .u8 2, .int .u8 9] 5)) [1, 97, 98] 5 (by simp)) (by decide) (by decide) (by decide)).mono ?_
  rintro e w2 ⟨v, rfl, hown, hb2⟩
  rw [show cutT [1, 97, 98] 5 = [97] from by decide, show cutIs [1, 97, 98] 5 = true from by decide]
  rw [show cutR [1, 97, 98] 5 = [98] from by decide] at hown
  go_wp2_with fail
  refine (num_any 300 (by decide) _).mono ?_
  rintro e w3 ⟨v3, rfl, hown3, hb3⟩
  rw [numL_300] at hown3
  have hs3 := str_own hown3
  go_wp2_with fail
  refine (fold_any (-1) _ (by decide) (by decide)).mono ?_
  rintro e w4 ⟨rfl, rfl⟩
  rw [show fold (-1) = 1 from by decide]
  go_wp2_with fail
  refine (unfold_any 1 _ (by decide) (by decide)).mono ?_
  rintro e w4 ⟨rfl, rfl⟩
  rw [show unfold' 1 = -1 from by decide]
  go_wp2_with fail
  refine (text_any ⟨#[97]⟩ _ (by decide)).mono ?_
  rintro e w5 ⟨v5, rfl, hown5, hb5⟩
  rw [txtL_a] at hown5
  have hs5 := str_own hown5
  have hs6 := str_own (ownsRow_below (ownsRow_below hown hb3) hb5)
  go_wp2
  go_ret
  exact ⟨rfl, Below.step (Below.step (Below.step (((Below.refl _ _).alloc (Nat.le_refl _) _).alloc (by simp) _) hb2) hb3) hb5⟩
end Go.Proofs.Ytdckonfcdflmdaa
