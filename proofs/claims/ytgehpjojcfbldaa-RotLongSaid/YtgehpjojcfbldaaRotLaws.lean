/- The statements of layer 1, walked out of the contracts of what they call. -/
import Derived.Test.YtgehpjojcfbldaaRotWalks
namespace Go.Proofs.Ytgehpjojcfbldaa
open Go.ChangeShapes Go.WideShapes Go.ChangeAt Go.RowKit
set_option linter.unusedVariables false

theorem awake_any (w : World) : Calls Try.prog 11 #[] w fun e w' => e = .returned (.bool true) ∧ Below w.heap.size w w' := by
  go_enter Try.func11, Try.ntmps11
  go_wp2_with fail
  refine (word_any _ _ _ _ [1, 2, 3, 4] _ (by simpa using Rd.made w [1, 2, 3, 4] 5 (by decide)) (by decide) (by decide) (by decide)).mono ?_
  rintro e w1 ⟨rfl, hb1⟩
  rw [show wordAt [1, 2, 3, 4] 0 = 16909060 from by decide, show wordIs [1, 2, 3, 4] 0 = true from by decide]
  go_wp2_with fail
  refine (right_any 1 1 _ (by decide) (by decide)).mono ?_
  rintro e w2 ⟨rfl, rfl⟩
  rw [show right 1 1 = 2147483648 from by decide]
  have he4 := fun w => run_equalIn_arr_int (P := Try.prog) w 9998 [1, 2, 3, 4] [1, 2, 3, 4] Try.underlying31 Try.underlying5 (by kernel_rfl) rfl rfl
  have he8 := fun w => run_equalIn_arr_int (P := Try.prog) w 9998 [0, 0, 0, 0, 0, 0, 1, 2] [0, 0, 0, 0, 0, 0, 1, 2] Try.underlying33 Try.underlying5 (by kernel_rfl) rfl rfl
  simp only [Nat.reduceAdd, List.map_cons, List.map_nil, beq_self_eq_true] at he4 he8
  go_wp2_with fail
  refine (four_any 16909060 _ (by decide) (by decide)).mono ?_
  rintro e w3 ⟨rfl, hb3⟩
  go_wp2_with fail
  refine (long_any 258 _ (by decide) (by decide)).mono ?_
  rintro e w4 ⟨rfl, hb4⟩
  go_wp2_with fail
  refine (pick_any _ _ _ _).mono ?_
  rintro e w5 ⟨rfl, rfl⟩
  rw [show pick 1 3 4 = 5 from by decide]
  go_wp2_with fail
  refine (most_any _ _ _ _).mono ?_
  rintro e w6 ⟨rfl, rfl⟩
  rw [show most 1 3 6 = 3 from by decide]
  go_wp2
  go_ret
  exact ⟨rfl, Below.step (Below.step (Below.step ((Below.refl _ _).alloc (Nat.le_refl _) _) hb1) hb3) hb4⟩
end Go.Proofs.Ytgehpjojcfbldaa
