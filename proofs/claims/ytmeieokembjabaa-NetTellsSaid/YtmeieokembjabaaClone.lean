/- The walk of bytes.Clone, for a seat that has not the layer enc. -/
import Derived.Test.YtmeieokembjabaaSl
import Derived.Lib.AppendStr
import Derived.Lib.SliceRun
namespace Go.Proofs.Ytmeieokembjabaa
open Go.ChangeShapes Go.WideShapes Go.ChangeAt Go.RowKit
set_option linter.unusedVariables false

set_option maxHeartbeats 400000 in
theorem clone_any (a : Option Addr) (n c : Nat) (l : List UInt8) (w : World) (hr : Rd w a n c l) (hac : a = none → c = 0) (hn : n ≤ 140737488351232) : Calls Try.prog 26 #[.slice a n c] w (OwnB l w) := by
  obtain ⟨i0, hi, hz0, hz1, hz2⟩ := info_parts info_u8
  have hl := hr.len
  have q22 : ∀ (w : World) (a : Option Addr) (n c n' c' : Nat), (binOp .eql 23 (.slice a n c) (.slice none n' c')).run Try.prog w = .ok (.bool a.isNone) w := fun w a n c n' c' => Lib.run_eql_slice_nil w _ _ a n c n' c' Try.underlying23
  cases a with
  | none =>
    have hm : n = 0 := by
      rcases hr.cells with h0 | ⟨b, off, e, _⟩
      · exact h0
      · cases e
    subst hm
    have : l = [] := List.eq_nil_of_length_eq_zero hl
    subst this
    clear hr hac hl
    go_enter Try.func26, Try.ntmps26
    go_wp2
    go_ret
    exact ⟨_, rfl, World.ownsRow_nil _ _ _ _, Below.refl _ _⟩
  | some ad =>
    obtain ⟨v', w', hrun, hown, hg⟩ := run_app (P := Try.prog) (ty := 23) Try.underlying23 hi hz0 hz1 hz2 rfl (World.ownsRow_made w #[] 0 (Nat.le_refl _) (Nat.zero_le _) rfl) (hr.below ((Below.refl _ _).alloc (Nat.le_refl _) (.cells #[] 5))) (fun h => by cases h) (by omega) (by simp)
    have HO := Lib.hid hown; have HG := Lib.hid hg; have HL := Lib.hid hl
    have HRUN := Lib.hid hrun
    clear hown hg hrun hl hr hac
    go_enter Try.func26, Try.ntmps26
    go_wp2_with (at_builtin; refine Lib.wpList_append_run _ rfl _ _ _ _ rfl _ _ rfl rfl _ _ HRUN.out ?_)
    go_ret
    refine ⟨v', rfl, ?_, ?_⟩
    · have := HO.out
      rw [HL.out]; simpa using this
    · exact below_own ((Below.refl _ w).alloc (Nat.le_refl _) (.cells #[] 5)) (World.ownsRow_made w #[] 0 (Nat.le_refl _) (Nat.zero_le _) rfl) HG.out (by simp)
end Go.Proofs.Ytmeieokembjabaa
