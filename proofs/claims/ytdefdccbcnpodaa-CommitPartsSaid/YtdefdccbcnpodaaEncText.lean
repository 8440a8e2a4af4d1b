/- The walks of Text, Cut and bytes.Clone, of the layer enc and of its reference. -/
import Derived.Test.YtdefdccbcnpodaaEncRefGet
import Derived.Lib.AppendStr
namespace Go.Proofs.Ytdefdccbcnpodaa
open Go.ChangeShapes Go.WideShapes Go.ChangeAt Go.RowKit
set_option linter.unusedVariables false

/-- A text in bytes. -/
def txtL (l : List UInt8) : List UInt8 := numL l.length ++ l

theorem strCells_B (s : ByteArray) : Lib.strCells s = s.data.toList.map B := rfl

set_option maxHeartbeats 400000 in
theorem text_any (s : ByteArray) (w : World) (hs : s.size ≤ 140737488351232) : Calls Try.prog 55 #[.string s] w (OwnB (txtL s.data.toList) w) := by
  obtain ⟨i0, hi, hz0, hz1, hz2⟩ := info_parts info_u8
  have hl10 := numL_le10 s.size (by omega)
  have hsz : s.data.toList.length = s.size := by rw [Array.length_toList]; rfl
  have HS := Lib.hid hsz; clear hsz
  go_enter Try.func55, Try.ntmps55
  go_wp2_with fail
  refine (num_any s.size (by omega) _).mono ?_
  rintro e w1 ⟨v, rfl, hown, hb⟩
  go_wp2_with (at_builtin; refine Lib.wpList_append_own_string _ rfl _ _ 31 9 rfl w.heap.size 5 i0 Try.underlying31 Try.underlying9 hi hz0 hz1 hz2 _ _ _ rfl hown s rfl (by unfold maxLen; omega) (by omega) hb.size ?_; intro v' w2 hown' hgrow _)
  go_ret
  refine ⟨v', rfl, ?_, below_own hb hown hgrow hb.size⟩
  rw [strCells_B, ← List.map_append] at hown'
  have e : (txtL s.data.toList) = numL s.size ++ s.data.toList := by unfold txtL; rw [HS.out]
  rw [e, List.length_append, HS.out]; exact hown'

set_option maxHeartbeats 400000 in
theorem text_ref (s : ByteArray) (w : World) (hs : s.size ≤ 140737488351232) : Calls Try.prog 57 #[.string s] w (OwnB (txtL s.data.toList) w) := by
  obtain ⟨i0, hi, hz0, hz1, hz2⟩ := info_parts info_u8
  have hl10 := numL_le10 s.size (by omega)
  have hsz : s.data.toList.length = s.size := by rw [Array.length_toList]; rfl
  have HS := Lib.hid hsz; clear hsz
  go_enter Try.func57, Try.ntmps57
  go_wp2_with fail
  refine (num_ref s.size (by omega) _).mono ?_
  rintro e w1 ⟨v, rfl, hown, hb⟩
  go_wp2_with (at_builtin; refine Lib.wpList_append_own_string _ rfl _ _ 31 9 rfl w.heap.size 5 i0 Try.underlying31 Try.underlying9 hi hz0 hz1 hz2 _ _ _ rfl hown s rfl (by unfold maxLen; omega) (by omega) hb.size ?_; intro v' w2 hown' hgrow _)
  go_ret
  refine ⟨v', rfl, ?_, below_own hb hown hgrow hb.size⟩
  rw [strCells_B, ← List.map_append] at hown'
  have e : (txtL s.data.toList) = numL s.size ++ s.data.toList := by unfold txtL; rw [HS.out]
  rw [e, List.length_append, HS.out]; exact hown'

set_option maxHeartbeats 400000 in
theorem clone_any (a : Option Addr) (n c : Nat) (l : List UInt8) (w : World) (hr : Rd w a n c l) (hac : a = none → c = 0) (hn : n ≤ 140737488351232) : Calls Try.prog 43 #[.slice a n c] w (OwnB l w) := by
  obtain ⟨i0, hi, hz0, hz1, hz2⟩ := info_parts info_u8
  have hl := hr.len
  have q22 : ∀ (w : World) (a : Option Addr) (n c n' c' : Nat), (binOp .eql 31 (.slice a n c) (.slice none n' c')).run Try.prog w = .ok (.bool a.isNone) w := fun w a n c n' c' => Lib.run_eql_slice_nil w _ _ a n c n' c' Try.underlying31
  cases a with
  | none =>
    have hm : n = 0 := by
      rcases hr.cells with h0 | ⟨b, off, e, _⟩
      · exact h0
      · cases e
    subst hm
    have : l = [] := List.eq_nil_of_length_eq_zero hl
    subst this
    clear hr hac hl
    go_enter Try.func43, Try.ntmps43
    go_wp2
    go_ret
    exact ⟨_, rfl, World.ownsRow_nil _ _ _ _, Below.refl _ _⟩
  | some ad =>
    obtain ⟨v', w', hrun, hown, hg⟩ := run_app (P := Try.prog) (ty := 31) Try.underlying31 hi hz0 hz1 hz2 rfl (World.ownsRow_made w #[] 0 (Nat.le_refl _) (Nat.zero_le _) rfl) (hr.below ((Below.refl _ _).alloc (Nat.le_refl _) (.cells #[] 5))) (fun h => by cases h) (by omega) (by simp)
    have HO := Lib.hid hown; have HG := Lib.hid hg; have HL := Lib.hid hl
    have HRUN := Lib.hid hrun
    clear hown hg hrun hl hr hac
    go_enter Try.func43, Try.ntmps43
    go_wp2_with (at_builtin; refine Lib.wpList_append_run _ rfl _ _ _ _ rfl _ _ rfl rfl _ _ HRUN.out ?_)
    go_ret
    refine ⟨v', rfl, ?_, ?_⟩
    · have := HO.out
      rw [HL.out]; simpa using this
    · exact below_own ((Below.refl _ w).alloc (Nat.le_refl _) (.cells #[] 5)) (World.ownsRow_made w #[] 0 (Nat.le_refl _) (Nat.zero_le _) rfl) HG.out (by simp)
end Go.Proofs.Ytdefdccbcnpodaa
