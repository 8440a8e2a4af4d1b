/- The walk of Twice, of the layer net. -/
import Derived.Test.YtmeieokembjabaaNetSend
namespace Go.Proofs.Ytmeieokembjabaa
open Go.ChangeShapes Go.WideShapes Go.ChangeAt Go.RowKit
set_option linter.unusedVariables false

/-- Packets, and whether something is so, are handed back. -/
def PksT (ps : List Pk) (is : Bool) (w : World) (e : Ending) (w' : World) : Prop := ∃ a c, e = .returned (.tuple #[.slice a ps.length c, .bool is]) ∧ Pks w' a ps.length c ps ∧ Below w.heap.size w w'

set_option maxRecDepth 100000 in
set_option maxHeartbeats 2000000 in
theorem twice_any (a : Option Addr) (n c : Nat) (ps : List Pk) (i : Int) (w : World) (hr : Pks w a n c ps) (hn : n ≤ 500) (hL : ∀ i, i < n → (ps.getD i noPk).by_.length ≤ 100000) :
    Calls Try.prog 16 #[.slice a n c, .int .i64 i] w (PksT (twiceP ps i) (hasP ps i) w) := by
  have HR := Lib.hid hr
  have HL := Lib.hid hL
  have HH := Lib.hid (fun w' => has_any a n c i ps w' hr.len (by omega))
  clear hr hL
  cases hh : hasP ps i with
  | false =>
    have HE := Lib.hid (show twiceP ps i = ps by unfold twiceP; rw [hh, if_neg (by decide)])
    rw [hh] at HH
    clear hh
    go_enter Try.func16, Try.ntmps16
    go_wp2_with fail
    refine (HH.out _).mono ?_
    rintro e w' ⟨rfl, rfl⟩
    go_wp2_with fail
    refine (own_any a n c ps _ HR.out (by omega) HL.out).mono ?_
    rintro e w3 ⟨v, vs, rfl, ho, hb⟩
    obtain ⟨a3, c3, rfl, hk⟩ := ho.pks
    have HK := Lib.hid (And.intro hk hb)
    clear ho hb hk
    go_wp2_with fail
    go_ret2
    show PksT (twiceP ps i) false _ _ _
    rw [HE.out]
    exact ⟨a3, c3, rfl, HK.out⟩
  | true =>
    have hi : 0 ≤ i ∧ i < (n : Int) := by
      simp only [hasP, Bool.and_eq_true, decide_eq_true_eq] at hh
      have := HR.out.len
      omega
    have HE := Lib.hid (show twiceP ps i = sendP ps (ps.getD i.toNat noPk) by unfold twiceP; rw [hh, if_pos rfl])
    rw [hh] at HH
    obtain ⟨j, rfl⟩ : ∃ j : Nat, i = (j : Int) := ⟨i.toNat, by omega⟩
    have hj : j < n := by omega
    obtain ⟨b, off, e1, f1⟩ := HR.out.cells.resolve_left (by omega)
    obtain ⟨x, cx, g0, g1, g2, g3, g4⟩ := f1 j hj
    obtain ⟨p, hp⟩ : ∃ p, p = ps.getD j noPk := ⟨_, rfl⟩
    rw [← hp] at g0 g1 g2 g3
    have HE2 := Lib.hid (show twiceP ps (j : Int) = sendP ps p by rw [HE.out, hp]; rfl)
    have HS := Lib.hid (send_any a n c ps p x cx w HR.out hn HL.out g3 g4)
    obtain ⟨L, hLL⟩ : ∃ L, L = p.by_.length := ⟨_, rfl⟩
    rw [← hLL] at g2 HS
    subst e1
    clear hh f1 hp hLL g3 g4 hi
    go_enter Try.func16, Try.ntmps16
    go_wp2_with fail
    refine (HH.out _).mono ?_
    rintro e w' ⟨rfl, rfl⟩
    go_wp2_with fail
    refine HS.out.mono ?_
    rintro e w3 ⟨a3, c3, rfl, hk, hb⟩
    have HK := Lib.hid (And.intro hk hb)
    obtain ⟨m, hm⟩ : ∃ m, m = (sendP ps p).length := ⟨_, rfl⟩
    rw [← hm]
    have HM := Lib.hid hm
    clear hk hb hm
    go_wp2_with fail
    go_ret2
    show PksT (twiceP ps (j : Int)) true _ _ _
    rw [HE2.out]
    exact ⟨a3, c3, by rw [← HM.out]; rfl, HK.out⟩
end Go.Proofs.Ytmeieokembjabaa
