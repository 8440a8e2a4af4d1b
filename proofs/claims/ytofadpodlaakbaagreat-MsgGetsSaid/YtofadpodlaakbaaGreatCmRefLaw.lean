/- The plain law of the reference's Get, of the layer commit: with its numbers read unbounded, and its ids till the bytes end, it comes to the same. -/
import Derived.Test.YtofadpodlaakbaaGreatJ1
namespace Go.Proofs.YtofadpodlaakbaaGreat
set_option linter.unusedVariables false
theorem takeM_none {most : Nat} {b : List UInt8} (h : takeN b = none) : takeM most b = none := by
 unfold takeN at h
 unfold takeM
 by_cases h0 : (getL b).2 = 0
 ·rw [if_pos (.inl h0)]
 ·rw [if_neg h0] at h; cases h
theorem takeM_of {most n : Nat} {b r : List UInt8} (h : takeN b = some (n, r)) : takeM most b = if n ≤ most then some (n, r) else none := by
 unfold takeN at h
 unfold takeM
 by_cases h0 : (getL b).2 = 0
 ·rw [if_pos h0] at h; cases h
 rw [if_neg h0] at h
 injection h with h
 injection h with e1 e2
 subst e1 e2
 by_cases hm : (getL b).1 ≤ most
 ·rw [if_neg (by omega), if_pos hm]
 ·rw [if_pos (by omega), if_neg hm]
theorem takeN_def (b : List UInt8) (h : ¬ (getL b).2 = 0) : takeN b = some ((getL b).1, b.drop (getL b).2) := by
 unfold takeN
 rw [if_neg h]
theorem takeN_no (b : List UInt8) (h : (getL b).2 = 0) : takeN b = none := by
 unfold takeN
 rw [if_pos h]
theorem getC_no {b l1 l2 l3 l4 : List UInt8} (e1 : l1 = b.drop (getL b).2) (e2 : l2 = l1.drop (getL l1).2) (e3 : l3 = l2.drop (getL l2).2) (e4 : l4 = l3.drop (getL l3).2)
  (h : (getL b).2 = 0 ∨ (getL l1).2 = 0 ∨ (getL l2).2 = 0 ∨ (getL l3).2 = 0 ∨ ¬ 32 * (getL l3).1 ≤ l4.length) : getC b = none := by
 unfold getC
 by_cases h1 : (getL b).2 = 0
 ·rw [takeN_no b h1]
 rw [takeN_def b h1, ← e1]
 simp only
 by_cases h2 : (getL l1).2 = 0
 ·rw [takeM_none (takeN_no l1 h2)]
 rw [takeM_of (takeN_def l1 h2), ← e2]
 by_cases m2 : (getL l1).1 ≤ 1048576
 case neg => rw [if_neg m2]
 rw [if_pos m2]
 simp only
 by_cases h3 : (getL l2).2 = 0
 ·rw [takeM_none (takeN_no l2 h3)]
 rw [takeM_of (takeN_def l2 h3), ← e3]
 by_cases m3 : (getL l2).1 ≤ 1048576
 case neg => rw [if_neg m3]
 rw [if_pos m3]
 simp only
 by_cases h4 : (getL l3).2 = 0
 ·rw [takeM_none (takeN_no l3 h4)]
 rw [takeM_of (takeN_def l3 h4), ← e4]
 by_cases m4 : (getL l3).1 ≤ 8
 case neg => rw [if_neg m4]
 rw [if_pos m4]
 simp only
 rw [if_neg (by omega)]
def Fit (s : Nat) (S : Int) : Prop := (s ≤ 1048576 → S = (s : Int)) ∧ (0 ≤ S ∧ S ≤ 1048576 → s ≤ 1048576)
theorem fit_wrap (s : Nat) (h : s < 18446744073709551616) : Fit s (IntKind.i64.wrap (s : Int)) := by
 rw [wrap_i64']
 unfold Fit
 split <;> omega
theorem getC_wide {b l1 l2 l3 l4 : List UInt8} {k : Nat} {S G : Int} (e1 : l1 = b.drop (getL b).2) (e2 : l2 = l1.drop (getL l1).2) (e3 : l3 = l2.drop (getL l2).2) (e4 : l4 = l3.drop (getL l3).2)
  (h1 : ¬ (getL b).2 = 0) (h2 : ¬ (getL l1).2 = 0) (h3 : ¬ (getL l2).2 = 0) (h4 : ¬ (getL l3).2 = 0) (hk : k = (getL l3).1) (hl : 32 * k ≤ l4.length) (hS : Fit (getL l1).1 S) (hG : Fit (getL l2).1 G) :
  getC b = (if unfold' ((getL b).1 : Int) = -1 then finC ⟨unfold' ((getL b).1 : Int), S, G, idsOf k l4, zeroO⟩ (l4.drop (32 * k))
   else match getO (l4.drop (32 * k)) with
    | none => none
    | some (o, r) => finC ⟨unfold' ((getL b).1 : Int), S, G, idsOf k l4, o⟩ r) := by
 subst hk
 obtain ⟨node, hnode⟩ : ∃ node, node = unfold' ((getL b).1 : Int) := ⟨_, rfl⟩
 have hno : ∀ o r, ¬ ((getL l1).1 ≤ 1048576 ∧ (getL l2).1 ≤ 1048576 ∧ (getL l3).1 ≤ 8) → finC ⟨node, S, G, idsOf (getL l3).1 l4, o⟩ r = none := fun o r h => by
  unfold finC
  rw [if_neg]
  intro hm
  obtain ⟨p1, p2, _, _, _⟩ := mayC_parts hm
  obtain ⟨_, _, p3, p4⟩ := mayC_node hm
  simp only [idsOf_length] at p1 p2 p3 p4
  exact h ⟨hS.2 ⟨p3, p4⟩, hG.2 ⟨by omega, p1.2⟩, p2⟩
 have hR : ¬ ((getL l1).1 ≤ 1048576 ∧ (getL l2).1 ≤ 1048576 ∧ (getL l3).1 ≤ 8) → (if node = -1 then finC ⟨node, S, G, idsOf (getL l3).1 l4, zeroO⟩ (l4.drop (32 * (getL l3).1))
   else match getO (l4.drop (32 * (getL l3).1)) with
    | none => none
    | some (o, r) => finC ⟨node, S, G, idsOf (getL l3).1 l4, o⟩ r) = none := fun h => by
  split
  ·exact hno _ _ h
  ·split
   ·rfl
   ·exact hno _ _ h
 rw [← hnode]
 unfold getC
 rw [takeN_def b h1, ← e1]
 simp only
 rw [takeM_of (takeN_def l1 h2), ← e2]
 by_cases m2 : (getL l1).1 ≤ 1048576
 case neg => rw [if_neg m2, hR (by omega)]
 rw [if_pos m2]
 simp only
 rw [takeM_of (takeN_def l2 h3), ← e3]
 by_cases m3 : (getL l2).1 ≤ 1048576
 case neg => rw [if_neg m3, hR (by omega)]
 rw [if_pos m3]
 simp only
 rw [takeM_of (takeN_def l3 h4), ← e4]
 by_cases m4 : (getL l3).1 ≤ 8
 case neg => rw [if_neg m4, hR (by omega)]
 rw [if_pos m4]
 simp only
 rw [if_pos hl, ← hnode, ← hS.1 m2, ← hG.1 m3]
 by_cases hm : node = -1
 ·rw [if_pos hm, if_pos hm, hm]
 ·rw [if_neg hm, if_neg hm]
  rfl
end Go.Proofs.YtofadpodlaakbaaGreat
