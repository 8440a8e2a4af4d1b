/- What a log that is cut reads as, on lists of bytes; no program in sight. -/
import Derived.Test.YtipaldfellfkdaaLogPlain
namespace Go.Proofs.Ytipaldfellfkdaa
open Go
set_option linter.unusedVariables false

/-- The frames of some texts, one behind the other. -/
def framesL (ls : List (List UInt8)) : List UInt8 := (ls.map frameL).flatten
/-- How many of the first i frames end at 'at' or before. -/
def wantN (ls : List (List UInt8)) (m : Int) : Nat → Nat
  | 0 => 0
  | i + 1 => if ((framesL (ls.take (i + 1))).length : Int) ≤ m then i + 1 else wantN ls m i
theorem framesL_snoc (ls : List (List UInt8)) (i : Nat) (hi : i < ls.length) : framesL (ls.take (i + 1)) = framesL (ls.take i) ++ frameL (ls.getD i []) := by
  have h : ls.take (i + 1) = ls.take i ++ [ls.getD i []] := by
    rw [List.take_add_one, List.getD_eq_getElem?_getD, List.getElem?_eq_getElem hi]; rfl
  unfold framesL
  rw [h, List.map_append, List.flatten_append, List.map_cons, List.map_nil, List.flatten_cons, List.flatten_nil, List.append_nil]
theorem framesL_cons (x : List UInt8) (ls : List (List UInt8)) : framesL (x :: ls) = frameL x ++ framesL ls := by
  simp only [framesL, List.map_cons, List.flatten_cons]
theorem wantN_le (ls : List (List UInt8)) (m : Int) : ∀ i, wantN ls m i ≤ i
  | 0 => Nat.le_refl _
  | i + 1 => by
    unfold wantN; split
    · exact Nat.le_refl _
    · exact Nat.le_succ_of_le (wantN_le ls m i)

/-- What a frame begins with. -/
theorem getL_frame (x r : List UInt8) (hx : x.length ≤ 4000) : getL (frameL x ++ r) = (x.length, (numL x.length).length) := by
  unfold frameL
  rw [List.append_assoc, List.append_assoc]
  exact getL_put _ (show x.length < 18446744073709551616 by omega) _
theorem lenF_frame (x r : List UInt8) (hx : x.length ≤ 4000) : lenF (frameL x ++ r) = (frameL x).length := by
  unfold lenF atF numF
  rw [getL_frame x r hx, frameL_length]
theorem numL_some (n : Nat) : numL n ≠ [] := by
  rw [numL]; split <;> simp
theorem okF_frame (x r : List UInt8) (hx : x.length ≤ 4000) : okF (frameL x ++ r) ∧ recF (frameL x ++ r) = x := by
  have hg := getL_frame x r hx
  have ea : atF (frameL x ++ r) = (numL x.length).length := congrArg Prod.snd hg
  have en : numF (frameL x ++ r) = x.length := congrArg Prod.fst hg
  have er : recF (frameL x ++ r) = x := by
    unfold recF frameL at *
    rw [ea, en, List.append_assoc, List.append_assoc, List.drop_left, List.take_left]
  have et : tailF (frameL x ++ r) = sum4 x := by
    unfold tailF
    rw [ea, en]
    unfold frameL
    rw [List.append_assoc, ← List.length_append, List.drop_left, show (4 : Nat) = (sum4 x).length from rfl, List.take_left]
  refine ⟨⟨?_, by rw [en]; exact hx, ?_, by rw [er, et]⟩, er⟩
  · rw [ea]
    intro h0
    exact numL_some _ (List.eq_nil_of_length_eq_zero h0)
  · rw [lenF_frame x r hx, List.length_append]; omega
/-- A beginning of a frame is no record. -/
theorem okF_short (x r : List UInt8) (hx : x.length ≤ 4000) (m : Nat) (hm : m < (frameL x).length) : ¬ okF ((frameL x ++ r).take m) := by
  intro h
  obtain ⟨h1, h2, h3, h4⟩ := h
  obtain ⟨g1, g2, g3, _⟩ := getL_got (l := (frameL x ++ r).take m) (m := numF ((frameL x ++ r).take m)) (k := atF ((frameL x ++ r).take m)) rfl h1
  -- the bytes that the cut begins with are a number's; so the whole begins with the same
  have e : frameL x ++ r = numL (numF ((frameL x ++ r).take m)) ++ (frameL x ++ r).drop (atF ((frameL x ++ r).take m)) := by
    have hle : atF ((frameL x ++ r).take m) ≤ m := by
      have : lenF ((frameL x ++ r).take m) ≤ m := Nat.le_trans h3 (by rw [List.length_take]; exact Nat.min_le_left _ _)
      unfold lenF at this; omega
    have h5 : ((frameL x ++ r).take m).take (atF ((frameL x ++ r).take m)) = (frameL x ++ r).take (atF ((frameL x ++ r).take m)) := by rw [List.take_take, Nat.min_eq_left hle]
    rw [g1, h5, List.take_append_drop]
  have e2 : getL (frameL x ++ r) = (numF ((frameL x ++ r).take m), atF ((frameL x ++ r).take m)) := by
    exact (congrArg getL e).trans (by rw [getL_put _ g3, ← g2])
  rw [getL_frame x r hx] at e2
  injection e2 with e3 e4
  have h6 : lenF ((frameL x ++ r).take m) = (frameL x).length := by
    unfold lenF; rw [← e3, ← e4, frameL_length]
  rw [h6, List.length_take] at h3
  omega
theorem readL_frame (x r : List UInt8) (hx : x.length ≤ 4000) : readL (frameL x ++ r) = (x :: (readL r).1, (frameL x).length + (readL r).2) := by
  obtain ⟨h1, h2⟩ := okF_frame x r hx
  rw [readL_ok h1, h2, lenF_frame x r hx, List.drop_left]
theorem framesL_take (ls : List (List UInt8)) (k : Nat) (hk : k ≤ ls.length) : (framesL (ls.take k)).length ≤ (framesL ls).length := by
  have : framesL ls = framesL (ls.take k) ++ framesL (ls.drop k) := by
    conv => lhs; rw [← List.take_append_drop k ls]
    unfold framesL; rw [List.map_append, List.flatten_append]
  rw [this, List.length_append]; omega
/-- THE LAW: whatever a log is cut to, its records are those that were whole. -/
theorem readL_cuts : ∀ (ls : List (List UInt8)) (m k : Nat), (∀ x ∈ ls, x.length ≤ 4000) → k ≤ ls.length → (framesL (ls.take k)).length ≤ m →
    (∀ j, k < j → j ≤ ls.length → m < (framesL (ls.take j)).length) → readL ((framesL ls).take m) = (ls.take k, (framesL (ls.take k)).length) := by
  intro ls
  induction ls with
  | nil =>
    intro m k _ hk _ _
    obtain rfl : k = 0 := by simpa using hk
    simp only [framesL, List.map_nil, List.flatten_nil, List.take_nil, List.length_nil]
    exact readL_no okF_nil
  | cons x ls ih =>
    intro m k hx hk h1 h2
    have hx0 := hx x (List.mem_cons_self ..)
    rw [framesL_cons]
    cases k with
    | zero =>
      have := h2 1 (by omega) (by simp)
      simp only [List.take_succ_cons, List.take_zero] at this
      rw [framesL_cons] at this
      simp only [framesL, List.map_nil, List.flatten_nil, List.append_nil] at this
      rw [readL_no (okF_short x _ hx0 m this)]
      rfl
    | succ k =>
      rw [List.take_succ_cons, framesL_cons] at h1
      rw [List.length_append] at h1
      have e : (frameL x ++ framesL ls).take m = frameL x ++ (framesL ls).take (m - (frameL x).length) := by
        rw [List.take_append, List.take_of_length_le (by omega)]
      rw [e, readL_frame x _ hx0, List.take_succ_cons, framesL_cons, List.length_append]
      rw [ih (m - (frameL x).length) k (fun y hy => hx y (List.mem_cons_of_mem _ hy)) (by simpa using hk) (by omega) ?_]
      intro j hj hjl
      have := h2 (j + 1) (by omega) (by simpa using hjl)
      rw [List.take_succ_cons, framesL_cons, List.length_append] at this
      omega
/-- What the loop counts is that number. -/
theorem wantN_spec (ls : List (List UInt8)) (m : Int) (hm : 0 ≤ m) : ∀ i, i ≤ ls.length → ((framesL (ls.take (wantN ls m i))).length : Int) ≤ m ∧ ∀ j, wantN ls m i < j → j ≤ i → m < ((framesL (ls.take j)).length : Int) := by
  intro i
  induction i with
  | zero => intro _; exact ⟨by simpa [wantN, framesL] using hm, fun j h1 h2 => by omega⟩
  | succ i ih =>
    intro hi
    unfold wantN
    split
    · rename_i h
      exact ⟨h, fun j h1 h2 => by omega⟩
    · rename_i h
      obtain ⟨h1, h2⟩ := ih (by omega)
      refine ⟨h1, fun j h3 h4 => ?_⟩
      by_cases e : j = i + 1
      · subst e; omega
      · exact h2 j h3 (by omega)
end Go.Proofs.Ytipaldfellfkdaa
