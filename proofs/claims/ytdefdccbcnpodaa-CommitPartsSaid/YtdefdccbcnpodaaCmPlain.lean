/- What the layers ids and commit compute, on lists of bytes; no program in sight. -/
import Derived.Test.YtdefdccbcnpodaaOpsPlain
namespace Go.Proofs.Ytdefdccbcnpodaa
open Go
set_option linter.unusedVariables false

/-! ### Ids -/
/-- Which one of two comes first. -/
def ltL : List UInt8 → List UInt8 → Bool
  | [], [] => false
  | [], _ :: _ => true
  | _ :: _, [] => false
  | x :: a, y :: b => if x = y then ltL a b else decide (x < y)
theorem ltL_irrefl : ∀ a : List UInt8, ltL a a = false
  | [] => rfl
  | x :: a => by unfold ltL; rw [if_pos rfl]; exact ltL_irrefl a
theorem ltL_asymm : ∀ a b : List UInt8, ltL a b = true → ltL b a = false
  | [], [], h => by simp [ltL] at h
  | [], _ :: _, _ => rfl
  | _ :: _, [], h => by simp [ltL] at h
  | x :: a, y :: b, h => by
    unfold ltL at h ⊢
    by_cases e : x = y
    · rw [if_pos e] at h
      rw [if_pos e.symm]
      exact ltL_asymm a b h
    · rw [if_neg e] at h
      rw [if_neg (fun h2 => e h2.symm)]
      have h2 := of_decide_eq_true h
      exact decide_eq_false (fun h3 => by
        rw [UInt8.lt_iff_toNat_lt] at h2 h3
        omega)
/-- Do some rise? -/
def risesN (l : List (List UInt8)) (n : Nat) : Bool := (List.range n).all fun j => ltL (l.getD j []) (l.getD (j + 1) [])
def risesL (l : List (List UInt8)) : Bool := risesN l (l.length - 1)
theorem risesN_succ (l : List (List UInt8)) (n : Nat) : risesN l (n + 1) = (risesN l n && ltL (l.getD n []) (l.getD (n + 1) [])) := by
  unfold risesN
  rw [List.range_succ, List.all_append]
  simp
theorem risesN_le {l : List (List UInt8)} {n m : Nat} (h : risesN l n = true) (hm : m ≤ n) : risesN l m = true := by
  unfold risesN at h ⊢
  rw [List.all_eq_true] at h ⊢
  exact fun j hj => h j (List.mem_range.2 (Nat.lt_of_lt_of_le (List.mem_range.1 hj) hm))
theorem risesN_at {l : List (List UInt8)} {n j : Nat} (h : risesN l n = true) (hj : j < n) : ltL (l.getD j []) (l.getD (j + 1) []) = true := by
  unfold risesN at h
  rw [List.all_eq_true] at h
  exact h j (List.mem_range.2 hj)
theorem rises_not {l : List (List UInt8)} {j : Nat} (hj : j + 1 < l.length) (h : ltL (l.getD j []) (l.getD (j + 1) []) = false) : risesL l = false := by
  cases e : risesL l with
  | false => rfl
  | true =>
    have := risesN_at (j := j) e (by omega)
    rw [h] at this
    cases this

/-! ### Commits -/
def zeroO : Opn := ⟨0, [], [], 0⟩
/-- A commit. -/
structure Cmt where
  node : Int
  seq : Int
  gen : Int
  par : List (List UInt8)
  op : Opn
deriving DecidableEq
def noC : Cmt := ⟨0, 0, 0, [], zeroO⟩
def inI (n low high : Int) : Bool := decide (low ≤ n) && decide (n ≤ high)
/-- May a commit be? -/
def mayC (c : Cmt) : Bool :=
  inI c.gen 1 1048576 && decide (c.par.length ≤ 8) && risesL c.par && (decide (c.gen = 1) == decide (c.par.length = 0)) &&
  (if c.node = -1 then decide (2 ≤ c.par.length) && decide (c.seq = 0) && decide (c.op = zeroO) else inI c.node 0 7 && inI c.seq 1 1048576 && mayB c.op)
def mergeC (c : Cmt) : Bool := decide (c.node = -1) && mayC c
/-- Are the ids as long as ids are? -/
def all32 (l : List (List UInt8)) : Prop := ∀ x ∈ l, x.length = 32
def headL (c : Cmt) : List UInt8 := numL (fold c.node).toNat ++ (numL c.seq.toNat ++ (numL c.gen.toNat ++ numL c.par.length))
def tailL (c : Cmt) : List UInt8 := if c.node = -1 then [] else putO c.op
def putC (c : Cmt) : List UInt8 := headL c ++ (c.par.flatten ++ tailL c)
/-- A number that bytes begin with, and what stands behind. -/
def takeN (b : List UInt8) : Option (Nat × List UInt8) := if (getL b).2 = 0 then none else some ((getL b).1, b.drop (getL b).2)
def takeM (most : Nat) (b : List UInt8) : Option (Nat × List UInt8) := if (getL b).2 = 0 ∨ most < (getL b).1 then none else some ((getL b).1, b.drop (getL b).2)
/-- The ids that bytes begin with. -/
def idsOf (k : Nat) (b : List UInt8) : List (List UInt8) := (List.range k).map fun i => (b.drop (32 * i)).take 32
def finC (c : Cmt) (r : List UInt8) : Option (Cmt × List UInt8) := if mayC c = true then some (c, r) else none
def getC (b : List UInt8) : Option (Cmt × List UInt8) :=
  match takeN b with
  | none => none
  | some (n, r1) =>
    match takeM 1048576 r1 with
    | none => none
    | some (s, r2) =>
      match takeM 1048576 r2 with
      | none => none
      | some (g, r3) =>
        match takeM 8 r3 with
        | none => none
        | some (k, r4) =>
          if 32 * k ≤ r4.length then
            if unfold' (n : Int) = -1 then finC ⟨-1, s, g, idsOf k r4, zeroO⟩ (r4.drop (32 * k))
            else match getO (r4.drop (32 * k)) with
              | none => none
              | some (o, r) => finC ⟨unfold' (n : Int), s, g, idsOf k r4, o⟩ r
          else none

theorem idsOf_length (k : Nat) (b : List UInt8) : (idsOf k b).length = k := by simp [idsOf]
theorem idsOf_at (k : Nat) (b : List UInt8) (i : Nat) (h : i < k) : (idsOf k b).getD i [] = (b.drop (32 * i)).take 32 := by
  unfold idsOf
  rw [List.getD_eq_getElem?_getD, List.getElem?_map, List.getElem?_range h]
  rfl
theorem idsOf_succ (k : Nat) (b : List UInt8) : idsOf (k + 1) b = idsOf k b ++ [(b.drop (32 * k)).take 32] := by
  unfold idsOf
  rw [List.range_succ, List.map_append]
  rfl
theorem idsOf_32 {k : Nat} {b : List UInt8} (h : 32 * k ≤ b.length) : all32 (idsOf k b) := by
  intro x hx
  unfold idsOf at hx
  obtain ⟨i, hi, rfl⟩ := List.mem_map.1 hx
  have := List.mem_range.1 hi
  rw [List.length_take, List.length_drop]
  omega
theorem idsOf_flatten : ∀ (k : Nat) (b : List UInt8), 32 * k ≤ b.length → (idsOf k b).flatten = b.take (32 * k)
  | 0, b, _ => by simp [idsOf]
  | k + 1, b, h => by
    rw [idsOf_succ, List.flatten_append, idsOf_flatten k b (by omega)]
    have e : [((b.drop (32 * k)).take 32)].flatten = (b.drop (32 * k)).take 32 := by simp
    rw [e, show 32 * (k + 1) = 32 * k + 32 by omega, List.take_add]
theorem flat_len : ∀ (l : List (List UInt8)), all32 l → l.flatten.length = 32 * l.length
  | [], _ => rfl
  | x :: l, h => by
    rw [List.flatten_cons, List.length_append, h x (by simp), flat_len l (fun y hy => h y (by simp [hy])), List.length_cons]
    omega
theorem flat_at : ∀ (l : List (List UInt8)) (r : List UInt8) (i : Nat), all32 l → i < l.length → ((l.flatten ++ r).drop (32 * i)).take 32 = l.getD i []
  | [], _, i, _, h => by simp at h
  | x :: l, r, 0, h, _ => by
    have hx := h x (by simp)
    rw [List.flatten_cons, Nat.mul_zero, List.drop_zero, List.append_assoc, List.take_append_of_le_length (by omega), List.take_of_length_le (by omega)]
    rfl
  | x :: l, r, i + 1, h, hi => by
    have hx := h x (by simp)
    rw [List.flatten_cons, List.append_assoc, show 32 * (i + 1) = 32 + 32 * i by omega, ← List.drop_drop, List.drop_append_of_le_length (by omega), (show x.drop 32 = [] from List.drop_eq_nil_of_le (by omega)), List.nil_append, flat_at l r i (fun y hy => h y (by simp [hy])) (by simpa using hi)]
    rfl
theorem idsOf_flat (l : List (List UInt8)) (r : List UInt8) (h : all32 l) : idsOf l.length (l.flatten ++ r) = l := by
  refine List.ext_getElem (idsOf_length _ _) (fun i h1 h2 => ?_)
  have e := idsOf_at l.length (l.flatten ++ r) i h2
  rw [flat_at l r i h h2, List.getD_eq_getElem?_getD, List.getD_eq_getElem?_getD, List.getElem?_eq_getElem h1, List.getElem?_eq_getElem h2] at e
  simpa using e

/-! ### What is put is got -/
theorem takeN_put (n : Nat) (hn : n < 18446744073709551616) (r : List UInt8) : takeN (numL n ++ r) = some (n, r) := by
  have hp := numL_pos n
  unfold takeN
  rw [getL_put n hn r, if_neg (by simp only; omega)]
  simp only [List.drop_left]
theorem takeM_put (most n : Nat) (hm : most < 18446744073709551616) (hn : n ≤ most) (r : List UInt8) : takeM most (numL n ++ r) = some (n, r) := by
  have hp := numL_pos n
  unfold takeM
  rw [getL_put n (by omega) r, if_neg (by simp only; omega)]
  simp only [List.drop_left]
theorem takeN_got {b r : List UInt8} {n : Nat} (h : takeN b = some (n, r)) : numL n ++ r = b ∧ n < 18446744073709551616 := by
  unfold takeN at h
  by_cases h0 : (getL b).2 = 0
  · rw [if_pos h0] at h; cases h
  rw [if_neg h0] at h
  injection h with h
  injection h with e1 e2
  subst e1 e2
  obtain ⟨g1, g2, g3, _⟩ := getL_got (l := b) (m := (getL b).1) (k := (getL b).2) rfl h0
  rw [g1, List.take_append_drop]
  exact ⟨rfl, getL_lt b⟩
theorem takeM_got {most : Nat} {b r : List UInt8} {n : Nat} (h : takeM most b = some (n, r)) : numL n ++ r = b ∧ n ≤ most := by
  unfold takeM at h
  by_cases h0 : (getL b).2 = 0 ∨ most < (getL b).1
  · rw [if_pos h0] at h; cases h
  rw [if_neg h0] at h
  injection h with h
  injection h with e1 e2
  subst e1 e2
  obtain ⟨g1, g2, g3, _⟩ := getL_got (l := b) (m := (getL b).1) (k := (getL b).2) rfl (by omega)
  rw [g1, List.take_append_drop]
  exact ⟨rfl, by omega⟩
theorem mayC_parts {c : Cmt} (h : mayC c = true) : (1 ≤ c.gen ∧ c.gen ≤ 1048576) ∧ c.par.length ≤ 8 ∧ risesL c.par = true ∧ (c.gen = 1 ↔ c.par.length = 0) ∧
    ((c.node = -1 ∧ 2 ≤ c.par.length ∧ c.seq = 0 ∧ c.op = zeroO) ∨ (c.node ≠ -1 ∧ (0 ≤ c.node ∧ c.node ≤ 7) ∧ (1 ≤ c.seq ∧ c.seq ≤ 1048576) ∧ mayB c.op = true)) := by
  unfold mayC inI at h
  simp only [Bool.and_eq_true, decide_eq_true_eq, beq_iff_eq, decide_eq_decide] at h
  obtain ⟨⟨⟨⟨h1, h2⟩, h3⟩, h4⟩, h5⟩ := h
  refine ⟨h1, h2, h3, h4, ?_⟩
  by_cases e : c.node = -1
  · rw [if_pos e] at h5
    simp only [Bool.and_eq_true, decide_eq_true_eq] at h5
    exact .inl ⟨e, h5.1.1, h5.1.2, h5.2⟩
  · rw [if_neg e] at h5
    simp only [Bool.and_eq_true, decide_eq_true_eq] at h5
    exact .inr ⟨e, h5.1.1, h5.1.2, h5.2⟩
theorem mayC_node {c : Cmt} (h : mayC c = true) : -1 ≤ c.node ∧ c.node ≤ 7 ∧ 0 ≤ c.seq ∧ c.seq ≤ 1048576 := by
  obtain ⟨_, _, _, _, h5⟩ := mayC_parts h
  rcases h5 with ⟨h1, _, h2, _⟩ | ⟨_, h1, h2, _⟩ <;> omega
theorem getC_put (c : Cmt) (h : mayC c = true) (h32 : all32 c.par) (r : List UInt8) : getC (putC c ++ r) = some (c, r) := by
  obtain ⟨h1, h2, h3, h4, h5⟩ := mayC_parts h
  obtain ⟨n1, n2, n3, n4⟩ := mayC_node h
  have hf0 := fold_lo c.node
  have hf1 := fold_hi c.node (by omega) (by omega)
  have e : putC c ++ r = numL (fold c.node).toNat ++ (numL c.seq.toNat ++ (numL c.gen.toNat ++ (numL c.par.length ++ (c.par.flatten ++ (tailL c ++ r))))) := by
    unfold putC headL; simp only [List.append_assoc]
  unfold getC
  rw [e, takeN_put _ (by omega)]
  simp only
  rw [takeM_put _ _ (by decide) (by omega)]
  simp only
  rw [takeM_put _ _ (by decide) (by omega)]
  simp only
  rw [takeM_put _ _ (by decide) h2]
  simp only
  have hl : 32 * c.par.length ≤ (c.par.flatten ++ (tailL c ++ r)).length := by rw [List.length_append, flat_len _ h32]; omega
  have hd : (c.par.flatten ++ (tailL c ++ r)).drop (32 * c.par.length) = tailL c ++ r := by rw [← flat_len _ h32, List.drop_left]
  rw [if_pos hl, idsOf_flat _ _ h32, hd, Int.toNat_of_nonneg hf0, unfold_fold, Int.toNat_of_nonneg n3, Int.toNat_of_nonneg (show 0 ≤ c.gen by omega)]
  obtain ⟨node, seq, gen, par, op⟩ := c
  simp only at h5 n1 n2 n3 n4 ⊢
  rcases h5 with ⟨g1, g2, g3, g4⟩ | ⟨g1, g2, g3, g4⟩
  · subst g1 g3 g4
    rw [if_pos rfl]
    unfold finC tailL
    rw [if_pos h, if_pos rfl]
    rfl
  · rw [if_neg g1]
    have ht : tailL ⟨node, seq, gen, par, op⟩ = putO op := by unfold tailL; rw [if_neg g1]
    rw [ht, get_put op g4 r]
    simp only
    unfold finC
    rw [if_pos h]
/-- What is got may be, and is put as the same bytes. -/
theorem getC_got {b : List UInt8} {c : Cmt} {r : List UInt8} (h : getC b = some (c, r)) : mayC c = true ∧ putC c ++ r = b ∧ all32 c.par := by
  unfold getC at h
  cases h1 : takeN b with
  | none => rw [h1] at h; cases h
  | some p1 =>
  obtain ⟨n, r1⟩ := p1
  rw [h1] at h
  simp only at h
  cases h2 : takeM 1048576 r1 with
  | none => rw [h2] at h; cases h
  | some p2 =>
  obtain ⟨s, r2⟩ := p2
  rw [h2] at h
  simp only at h
  cases h3 : takeM 1048576 r2 with
  | none => rw [h3] at h; cases h
  | some p3 =>
  obtain ⟨g, r3⟩ := p3
  rw [h3] at h
  simp only at h
  cases h4 : takeM 8 r3 with
  | none => rw [h4] at h; cases h
  | some p4 =>
  obtain ⟨k, r4⟩ := p4
  rw [h4] at h
  simp only at h
  by_cases hk : 32 * k ≤ r4.length
  case neg => rw [if_neg hk] at h; cases h
  rw [if_pos hk] at h
  obtain ⟨g1, hn⟩ := takeN_got h1
  obtain ⟨g2, hs⟩ := takeM_got h2
  obtain ⟨g3, hg⟩ := takeM_got h3
  obtain ⟨g4, hk8⟩ := takeM_got h4
  have hfu : (fold (unfold' (n : Int))).toNat = n := by rw [fold_unfold _ (by omega)]; rfl
  have hall : all32 (idsOf k r4) := idsOf_32 hk
  by_cases hm : unfold' (n : Int) = -1
  · rw [if_pos hm] at h
    unfold finC at h
    by_cases hmay : mayC ⟨-1, s, g, idsOf k r4, zeroO⟩ = true
    case neg => rw [if_neg hmay] at h; cases h
    rw [if_pos hmay] at h
    injection h with h
    injection h with e1 e2
    subst e1 e2
    refine ⟨hmay, ?_, hall⟩
    unfold putC headL tailL
    simp only [if_true, List.append_nil]
    rw [← hm, hfu, Int.toNat_natCast, Int.toNat_natCast, idsOf_length, idsOf_flatten _ _ hk]
    simp only [List.append_assoc]
    rw [List.take_append_drop, g4, g3, g2, g1]
  · rw [if_neg hm] at h
    cases h5 : getO (r4.drop (32 * k)) with
    | none => rw [h5] at h; cases h
    | some p5 =>
    obtain ⟨o, r5⟩ := p5
    rw [h5] at h
    simp only at h
    obtain ⟨g5, g6⟩ := get_got h5
    unfold finC at h
    by_cases hmay : mayC ⟨unfold' (n : Int), s, g, idsOf k r4, o⟩ = true
    case neg => rw [if_neg hmay] at h; cases h
    rw [if_pos hmay] at h
    injection h with h
    injection h with e1 e2
    subst e1 e2
    refine ⟨hmay, ?_, hall⟩
    unfold putC headL tailL
    simp only [if_neg hm]
    rw [hfu, Int.toNat_natCast, Int.toNat_natCast, idsOf_length, idsOf_flatten _ _ hk]
    simp only [List.append_assoc]
    rw [g6, List.take_append_drop, g4, g3, g2, g1]
theorem putC_only {c d : Cmt} (hc : mayC c = true) (hd : mayC d = true) (h1 : all32 c.par) (h2 : all32 d.par) (h : putC c = putC d) : c = d := by
  have e1 := getC_put c hc h1 []
  have e2 := getC_put d hd h2 []
  rw [h] at e1
  rw [e1] at e2
  injection e2 with e2
  injection e2
end Go.Proofs.Ytdefdccbcnpodaa
