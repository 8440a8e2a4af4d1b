/- What the layer ops computes, on lists of bytes; no program in sight. -/
import Derived.Test.YtdefdccbcnpodaaEncCut
namespace Go.Proofs.Ytdefdccbcnpodaa
open Go
set_option linter.unusedVariables false

/-- May a byte stand in a key? -/
def isN (x : Nat) : Bool := (decide (97 ≤ x) && decide (x ≤ 122)) || (decide (48 ≤ x) && decide (x ≤ 57))
def isC (c : UInt8) : Bool := isN c.toNat
/-- May a text be a key? -/
def keyB (l : List UInt8) : Bool := l.all isC && decide (1 ≤ l.length) && decide (l.length ≤ 8)
/-- An operation. -/
structure Opn where
  kind : Int
  key : List UInt8
  elem : List UInt8
  num : Int
deriving DecidableEq
def Opn.val (o : Opn) : Value := .agg #[.int .i64 o.kind, .string ⟨o.key.toArray⟩, .string ⟨o.elem.toArray⟩, .int .i64 o.num]
/-- May an operation of a number be? -/
def cntB (o : Opn) : Bool := decide (o.num ≠ 0) && decide (-1048576 ≤ o.num) && decide (o.num ≤ 1048576) && decide (o.elem = [])
/-- May an operation of a name be? -/
def namB (o : Opn) : Bool := decide (o.num = 0) && keyB o.elem
def inB (k : Int) : Bool := decide (0 ≤ k) && decide (k ≤ 3)
def mayB (o : Opn) : Bool := inB o.kind && keyB o.key && (if o.kind = 0 then cntB o else namB o)
/-- What stands behind the key. -/
def endL (o : Opn) : List UInt8 := if o.kind = 0 then numL (fold o.num).toNat else txtL o.elem
def putO (o : Opn) : List UInt8 := numL o.kind.toNat ++ (txtL o.key ++ endL o)
/-- The operation that bytes begin with, with the key cut off already. -/
def getE (k : Nat) (key r : List UInt8) : Option (Opn × List UInt8) :=
  if k = 0 then (if (getL r).2 = 0 then none else some (⟨0, key, [], unfold' ((getL r).1 : Int)⟩, r.drop (getL r).2))
  else (if cutIs r 8 = true then some (⟨(k : Int), key, cutT r 8, 0⟩, cutR r 8) else none)
def getO (b : List UInt8) : Option (Opn × List UInt8) :=
  if (getL b).2 = 0 ∨ 4 ≤ (getL b).1 then none else
  if cutIs (b.drop (getL b).2) 8 = true then
    match getE (getL b).1 (cutT (b.drop (getL b).2) 8) (cutR (b.drop (getL b).2) 8) with
    | none => none
    | some (o, r) => if mayB o = true then some (o, r) else none
  else none

theorem keyB_len {l : List UInt8} (h : keyB l = true) : 1 ≤ l.length ∧ l.length ≤ 8 := by
  simp only [keyB, Bool.and_eq_true, decide_eq_true_eq] at h; exact ⟨h.1.2, h.2⟩
theorem keyB_nil : keyB [] = false := rfl

/-! ### Texts that are cut off -/
theorem getL_txt (s r : List UInt8) (hs : s.length ≤ 8) : getL (txtL s ++ r) = (s.length, (numL s.length).length) := by
  unfold txtL
  rw [List.append_assoc]
  exact getL_put _ (show s.length < 18446744073709551616 by omega) _
theorem cut_put (s r : List UInt8) (hs : s.length ≤ 8) : cutIs (txtL s ++ r) 8 = true ∧ cutT (txtL s ++ r) 8 = s ∧ cutR (txtL s ++ r) 8 = r := by
  have hg := getL_txt s r hs
  have h1 : cutIs (txtL s ++ r) 8 = true := by
    unfold cutIs
    rw [hg]
    refine decide_eq_true ?_
    have := numL_pos s.length
    simp only [txtL, List.length_append]
    omega
  refine ⟨h1, ?_, ?_⟩
  · unfold cutT; rw [if_pos h1, hg]; unfold txtL; rw [List.append_assoc, List.drop_left, List.take_left]
  · unfold cutR; rw [if_pos h1, hg]; unfold txtL; rw [List.append_assoc, List.drop_left, List.drop_left]
theorem cut_got {l : List UInt8} (h : cutIs l 8 = true) : txtL (cutT l 8) ++ cutR l 8 = l ∧ (cutT l 8).length ≤ 8 := by
  obtain ⟨h1, h2, h3, h4⟩ := cut_parts h
  obtain ⟨g1, g2, g3, _⟩ := getL_got (l := l) (m := (getL l).1) (k := (getL l).2) rfl h1
  have hl : ((l.drop (getL l).2).take (getL l).1).length = (getL l).1 := by rw [List.length_take, List.length_drop]; omega
  unfold cutT cutR txtL
  rw [if_pos h, if_pos h, hl]
  refine ⟨?_, by omega⟩
  rw [g1, List.append_assoc, List.take_append_drop, List.take_append_drop]

/-! ### What is put is got -/
theorem mayB_kind {o : Opn} (h : mayB o = true) : 0 ≤ o.kind ∧ o.kind ≤ 3 ∧ keyB o.key = true ∧ (if o.kind = 0 then cntB o else namB o) = true := by
  simp only [mayB, inB, Bool.and_eq_true, decide_eq_true_eq] at h
  exact ⟨h.1.1.1, h.1.1.2, h.1.2, h.2⟩
theorem getE_put (o : Opn) (h : mayB o = true) (r : List UInt8) : getE o.kind.toNat o.key (endL o ++ r) = some (o, r) := by
  obtain ⟨h1, h2, h3, h4⟩ := mayB_kind h
  unfold getE endL
  by_cases hk : o.kind = 0
  · rw [if_pos hk] at h4 ⊢
    simp only [cntB, Bool.and_eq_true, decide_eq_true_eq] at h4
    have hf0 := fold_lo o.num
    have hf1 := fold_hi o.num (by omega) (by omega)
    have hg := getL_put (fold o.num).toNat (by omega) r
    rw [if_pos (by omega), hg]
    have hp := numL_pos (fold o.num).toNat
    rw [if_neg (by omega)]
    rw [List.drop_left, Int.toNat_of_nonneg hf0, unfold_fold]
    obtain ⟨k, key, elem, n⟩ := o
    simp only at hk h4
    subst hk
    rw [h4.2]
  · rw [if_neg hk] at h4 ⊢
    simp only [namB, Bool.and_eq_true, decide_eq_true_eq] at h4
    obtain ⟨c1, c2, c3⟩ := cut_put o.elem r (keyB_len h4.2).2
    rw [if_neg (by omega), if_pos c1, c2, c3, Int.toNat_of_nonneg h1]
    obtain ⟨k, key, elem, n⟩ := o
    simp only at h4
    rw [h4.1]
theorem get_put (o : Opn) (h : mayB o = true) (r : List UInt8) : getO (putO o ++ r) = some (o, r) := by
  obtain ⟨h1, h2, h3, h4⟩ := mayB_kind h
  have e : putO o ++ r = numL o.kind.toNat ++ (txtL o.key ++ (endL o ++ r)) := by unfold putO; simp only [List.append_assoc]
  have hg := getL_put o.kind.toNat (by omega) (txtL o.key ++ (endL o ++ r))
  have hp := numL_pos o.kind.toNat
  obtain ⟨c1, c2, c3⟩ := cut_put o.key (endL o ++ r) (keyB_len h3).2
  unfold getO
  rw [e, hg]
  simp only
  rw [if_neg (by omega), List.drop_left, if_pos c1, c2, c3, getE_put o h r]
  simp only
  rw [if_pos h]
/-- What is got may be, and is put as the same bytes. -/
theorem get_got {b : List UInt8} {o : Opn} {r : List UInt8} (h : getO b = some (o, r)) : mayB o = true ∧ putO o ++ r = b := by
  unfold getO at h
  by_cases h0 : (getL b).2 = 0 ∨ 4 ≤ (getL b).1
  · rw [if_pos h0] at h; cases h
  rw [if_neg h0] at h
  by_cases hc : cutIs (b.drop (getL b).2) 8 = true
  case neg => rw [if_neg hc] at h; cases h
  rw [if_pos hc] at h
  obtain ⟨c1, c2⟩ := cut_got hc
  obtain ⟨g1, g2, g3, _⟩ := getL_got (l := b) (m := (getL b).1) (k := (getL b).2) rfl (by omega)
  obtain ⟨k, hk⟩ : ∃ k, k = (getL b).1 := ⟨_, rfl⟩
  obtain ⟨K, hK⟩ : ∃ K, K = cutT (b.drop (getL b).2) 8 := ⟨_, rfl⟩
  obtain ⟨R, hR⟩ : ∃ R, R = cutR (b.drop (getL b).2) 8 := ⟨_, rfl⟩
  rw [← hk, ← hK, ← hR] at h
  rw [← hK, ← hR] at c1
  rw [← hk] at g1
  have hk4 : k < 4 := by omega
  have hb : numL k ++ (txtL K ++ R) = b := by rw [g1, c1, List.take_append_drop]
  cases he : getE k K R with
  | none => rw [he] at h; cases h
  | some p =>
    obtain ⟨o', r'⟩ := p
    rw [he] at h
    simp only at h
    by_cases hm : mayB o' = true
    case neg => rw [if_neg hm] at h; cases h
    rw [if_pos hm] at h
    injection h with h
    injection h with e1 e2
    subst e1 e2
    refine ⟨hm, ?_⟩
    rw [← hb]
    unfold getE at he
    by_cases hk0 : k = 0
    · rw [if_pos hk0] at he
      by_cases h2 : (getL R).2 = 0
      · rw [if_pos h2] at he; cases he
      rw [if_neg h2] at he
      injection he with he
      injection he with e1 e2
      subst e1 e2
      obtain ⟨q1, q2, q3, _⟩ := getL_got (l := R) (m := (getL R).1) (k := (getL R).2) rfl h2
      have hf : (fold (unfold' ((getL R).1 : Int))).toNat = (getL R).1 := by rw [fold_unfold _ (by omega)]; rfl
      unfold putO endL
      simp only
      rw [if_pos trivial, hf, q1, hk0]
      simp only [List.append_assoc, List.take_append_drop]
      rfl
    · rw [if_neg hk0] at he
      by_cases h2 : cutIs R 8 = true
      case neg => rw [if_neg h2] at he; cases he
      rw [if_pos h2] at he
      injection he with he
      injection he with e1 e2
      subst e1 e2
      unfold putO endL
      simp only
      rw [if_neg (by omega)]
      have := (cut_got h2).1
      simp only [List.append_assoc]
      rw [this]
      rfl
theorem put_only {o p : Opn} (ho : mayB o = true) (hp : mayB p = true) (h : putO o = putO p) : o = p := by
  have h1 := get_put o ho []
  have h2 := get_put p hp []
  rw [h] at h1
  rw [h1] at h2
  injection h2 with h2
  injection h2
theorem put_cut {o : Opn} (ho : mayB o = true) (m : Nat) (hm : m < (putO o).length) : getO ((putO o).take m) = none := by
  cases h : getO ((putO o).take m) with
  | none => rfl
  | some p =>
    obtain ⟨p, r⟩ := p
    obtain ⟨h1, h2⟩ := get_got h
    have h3 := get_put o ho []
    have h4 := get_put p h1 (r ++ (putO o).drop m)
    rw [← List.append_assoc, h2, List.take_append_drop] at h4
    rw [List.append_nil, h4] at h3
    injection h3 with h3
    injection h3 with _ h5
    have h6 := (List.append_eq_nil_iff.1 h5).2
    have := List.drop_eq_nil_iff.1 h6
    omega
end Go.Proofs.Ytdefdccbcnpodaa
