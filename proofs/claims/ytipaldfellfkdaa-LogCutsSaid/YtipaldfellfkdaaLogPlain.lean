/- What the layer log computes, on lists of bytes; no program in sight. -/
import Derived.Test.YtipaldfellfkdaaEncLaw
import Derived.Test.YtipaldfellfkdaaShaId
namespace Go.Proofs.Ytipaldfellfkdaa
open Go
set_option linter.unusedVariables false

/-- The first four bytes of a sum. -/
def sum4 (l : List UInt8) : List UInt8 := [UInt8.ofNat ((sumQ l).a / 16777216).toNat, UInt8.ofNat ((sumQ l).a / 65536 % 256).toNat, UInt8.ofNat ((sumQ l).a / 256 % 256).toNat, UInt8.ofNat ((sumQ l).a % 256).toNat]
theorem sum4_length (l : List UInt8) : (sum4 l).length = 4 := rfl
theorem sum4_cells (l : List UInt8) : (sum4 l).map B = fourC (sumQ l).a := by
  obtain ⟨h0, h1⟩ := (sumQ_ok l).a
  unfold sum4 fourC B
  generalize (sumQ l).a = x at *
  simp only [List.map_cons, List.map_nil, List.cons.injEq, Value.int.injEq, UInt8.toNat_ofNat', true_and, and_true]
  omega
/-- A record's frame. -/
def frameL (l : List UInt8) : List UInt8 := numL l.length ++ l ++ sum4 l
theorem frameL_length (l : List UInt8) : (frameL l).length = (numL l.length).length + l.length + 4 := by simp only [frameL, List.length_append, sum4_length]

def numF (b : List UInt8) : Nat := (getL b).1
def atF (b : List UInt8) : Nat := (getL b).2
/-- How many bytes the first record of b has, if there is one. -/
def lenF (b : List UInt8) : Nat := atF b + numF b + 4
def recF (b : List UInt8) : List UInt8 := (b.drop (atF b)).take (numF b)
def tailF (b : List UInt8) : List UInt8 := (b.drop (atF b + numF b)).take 4
def okF (b : List UInt8) : Prop := atF b ≠ 0 ∧ numF b ≤ 4000 ∧ lenF b ≤ b.length ∧ sum4 (recF b) = tailF b
instance (b : List UInt8) : Decidable (okF b) := by unfold okF; infer_instance
def readN : Nat → List UInt8 → List (List UInt8) × Nat
  | 0, _ => ([], 0)
  | f + 1, b => if okF b then (recF b :: (readN f (b.drop (lenF b))).1, lenF b + (readN f (b.drop (lenF b))).2) else ([], 0)
/-- The records of a log, and how many bytes these have. -/
def readL (b : List UInt8) : List (List UInt8) × Nat := readN b.length b
theorem okF_nil : ¬ okF [] := by intro h; have := h.2.2.1; simp [lenF] at this
theorem readN_enough : ∀ (f g : Nat) (b : List UInt8), b.length ≤ f → b.length ≤ g → readN f b = readN g b := by
  intro f
  induction f with
  | zero =>
    intro g b h1 _
    obtain rfl : b = [] := List.eq_nil_of_length_eq_zero (by omega)
    cases g with
    | zero => rfl
    | succ g => rw [readN, readN, if_neg okF_nil]
  | succ f ih =>
    intro g b h1 h2
    cases g with
    | zero =>
      obtain rfl : b = [] := List.eq_nil_of_length_eq_zero (by omega)
      rw [readN, readN, if_neg okF_nil]
    | succ g =>
      rw [readN, readN]
      by_cases h : okF b
      · have hl : (b.drop (lenF b)).length + 4 ≤ b.length := by
          have := h.2.2.1; rw [List.length_drop]; unfold lenF at this ⊢; omega
        rw [if_pos h, if_pos h, ih g _ (by omega) (by omega)]
      · rw [if_neg h, if_neg h]
theorem readL_ok {b : List UInt8} (h : okF b) : readL b = (recF b :: (readL (b.drop (lenF b))).1, lenF b + (readL (b.drop (lenF b))).2) := by
  have hl : (b.drop (lenF b)).length + 4 ≤ b.length := by
    have := h.2.2.1; rw [List.length_drop]; unfold lenF at this ⊢; omega
  unfold readL
  obtain ⟨k, hk⟩ : ∃ k, b.length = k + 1 := ⟨b.length - 1, by omega⟩
  rw [hk, readN, if_pos h, readN_enough k _ _ (by omega) (Nat.le_refl _)]
theorem readL_no {b : List UInt8} (h : ¬ okF b) : readL b = ([], 0) := by
  unfold readL
  cases hb : b.length with
  | zero => rfl
  | succ k => rw [readN, if_neg h]
/-- By the number of bytes: what holds of a log whose rest it holds of holds of any. -/
theorem log_ind {C : List UInt8 → Prop} (h0 : ∀ b, ¬ okF b → C b) (h1 : ∀ b, okF b → C (b.drop (lenF b)) → C b) : ∀ b, C b := by
  have : ∀ n (b : List UInt8), b.length ≤ n → C b := by
    intro n
    induction n with
    | zero => intro b h; obtain rfl : b = [] := List.eq_nil_of_length_eq_zero (by omega); exact h0 _ okF_nil
    | succ n ih =>
      intro b h
      by_cases hk : okF b
      · refine h1 b hk (ih _ ?_)
        have := hk.2.2.1; rw [List.length_drop]; unfold lenF at this ⊢; omega
      · exact h0 b hk
  exact fun b => this b.length b (Nat.le_refl _)
theorem readL_le (b : List UInt8) : (readL b).2 ≤ b.length := by
  refine log_ind (C := fun b => (readL b).2 ≤ b.length) ?_ ?_ b
  · intro b h; rw [readL_no h]; exact Nat.zero_le _
  · intro b h ih
    rw [readL_ok h]
    have := h.2.2.1
    rw [List.length_drop] at ih
    show lenF b + _ ≤ _
    omega
/-- Nothing is read of what stands behind. -/
theorem readL_behind (b : List UInt8) : readL (b.drop (readL b).2) = ([], 0) := by
  refine log_ind (C := fun b => readL (b.drop (readL b).2) = ([], 0)) ?_ ?_ b
  · intro b h; rw [readL_no h]; exact readL_no h
  · intro b h ih
    rw [readL_ok h]
    show readL (b.drop (lenF b + _)) = _
    rw [← List.drop_drop]; exact ih
theorem getL_cut (b : List UInt8) (m : Nat) (h : atF b ≠ 0) (hm : atF b ≤ m) : getL (b.take m) = getL b := by
  obtain ⟨h1, h2, h3, _⟩ := getL_got (l := b) (m := numF b) (k := atF b) rfl h
  have e : b.take m = numL (numF b) ++ (b.take m).drop (atF b) := by
    have h4 : (b.take m).take (atF b) = b.take (atF b) := by rw [List.take_take, Nat.min_eq_left hm]
    rw [h1, ← h4, List.take_append_drop]
  rw [e, getL_put _ h3, ← h2]; rfl
theorem okF_cut {b : List UInt8} (h : okF b) (m : Nat) (hm : lenF b ≤ m) : okF (b.take m) ∧ recF (b.take m) = recF b ∧ lenF (b.take m) = lenF b := by
  obtain ⟨h1, h2, h3, h4⟩ := h
  have hle : atF b + numF b + 4 ≤ m := hm
  have hg := getL_cut b m h1 (by omega)
  have ea : atF (b.take m) = atF b := congrArg Prod.snd hg
  have en : numF (b.take m) = numF b := congrArg Prod.fst hg
  have er : recF (b.take m) = recF b := by
    unfold recF; rw [ea, en, List.drop_take, List.take_take, Nat.min_eq_left (by omega)]
  have et : tailF (b.take m) = tailF b := by
    unfold tailF; rw [ea, en, List.drop_take, List.take_take, Nat.min_eq_left (by omega)]
  have el : lenF (b.take m) = lenF b := by unfold lenF; rw [ea, en]
  refine ⟨⟨by rw [ea]; exact h1, by rw [en]; exact h2, ?_, by rw [er, et]; exact h4⟩, er, el⟩
  rw [el, List.length_take]
  exact Nat.le_min.2 ⟨hm, h3⟩
/-- What is mended stays. -/
theorem readL_cut (b : List UInt8) : (readL (b.take (readL b).2)).2 = (readL b).2 := by
  refine log_ind (C := fun b => (readL (b.take (readL b).2)).2 = (readL b).2) ?_ ?_ b
  · intro b h
    rw [readL_no h, List.take_zero, readL_no okF_nil]
  · intro b h ih
    rw [readL_ok h]
    show (readL (b.take (lenF b + (readL (b.drop (lenF b))).2))).2 = lenF b + (readL (b.drop (lenF b))).2
    obtain ⟨hk, _, hl⟩ := okF_cut h (lenF b + (readL (b.drop (lenF b))).2) (by omega)
    rw [readL_ok hk, hl]
    show lenF b + (readL ((b.take (lenF b + _)).drop (lenF b))).2 = _
    rw [List.drop_take, Nat.add_sub_cancel_left, ih]
end Go.Proofs.Ytipaldfellfkdaa
