/- Parts of a slice of packets; one packet, or two, in a row of their own; plain laws of what net computes. -/
import Derived.Test.YtmeieokembjabaaNetAwake
namespace Go.Proofs.Ytmeieokembjabaa
open Go.ChangeShapes Go.WideShapes Go.ChangeAt Go.RowKit
set_option linter.unusedVariables false

theorem fewB_of {ps : List Pk} {m : Int} (h : fewB ps m = true) : (ps.length : Int) ≤ m ∧ ∀ i, (ps.getD i noPk).by_.length ≤ 1500 := by
  unfold fewB at h
  rw [Bool.and_eq_true, decide_eq_true_eq, List.all_eq_true] at h
  refine ⟨h.1, fun i => ?_⟩
  by_cases hi : i < ps.length
  · rw [List.getD_eq_getElem?_getD, List.getElem?_eq_getElem hi]
    exact of_decide_eq_true (h.2 _ (List.getElem_mem hi))
  · rw [List.getD_eq_getElem?_getD, List.getElem?_eq_none (by omega)]
    decide
theorem Pks.take {w : World} {a : Option Addr} {n c : Nat} {ps : List Pk} (h : Pks w a n c ps) (k : Nat) (hk : k ≤ n) : Pks w a k c (ps.take k) := by
  refine ⟨by rw [List.length_take, h.len]; omega, Nat.le_trans hk h.le, h.cap, h.non, ?_⟩
  rcases h.cells with h0 | ⟨b, off, rfl, hc⟩
  · exact .inl (by omega)
  · refine .inr ⟨b, off, rfl, fun i hi => ?_⟩
    have e : (ps.take k).getD i noPk = ps.getD i noPk := by rw [List.getD_eq_getElem?_getD, List.getElem?_take_of_lt hi, ← List.getD_eq_getElem?_getD]
    rw [e]
    exact hc i (by omega)
theorem Pks.one {w : World} {b : Nat} {p : Pk} {x : Option Addr} {cx : Nat} (hc : Cel w b 25 [.int .i64 p.fr, .int .i64 p.to, .slice x p.by_.length cx]) (hr : Rd w x p.by_.length cx p.by_) (hx : x = none → cx = 0) : Pks w (some ⟨b, 0, none⟩) 1 1 [p] :=
  ⟨rfl, Nat.le_refl _, by decide, (fun h => by cases h), .inr ⟨b, 0, rfl, fun i hi => by
    have h0 : i = 0 := by omega
    subst h0
    exact ⟨x, cx, hc.at 0 _ rfl, hc.at 1 _ rfl, hc.at 2 _ rfl, hr, hx⟩⟩⟩
theorem Pks.two {w : World} {b : Nat} {p q : Pk} {x y : Option Addr} {cx cy : Nat} (hc : Cel w b 25 [.int .i64 p.fr, .int .i64 p.to, .slice x p.by_.length cx, .int .i64 q.fr, .int .i64 q.to, .slice y q.by_.length cy]) (hr : Rd w x p.by_.length cx p.by_) (hx : x = none → cx = 0) (hs : Rd w y q.by_.length cy q.by_) (hy : y = none → cy = 0) : Pks w (some ⟨b, 0, none⟩) 2 2 [p, q] :=
  ⟨rfl, Nat.le_refl _, by decide, (fun h => by cases h), .inr ⟨b, 0, rfl, fun i hi => by
    have h0 : i = 0 ∨ i = 1 := by omega
    rcases h0 with rfl | rfl
    · exact ⟨x, cx, hc.at 0 _ rfl, hc.at 1 _ rfl, hc.at 2 _ rfl, hr, hx⟩
    · exact ⟨y, cy, hc.at 3 _ rfl, hc.at 4 _ rfl, hc.at 5 _ rfl, hs, hy⟩⟩⟩
theorem slice_plh (w : World) (a : Option Addr) (n c i j : Nat) (hi : i ≤ j) (hj : j ≤ c) : (Instr.slice 22 (.slice a n c) (some (.int .i64 (i : Int))) (some (.int .i64 (j : Int))) none).run Try.prog w = .ok (sliced a i j c 3) w := by
  rw [run_slice_lh (P := Try.prog) (w := w) 22 a n c (by kernel_rfl) .i64 .i64 (i : Int) (j : Int) (by omega) (by omega) (by omega), size_pk]; rfl
theorem slice_ph (w : World) (a : Option Addr) (n c j : Nat) (hj : j ≤ c) : (Instr.slice 22 (.slice a n c) none (some (.int .i64 (j : Int))) none).run Try.prog w = .ok (sliced a 0 j c 3) w := by
  rw [run_slice_h (P := Try.prog) (w := w) 22 a n c (by kernel_rfl) .i64 (j : Int) (by omega) (by omega), size_pk]; rfl
/-- From the i-th on. -/
theorem Pks.l {w : World} {a : Option Addr} {n c : Nat} {ps : List Pk} (h : Pks w a n c ps) (i m : Nat) (hi : i + m = n) : ∃ a', (∀ w', (Instr.sliceAt 22 (.slice a n c) (some (.int .i64 (i : Int))) none none).run Try.prog w' = .ok (.slice a' m (c - i)) w') ∧
    (∀ w', (Instr.slice 22 (.slice a n c) (some (.int .i64 (i : Int))) none none).run Try.prog w' = .ok (.slice a' m (c - i)) w') ∧ ∀ w', Pks w' a n c ps → Pks w' a' m (c - i) (ps.drop i) := by
  obtain ⟨a', hs, hk⟩ := h.drop i (by omega)
  rw [show n - i = m by omega] at hs hk
  have h2 : ∀ w', (Instr.slice 22 (.slice a n c) (some (.int .i64 (i : Int))) none none).run Try.prog w' = .ok (.slice a' m (c - i)) w' := fun w' => by rw [slice_pl w' a n c i (by omega), hs]
  exact ⟨a', fun w' => by rw [slice_p_at]; exact h2 w', h2, hk⟩
/-- The first m. -/
theorem Pks.h {w : World} {a : Option Addr} {n c : Nat} {ps : List Pk} (h : Pks w a n c ps) (m : Nat) (hm : m ≤ n) : ∃ a', (∀ w', (Instr.sliceAt 22 (.slice a n c) none (some (.int .i64 (m : Int))) none).run Try.prog w' = .ok (.slice a' m c) w') ∧
    (∀ w', (Instr.slice 22 (.slice a n c) none (some (.int .i64 (m : Int))) none).run Try.prog w' = .ok (.slice a' m c) w') ∧ ∀ w', Pks w' a n c ps → Pks w' a' m c (ps.take m) := by
  have hle := h.le
  obtain ⟨a', hs, hk⟩ := (h.take m hm).drop 0 (Nat.zero_le _)
  have h2 : ∀ w', (Instr.slice 22 (.slice a n c) none (some (.int .i64 (m : Int))) none).run Try.prog w' = .ok (.slice a' m c) w' := fun w' => by rw [slice_ph w' a n c m (by omega), hs]; rfl
  exact ⟨a', fun w' => by rw [slice_p_at]; exact h2 w', h2, fun w' h' => hk w' (h'.take m hm)⟩
/-- m of them, from the i-th on. -/
theorem Pks.lh {w : World} {a : Option Addr} {n c : Nat} {ps : List Pk} (h : Pks w a n c ps) (i j m : Nat) (hi : i + m = j) (hj : j ≤ n) : ∃ a', (∀ w', (Instr.sliceAt 22 (.slice a n c) (some (.int .i64 (i : Int))) (some (.int .i64 (j : Int))) none).run Try.prog w' = .ok (.slice a' m (c - i)) w') ∧
    (∀ w', (Instr.slice 22 (.slice a n c) (some (.int .i64 (i : Int))) (some (.int .i64 (j : Int))) none).run Try.prog w' = .ok (.slice a' m (c - i)) w') ∧ ∀ w', Pks w' a n c ps → Pks w' a' m (c - i) ((ps.take j).drop i) := by
  have hle := h.le
  obtain ⟨a', hs, hk⟩ := (h.take j hj).drop i (by omega)
  rw [show j - i = m by omega] at hs hk
  have h2 : ∀ w', (Instr.slice 22 (.slice a n c) (some (.int .i64 (i : Int))) (some (.int .i64 (j : Int))) none).run Try.prog w' = .ok (.slice a' m (c - i)) w' := fun w' => by rw [slice_plh w' a n c i j (by omega) (by omega), hs]
  exact ⟨a', fun w' => by rw [slice_p_at]; exact h2 w', h2, fun w' h' => hk w' (h'.take j hj)⟩
theorem take_one (ps : List Pk) (k : Nat) (hk : k < ps.length) : (ps.take (k + 1)).drop k = [ps.getD k noPk] := by
  rw [List.take_add_one, List.getElem?_eq_getElem hk, List.drop_append_of_le_length (by rw [List.length_take]; omega), List.drop_eq_nil_of_le (by rw [List.length_take]; omega), List.getD_eq_getElem?_getD, List.getElem?_eq_getElem hk]
  rfl
theorem take_erase (ps : List Pk) (k : Nat) (hk : k < ps.length) : (ps.eraseIdx k).take k = ps.take k := by
  rw [List.eraseIdx_eq_take_drop_succ, List.take_append_of_le_length (by rw [List.length_take]; omega), List.take_take, Nat.min_self]
theorem drop_erase (ps : List Pk) (k : Nat) (hk : k < ps.length) : (ps.eraseIdx k).drop k = ps.drop (k + 1) := by
  have hl : (ps.take k).length = k := by rw [List.length_take]; omega
  rw [List.eraseIdx_eq_take_drop_succ, List.drop_append, hl, Nat.sub_self, List.drop_zero, List.drop_eq_nil_of_le (by omega), List.nil_append]
theorem hasP_nat {ps : List Pk} {i : Int} (h : hasP ps i = true) : ∃ k : Nat, i = (k : Int) ∧ k < ps.length := by
  unfold hasP at h
  rw [Bool.and_eq_true, decide_eq_true_eq, decide_eq_true_eq] at h
  exact ⟨i.toNat, by omega, by omega⟩
theorem passP_at {ps : List Pk} {k : Nat} (h : k < ps.length) : hasP ps (k : Int) = true ∧ passP ps (k : Int) = ps.eraseIdx k ∧ outP ps (k : Int) = ps.getD k noPk := by
  have hh : hasP ps (k : Int) = true := by unfold hasP; rw [decide_eq_true (by omega), decide_eq_true (by omega)]; rfl
  refine ⟨hh, ?_, ?_⟩
  · unfold passP; rw [if_pos hh]; rfl
  · unfold outP; rw [if_pos hh]; rfl
end Go.Proofs.Ytmeieokembjabaa
