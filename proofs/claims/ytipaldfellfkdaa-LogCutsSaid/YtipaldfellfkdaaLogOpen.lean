/- A slice of slices of bytes that came in, as the texts that it reads as. -/
import Derived.Test.YtipaldfellfkdaaLogCuts
import Derived.Deep.Matrix
namespace Go.Proofs.Ytipaldfellfkdaa
open Go.ChangeShapes Go.WideShapes Go.ChangeAt Go.RowKit
set_option linter.unusedVariables false

theorem Txs.of_rows {w : World} {base : Nat} {a : Option Addr} {n c : Nat}
    (h : (a = none ∧ n = 0 ∧ c = 0) ∨ ∃ (x : Addr) (A : Nat → Option Addr) (L C : Nat → Nat) (Z : Nat → List Int), a = some x ∧ n ≤ c ∧ c ≤ maxLen ∧
      ∀ r, r < c → w.cell? (x.add r) = some (.slice (A r) (L r) (C r)) ∧ L r ≤ C r ∧ C r ≤ maxLen ∧ (Z r).length = C r ∧ (∀ n ∈ Z r, (Lit.int .u8 n).wf = true) ∧ (A r = none → C r = 0) ∧
        ∀ a', A r = some a' → base ≤ a'.block ∧ ∀ c, c < C r → w.cell? (a'.add c) = some (.int .u8 ((Z r).getD c 0))) : ∃ ls, Txs w a n c ls := by
  rcases h with ⟨rfl, rfl, rfl⟩ | ⟨x, A, L, C, Z, rfl, hn, hc, hx⟩
  · exact ⟨[], rfl, Nat.le_refl _, by decide, fun _ => rfl, .inl rfl⟩
  · have hc' : c ≤ 9223372036854775807 := Nat.le_trans hc (by unfold maxLen; decide)
    have each : ∀ r, r < c → ∃ l, Rd w (A r) (L r) (C r) l := by
      intro r hr
      obtain ⟨h1, h2, h3, h4, h5, h6, h7⟩ := hx r hr
      refine Rd.of_row (zs := Z r) ?_
      cases hA : A r with
      | none =>
        have h0 := h6 hA
        exact .inl ⟨rfl, by omega, h0, List.eq_nil_of_length_eq_zero (by omega)⟩
      | some y => exact .inr ⟨y, rfl, h2, h3, h4, fun i hi => (h7 y hA).2 i (by omega), h5⟩
    obtain ⟨f, hf⟩ := Go.Deep.choose_lt each
    refine ⟨(List.range n).map f, by simp, hn, hc', (fun h => by cases h), ?_⟩
    by_cases h0 : n = 0
    · exact .inl h0
    obtain ⟨b, off, spot⟩ := x
    have hc0 := (hx 0 (by omega)).1
    have hspot : spot = none := by simpa [Addr.add] using World.cell?_spot hc0
    subst hspot
    refine .inr ⟨b, off, rfl, fun i hi => ?_⟩
    obtain ⟨h1, h2, h3, h4, h5, h6, h7⟩ := hx i (by omega)
    have e : ((List.range n).map f).getD i [] = f i := by
      rw [List.getD_eq_getElem?_getD, List.getElem?_map, List.getElem?_range hi]; rfl
    have hr := hf i (by omega)
    have hadd : (⟨b, off, none⟩ : Addr).add i = ⟨b, off + i, none⟩ := by unfold Addr.add; split <;> simp_all
    rw [hadd] at h1
    rw [e, hr.len]
    exact ⟨A i, C i, h1, hr, h6⟩
end Go.Proofs.Ytipaldfellfkdaa
