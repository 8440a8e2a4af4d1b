/- Parts of a slice of bytes, whatever its address. -/
import Derived.Test.YtdefdccbcnpodaaMem
import Derived.Test.YtdefdccbcnpodaaOwn
namespace Go.Proofs.Ytdefdccbcnpodaa
open Go.ChangeShapes Go.WideShapes Go.ChangeAt Go.RowKit
set_option linter.unusedVariables false

/-- A part of a slice, whatever its address. -/
theorem Rd.sl {w : World} {a : Option Addr} {n c : Nat} {l : List UInt8} (hr : Rd w a n c l) (hac : a = none → c = 0) (i : Nat) (hi : i ≤ n) : ∃ a', (∀ h, sliced a i h c 1 = .slice a' (h - i) (c - i)) ∧
    (∀ j, i ≤ j → j ≤ n → ∀ w', Rd w' a n c l → Rd w' a' (j - i) (c - i) ((l.take j).drop i)) ∧ (a' = none → c - i = 0) := by
  have hle := hr.le
  have hcap := hr.cap
  refine ⟨if c = i then a else a.map (·.add (i * 1)), fun h => rfl, fun j hij hj w' h => ?_, fun h => ?_⟩
  · by_cases hz : j - i = 0
    · have h0 : ((l.take j).drop i) = [] := List.drop_eq_nil_of_le (by simp; omega)
      rw [hz, h0]; exact Rd.zero _ _ _ (by omega)
    · rw [if_neg (by omega)]
      rcases h.cells with h0 | ⟨b, off, rfl, _, _⟩
      · omega
      · have hadd : (Option.map (fun x => Addr.add x (i * 1)) (some (⟨b, off, none⟩ : Addr))) = some ⟨b, off + i, none⟩ := by
          rw [Nat.mul_one]; show some (Addr.add _ i) = _; unfold Addr.add; split <;> simp_all
        rw [hadd]; exact h.part i j hij hj
  · by_cases hc : c = i
    · omega
    · rw [if_neg hc] at h
      cases a with
      | none => have := hac rfl; omega
      | some x => cases h
/-- A part of a slice, whatever its address; its block is the slice's. -/
theorem Rd.slb {w : World} {a : Option Addr} {n c : Nat} {l : List UInt8} (hr : Rd w a n c l) (hac : a = none → c = 0) (i : Nat) (hi : i ≤ n) : ∃ a', (∀ h, sliced a i h c 1 = .slice a' (h - i) (c - i)) ∧
    (∀ w', Rd w' a n c l → Rd w' a' (n - i) (c - i) (l.drop i)) ∧ (a' = none → c - i = 0) ∧ (∀ x, a' = some x → ∃ y, a = some y ∧ x.block = y.block) := by
  have hle := hr.le
  have hcap := hr.cap
  refine ⟨if c = i then a else a.map (·.add (i * 1)), fun h => rfl, fun w' h => ?_, fun h => ?_, fun x hx => ?_⟩
  · have hl := h.len
    by_cases hz : n - i = 0
    · have h0 : l.drop i = [] := List.drop_eq_nil_of_le (by omega)
      rw [hz, h0]; exact Rd.zero _ _ _ (by omega)
    · rw [if_neg (by omega)]
      rcases h.cells with h0 | ⟨b, off, rfl, _, _⟩
      · omega
      · have hadd : (Option.map (fun x => Addr.add x (i * 1)) (some (⟨b, off, none⟩ : Addr))) = some ⟨b, off + i, none⟩ := by
          rw [Nat.mul_one]; show some (Addr.add _ i) = _; unfold Addr.add; split <;> simp_all
        rw [hadd]
        have := h.part i n hi (Nat.le_refl _)
        rwa [List.take_of_length_le (by omega)] at this
  · by_cases hc : c = i
    · omega
    · rw [if_neg hc] at h
      cases a with
      | none => have := hac rfl; omega
      | some x => cases h
  · by_cases hc : c = i
    · rw [if_pos hc] at hx; exact ⟨x, hx, rfl⟩
    · rw [if_neg hc] at hx
      cases a with
      | none => cases hx
      | some y =>
        refine ⟨y, rfl, ?_⟩
        simp only [Option.map_some, Option.some.injEq] at hx
        rw [← hx]
        unfold Addr.add; split <;> rfl
theorem size_u8 (w : World) : (sizeOf (Try.prog.elem 31)).run Try.prog w = .ok 1 w := by kernel_rfl
theorem slice_l (w : World) (a : Option Addr) (n c i : Nat) (hi : i ≤ n) : (Instr.slice 31 (.slice a n c) (some (.int .i64 (i : Int))) none none).run Try.prog w = .ok (sliced a i n c 1) w := by
  rw [run_slice_l (P := Try.prog) (w := w) 31 a n c (by kernel_rfl) .i64 (i : Int) (by omega) (by omega), size_u8]; rfl
theorem slice_lh (w : World) (a : Option Addr) (n c i j : Nat) (hi : i ≤ j) (hj : j ≤ c) : (Instr.slice 31 (.slice a n c) (some (.int .i64 (i : Int))) (some (.int .i64 (j : Int))) none).run Try.prog w = .ok (sliced a i j c 1) w := by
  rw [run_slice_lh (P := Try.prog) (w := w) 31 a n c (by kernel_rfl) .i64 .i64 (i : Int) (j : Int) (by omega) (by omega) (by omega), size_u8]; rfl
theorem slice_at (w : World) (x : Value) (lo hi mx : Option Value) : (Instr.sliceAt 31 x lo hi mx).run Try.prog w = (Instr.slice 31 x lo hi mx).run Try.prog w := run_sliceAt_slice (P := Try.prog) (w := w) _ x lo hi mx (by kernel_rfl)

theorem slice_h (w : World) (a : Option Addr) (n c j : Nat) (hj : j ≤ c) : (Instr.slice 31 (.slice a n c) none (some (.int .i64 (j : Int))) none).run Try.prog w = .ok (sliced a 0 j c 1) w := by
  rw [run_slice_h (P := Try.prog) (w := w) 31 a n c (by kernel_rfl) .i64 (j : Int) (by omega) (by omega), size_u8]; rfl
/-- The first bytes of a slice. -/
theorem Rd.fr {w : World} {a : Option Addr} {n c : Nat} {l : List UInt8} (hr : Rd w a n c l) (hac : a = none → c = 0) (u : Nat) (hu : u ≤ n) : ∃ a', (∀ w', (Instr.sliceAt 31 (.slice a n c) none (some (.int .i64 (u : Int))) none).run Try.prog w' = .ok (.slice a' u c) w') ∧
    (∀ w', (Instr.slice 31 (.slice a n c) none (some (.int .i64 (u : Int))) none).run Try.prog w' = .ok (.slice a' u c) w') ∧ (∀ w', Rd w' a n c l → Rd w' a' u c (l.take u)) ∧ (a' = none → c = 0) := by
  have hle := hr.le
  obtain ⟨a', hs, hR, hac'⟩ := hr.sl hac 0 (Nat.zero_le _)
  have h2 : ∀ w', (Instr.slice 31 (.slice a n c) none (some (.int .i64 (u : Int))) none).run Try.prog w' = .ok (.slice a' u c) w' := fun w' => by rw [slice_h w' a n c u (by omega), hs]; rfl
  exact ⟨a', fun w' => by rw [slice_at]; exact h2 w', h2, fun w' h => hR u (Nat.zero_le _) hu w' h, hac'⟩

end Go.Proofs.Ytdefdccbcnpodaa
