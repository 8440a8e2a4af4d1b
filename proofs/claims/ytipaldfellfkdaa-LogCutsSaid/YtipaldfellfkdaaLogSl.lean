/- Parts of slices; a jump back to a label; a list of texts of the call's own. -/
import Derived.Test.YtipaldfellfkdaaLogWalks
import Derived.ScopeJumps
import Derived.WalkMore
namespace Go.Proofs.Ytipaldfellfkdaa
open Go.ChangeShapes Go.WideShapes Go.ChangeAt Go.RowKit
set_option linter.unusedVariables false

theorem frame_over (a : Option Addr) (n c : Nat) (l : List UInt8) (w : World) (hr : Rd w a n c l) (hn : 4000 < n) : Calls Try.prog 8 #[.slice a n c] w fun e w' => e = .returned (.tuple #[.slice none 0 0, .int .i64 5]) ∧ w' = w := by
  have hn' : 4000 < (n : Int) := by omega
  have hl3 : n ≤ 9223372036854775807 := Nat.le_trans hr.le hr.cap
  clear hr
  go_enter Try.func8, Try.ntmps8
  go_wp2_with fail
  go_ret2
  exact ⟨rfl, rfl⟩

theorem info_bs : (Try.prog.info? 22).map (fun i => (i.zero, i.size, i.bytes)) = some (some (.slice none 0 0), 1, 24) := by kernel_rfl
/-- The values xs are slices of the call's own that read as the texts ls. -/
def Recs (w : World) (base : Nat) (xs : List Value) (ls : List (List UInt8)) : Prop :=
  xs.length = ls.length ∧ ∀ i, i < ls.length → w.ownsRow base 5 1 (xs.getD i undef) (ls.getD i []).length ((ls.getD i []).map B)

/-- A part of a slice, whatever its address. -/
theorem Rd.sl {w : World} {a : Option Addr} {n c : Nat} {l : List UInt8} (hr : Rd w a n c l) (hac : a = none → c = 0) (i : Nat) (hi : i ≤ n) : ∃ a', (∀ h, sliced a i h c 1 = .slice a' (h - i) (c - i)) ∧
    (∀ j, i ≤ j → j ≤ n → ∀ w', Rd w' a n c l → Rd w' a' (j - i) (c - i) ((l.take j).drop i)) ∧ (a' = none → c - i = 0) := by
  have hle := hr.le
  have hcap := hr.cap
  refine ⟨if c = i then a else a.map (·.add (i * 1)), fun h => rfl, fun j hij hj w' h => ?_, fun h => ?_⟩
  · by_cases hz : j - i = 0
    · have h0 : ((l.take j).drop i) = [] := List.drop_eq_nil_of_le (by simp; omega)
      rw [hz, h0]; exact Rd.zero _ _ _ (by omega)
    · rw [if_neg (by omega)]
      rcases h.cells with h0 | ⟨b, off, rfl, _, _⟩
      · omega
      · have hadd : (Option.map (fun x => Addr.add x (i * 1)) (some (⟨b, off, none⟩ : Addr))) = some ⟨b, off + i, none⟩ := by
          rw [Nat.mul_one]; show some (Addr.add _ i) = _; unfold Addr.add; split <;> simp_all
        rw [hadd]; exact h.part i j hij hj
  · by_cases hc : c = i
    · omega
    · rw [if_neg hc] at h
      cases a with
      | none => have := hac rfl; omega
      | some x => cases h
theorem size_u8 (w : World) : (sizeOf (Try.prog.elem 22)).run Try.prog w = .ok 1 w := by kernel_rfl
theorem slice_l (w : World) (a : Option Addr) (n c i : Nat) (hi : i ≤ n) : (Instr.slice 22 (.slice a n c) (some (.int .i64 (i : Int))) none none).run Try.prog w = .ok (sliced a i n c 1) w := by
  rw [run_slice_l (P := Try.prog) (w := w) 22 a n c (by kernel_rfl) .i64 (i : Int) (by omega) (by omega), size_u8]; rfl
theorem slice_lh (w : World) (a : Option Addr) (n c i j : Nat) (hi : i ≤ j) (hj : j ≤ c) : (Instr.slice 22 (.slice a n c) (some (.int .i64 (i : Int))) (some (.int .i64 (j : Int))) none).run Try.prog w = .ok (sliced a i j c 1) w := by
  rw [run_slice_lh (P := Try.prog) (w := w) 22 a n c (by kernel_rfl) .i64 .i64 (i : Int) (j : Int) (by omega) (by omega) (by omega), size_u8]; rfl
theorem slice_at (w : World) (x : Value) (lo hi mx : Option Value) : (Instr.sliceAt 22 x lo hi mx).run Try.prog w = (Instr.slice 22 x lo hi mx).run Try.prog w := run_sliceAt_slice (P := Try.prog) (w := w) _ x lo hi mx (by kernel_rfl)

/-- No step: on to what follows. -/
theorem wp_skip_then {P : Program} {X : Code} {Q : Exit → Act → World → Prop} {a : Act} {w : World} (h : X.wp P Q a w) : (Code.skip.seq X).wp P Q a w := by
  go_wp2_with fail
  exact h
theorem wp_scope_once {P : Program} {a a0 : Act} {w w0 : World} {Q : Exit → Act → World → Prop} {c X : Code} (l : Nat) (J : Act → World → Prop) (μ : Act → World → Nat) (hf : findLabel c l = some (Code.skip.seq X))
    (first : ∀ Q', X.wp P Q' a0 w0 → c.wp P Q' a w) (h0 : J a0 w0)
    (pass : ∀ a w, J a w → X.wp P (Exit.jump l (fun a' w' => J a' w' ∧ μ a' w' < μ a w) Q) a w) : (Code.scope c).wp P Q a w :=
  wp_scope_jumps l J μ hf (first _ (fun b k cs => by
    obtain ⟨e, a₁, w₁, hq, harr⟩ := pass a0 w0 h0 b k cs
    refine ⟨e, a₁, w₁, ?_, harr⟩
    cases e with
    | goto l' => exact ⟨hq.1, hq.2.1⟩
    | normal => exact hq
    | exit id => exact hq
    | ret => exact hq
    | panic ch => exact hq
    | outgrown => exact hq)) (fun a w h => wp_skip_then (pass a w h))
theorem recs_below {w w' : World} {base : Nat} {xs : List Value} {ls : List (List UInt8)} (h : Recs w base xs ls) (hb : Below w.heap.size w w') : Recs w' base xs ls := ⟨h.1, fun i hi => ownsRow_below (h.2 i hi) hb⟩
theorem eq_tail {b : List UInt8} {kN N k : Nat} {eqb : Bool} {x t0 t1 t2 t3 : Int} (he : eqb = ([x / 16777216, x / 65536 % 256, x / 256 % 256, x % 256] == [t0, t1, t2, t3])) (hx : x = (sumQ (recF b)).a)
    (h0 : t0 = ((b.drop kN).getD 0 0).toNat) (h1 : t1 = ((b.drop kN).getD 1 0).toNat) (h2 : t2 = ((b.drop kN).getD 2 0).toNat) (h3 : t3 = ((b.drop kN).getD 3 0).toNat) (hk : N = numF b ∧ k = atF b) (hkN : kN = k + N) (hl : k + N + 4 ≤ b.length) :
    eqb = true ↔ sum4 (recF b) = tailF b := by
  have hb : tailF b = [(b.drop kN).getD 0 0, (b.drop kN).getD 1 0, (b.drop kN).getD 2 0, (b.drop kN).getD 3 0] := by
    unfold tailF
    rw [← hk.1, ← hk.2, ← hkN]
    have hd : 4 ≤ (b.drop kN).length := by rw [List.length_drop]; omega
    generalize b.drop kN = d at hd
    match d, hd with
    | c0 :: c1 :: c2 :: c3 :: r, _ => rfl
  have hc := sum4_cells (recF b)
  rw [← hx] at hc
  have inj : ∀ {p q : List UInt8}, p.map B = q.map B ↔ p = q := by
    intro p q
    refine ⟨fun h => ?_, fun h => by rw [h]⟩
    have hB : Function.Injective B := fun u v huv => by
      have : (u.toNat : Int) = v.toNat := by injection huv
      exact UInt8.toNat_inj.1 (by omega)
    exact List.map_inj_right (fun _ _ e => hB e) |>.1 h
  rw [← inj, hc, hb, he, beq_iff_eq]
  simp only [fourC, List.map_cons, List.map_nil, B, List.cons.injEq, Value.int.injEq, true_and, and_true, ← h0, ← h1, ← h2, ← h3]
theorem apart_rows {w : World} {base base' n m : Nat} {x v : Value} {ls xs : List Value} (h : w.ownsRow base 5 1 x n ls) (h' : w.ownsRow base' 22 1 v m xs) : x.ownBlock = none ∨ x.ownBlock ≠ v.ownBlock := by
  rcases h.2 with ⟨rfl, _⟩ | ⟨g, cap, cur, rfl, _, hg, _⟩
  · exact .inl rfl
  · rcases h'.2 with ⟨rfl, _⟩ | ⟨g', cap', cur', rfl, _, hg', _⟩
    · exact .inr (by simp [Value.ownBlock])
    · refine .inr (fun e => ?_)
      simp only [Value.ownBlock, Option.some.injEq] at e
      subst e
      rw [hg] at hg'
      cases hg'
/-- 'append(v, u)' of one more text of the call's own. -/
theorem app_rec {i : TypeInfo} (hi : Try.prog.info? 22 = some i) (hz : i.zero = some (.slice none 0 0)) (hsize : i.size = 1) (hby : i.bytes = 24)
    {w0 w : World} {v : Value} {xs : List Value} {done : List (List UInt8)} {r : List UInt8} {a11 : Option Addr} {c11 : Nat} (hb : Below w0.heap.size w0 w) (hO : w.ownsRow w0.heap.size 22 1 v done.length xs) (hX : Recs w w0.heap.size xs done)
    (hr : w.ownsRow w0.heap.size 5 1 (.slice a11 r.length c11) r.length (r.map B)) (hn : done.length ≤ 20000) :
    ∃ v7 w7, (Builtin.append_ #[27, 27] 27 #[v, .slice (some ⟨w.heap.size, 0, none⟩) 1 1]).run Try.prog (w.alloc (.cells #[.slice a11 r.length c11] 22)) = .ok v7 w7 ∧
      w7.ownsRow w0.heap.size 22 1 v7 (done.length + 1) (xs ++ [.slice a11 r.length c11]) ∧ Recs w7 w0.heap.size (xs ++ [.slice a11 r.length c11]) (done ++ [r]) ∧ Below w0.heap.size w0 w7 := by
  have hbX : Below w.heap.size w (w.alloc (.cells #[.slice a11 r.length c11] 22)) := (Below.refl _ _).alloc (Nat.le_refl _) _
  have hOX := ownsRow_below hO hbX
  have hrX := ownsRow_below hr hbX
  obtain ⟨v7, w7, h1, h2, h3, _⟩ := run_append_own (P := Try.prog) (w.alloc (.cells #[.slice a11 r.length c11] 22)) w0.heap.size 27 27 22 i (.slice none 0 0) 1 24 (by kernel_rfl) hi hz hsize hby rfl (by decide) v done.length xs hOX ⟨w.heap.size, 0, none⟩ 1 1 [.slice a11 r.length c11] rfl (by
    intro j u hu
    have hj : j = 0 := by have := (List.getElem?_eq_some_iff.1 hu).1; simp at this; exact this
    subst hj
    have hadd : (⟨w.heap.size, 0, none⟩ : Addr).add 0 = ⟨w.heap.size, 0, none⟩ := by unfold Addr.add; split <;> simp_all
    rw [hadd]
    exact new_cell (by simpa using hu)) (by intro u hu; simp at hu; subst hu; rfl) (by unfold maxLen; omega) (by omega) (Nat.le_trans hb.size hbX.size)
  refine ⟨v7, w7, h1, h2, ⟨by simp [hX.1], fun k hk => ?_⟩, below_own (hb.step hbX) hOX h3 (Nat.le_trans hb.size hbX.size)⟩
  by_cases hkd : k < done.length
  · have e1 : (xs ++ [Value.slice a11 r.length c11]).getD k undef = xs.getD k undef := by
      rw [List.getD_eq_getElem?_getD, List.getElem?_append_left (by rw [hX.1]; exact hkd), ← List.getD_eq_getElem?_getD]
    have e2 : (done ++ [r]).getD k [] = done.getD k [] := by
      rw [List.getD_eq_getElem?_getD, List.getElem?_append_left hkd, ← List.getD_eq_getElem?_getD]
    rw [e1, e2]
    have hk' := ownsRow_below (hX.2 k hkd) hbX
    exact hk'.kept h3 (apart_rows hk' hOX)
  · have hke : k = done.length := by simp at hk; omega
    have e1 : (xs ++ [Value.slice a11 r.length c11]).getD k undef = .slice a11 r.length c11 := by
      rw [List.getD_eq_getElem?_getD, List.getElem?_append_right (by rw [hX.1]; omega), hX.1, hke, Nat.sub_self]; rfl
    have e2 : (done ++ [r]).getD k [] = r := by
      rw [List.getD_eq_getElem?_getD, List.getElem?_append_right (by omega), hke, Nat.sub_self]; rfl
    rw [e1, e2]
    exact hrX.kept h3 (apart_rows hrX hOX)
end Go.Proofs.Ytipaldfellfkdaa
