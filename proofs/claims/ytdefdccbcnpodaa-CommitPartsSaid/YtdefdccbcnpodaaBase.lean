/- Slices of bytes that are read, in plain words; small laws on worlds. No program in sight. -/
import Derived.WalkKit
import Derived.ProofKit
import Derived.Below
import Derived.Carry
import Derived.Lib.Hide
import Derived.ChangeKeysEq
import Derived.Laws.Rows
namespace Go.Proofs.Ytdefdccbcnpodaa
open Go Go.RowKit
set_option linter.unusedVariables false

/-- A byte as a value. -/
def B (c : UInt8) : Value := .int .u8 (c.toNat : Int)

/-- The slice (a, n, c) reads as the bytes l. -/
structure Rd (w : World) (a : Option Addr) (n c : Nat) (l : List UInt8) : Prop where
  len : l.length = n
  le : n ≤ c
  cap : c ≤ 9223372036854775807
  cells : n = 0 ∨ ∃ b off, a = some ⟨b, off, none⟩ ∧ b < w.heap.size ∧ ∀ i, i < n → w.cell? ⟨b, off + i, none⟩ = some (.int .u8 ((l.getD i 0).toNat : Int))

theorem Rd.below {w w' : World} {a : Option Addr} {n c : Nat} {l : List UInt8} (h : Rd w a n c l) (hb : Below w.heap.size w w') : Rd w' a n c l := by
  refine ⟨h.len, h.le, h.cap, ?_⟩
  rcases h.cells with h0 | ⟨b, off, e, hlt, hc⟩
  · exact .inl h0
  · exact .inr ⟨b, off, e, Nat.lt_of_lt_of_le hlt hb.size, fun i hi => (hb.cell (p := ⟨b, off + i, none⟩) hlt).trans (hc i hi)⟩

theorem Rd.nil (w : World) : Rd w none 0 0 [] := ⟨rfl, Nat.le_refl _, by decide, .inl rfl⟩

theorem _root_.Go.RowKit.Below.step {w w' w'' : World} (h : Below w.heap.size w w') (h' : Below w'.heap.size w' w'') : Below w.heap.size w w'' :=
  h.trans (h'.mono h.size)

theorem u8_bd (c : UInt8) : 0 ≤ (c.toNat : Int) ∧ (c.toNat : Int) ≤ 255 := by have := c.toNat_lt; omega

theorem wf_u8_bd {n : Int} (h : (Lit.int .u8 n).wf = true) : 0 ≤ n ∧ n ≤ 255 := by simpa [Lit.wf, IntKind.min, IntKind.max, IntKind.signed, IntKind.bits] using h
theorem wf_u32_bd {n : Int} (h : (Lit.int .u32 n).wf = true) : 0 ≤ n ∧ n ≤ 4294967295 := by simpa [Lit.wf, IntKind.min, IntKind.max, IntKind.signed, IntKind.bits] using h
theorem wf_u64_bd {n : Int} (h : (Lit.int .u64 n).wf = true) : 0 ≤ n ∧ n ≤ 18446744073709551615 := by simpa [Lit.wf, IntKind.min, IntKind.max, IntKind.signed, IntKind.bits] using h
theorem wf_i64_bd {n : Int} (h : (Lit.int .i64 n).wf = true) : -9223372036854775808 ≤ n ∧ n ≤ 9223372036854775807 := by simpa [Lit.wf, IntKind.min, IntKind.max, IntKind.signed, IntKind.bits] using h
theorem ret1 {k : IntKind} {a b : Int} (h : a = b) : Ending.returned (.int k a) = .returned (.int k b) := by rw [h]
theorem ret_i {k : IntKind} {a b : Int} {v : Value} (h : a = b) : Ending.returned (.tuple #[.int k a, v]) = .returned (.tuple #[.int k b, v]) := by rw [h]
theorem ret_ii {k k' : IntKind} {a b c d : Int} (h : a = b) (h' : c = d) : Ending.returned (.tuple #[.int k a, .int k' c]) = .returned (.tuple #[.int k b, .int k' d]) := by rw [h, h']
theorem retb {a b : Bool} (h : a = b) : Ending.returned (.bool a) = .returned (.bool b) := by rw [h]
theorem wrap_u64 (n : Int) : IntKind.u64.wrap n = n % 18446744073709551616 := by simp [IntKind.wrap, IntKind.bits, IntKind.signed]

theorem Rd.made (w : World) (l : List UInt8) (e : TypeId) (h : l.length ≤ 140737488351232) :
    Rd (w.alloc (.cells (l.map fun c => Value.int .u8 (c.toNat : Int)).toArray e)) (some ⟨w.heap.size, 0, none⟩) l.length l.length l := by
  refine ⟨rfl, Nat.le_refl _, by omega, .inr ⟨w.heap.size, 0, rfl, by simp, fun i hi => ?_⟩⟩
  rw [cell_of_row _ w.heap.size (0 + i) _ e (0, 0) (heap_alloc_new w _)]
  simp [hi]

/-- A cell of what a call left alone. -/
theorem carry_cell {w v : World} {p : Addr} {x : Value} (h : w.cell? p = some x) (hb : Below w.heap.size w v) : v.cell? p = some x :=
  (hb.cell (block_lt_of_cell h)).trans h
theorem carry_alloc {w : World} {o : Obj} {p : Addr} {x : Value} (h : w.cell? p = some x) : (w.alloc o).cell? p = some x :=
  (World.cell?_alloc_lt w _ _ (block_lt_of_cell h)).trans h
theorem new_cell {w : World} {cs : Array Value} {t : TypeId} {i : Nat} {x : Value} (h : cs[i]? = some x) : (w.alloc (.cells cs t)).cell? ⟨w.heap.size, i, none⟩ = some x := by
  rw [cell_of_row _ w.heap.size i cs t (0, 0) (heap_alloc_new w _)]; exact h

/-! '==' of two arrays of whole numbers. -/
theorem run_part_int {P : Program} {e : TypeId} {k : IntKind} (he : P.underlying e = some (.int k)) (as : List Int) (j : Nat) (hj : j < as.length) (w : World) :
    (part e (as.map (Value.int k)).toArray j).run P w = .ok (.int k (as.getD j 0)) w := by
  have hagg : (isAgg e).run P w = .ok false w := by
    unfold isAgg
    rw [Sem.run_bind, run_underlying he w]; rfl
  simp [part, Sem.run_bind, hagg, hj]
theorem run_eqItems_int {P : Program} {e : TypeId} {k : IntKind} (he : P.underlying e = some (.int k)) (d : Nat) (as bs : List Int) (hl : as.length = bs.length) (w : World) :
    ∀ (m j : Nat), j + m = as.length → (Op.eqItems (d + 1) e 1 (as.map (Value.int k)).toArray (bs.map (Value.int k)).toArray (List.range' j m)).run P w = .ok (as.drop j == bs.drop j) w := by
  intro m
  induction m with
  | zero =>
    intro j hj
    rw [List.drop_of_length_le (by omega), List.drop_of_length_le (by omega)]
    simp [Op.eqItems]
  | succ m ih =>
    intro j hj
    have h1 : j < as.length := by omega
    have h2 : j < bs.length := by omega
    rw [List.range'_succ]
    simp only [Op.eqItems, Nat.mul_one, Sem.run_bind, run_part_int he as j h1 w, run_part_int he bs j h2 w, Result.andThen_ok, run_equalIn_int w d e k k _ _ he]
    have d1 := List.drop_eq_getElem_cons h1
    have d2 := List.drop_eq_getElem_cons h2
    rw [d1, d2]
    have e1 : as.getD j 0 = as[j] := by simp [h1]
    have e2 : bs.getD j 0 = bs[j] := by simp [h2]
    rw [e1, e2]
    by_cases h : as[j] = bs[j]
    · simp [h, ih (j + 1) (by omega), -List.getElem_cons_drop]
    · simp [h, -List.getElem_cons_drop]
theorem run_equalIn_arr_int {P : Program} {t e : TypeId} {n : Nat} {k : IntKind} (w : World) (d : Nat) (as bs : List Int) (hu : P.underlying t = some (.array n e)) (he : P.underlying e = some (.int k))
    (hi : (P.info? e).map (·.size) = some 1) (la : as.length = n) (lb : bs.length = n) :
    (Op.equalIn (d + 2) t (.agg (as.map (Value.int k)).toArray) (.agg (bs.map (Value.int k)).toArray)).run P w = .ok (as == bs) w := by
  have hs : P.cellsOf e = 1 := by unfold Program.cellsOf; rw [hi]; rfl
  obtain ⟨i, hi', _⟩ := Option.map_eq_some_iff.1 hi
  rw [run_equalIn_array w (d + 1) _ _ hu hi', hs, List.range_eq_range', run_eqItems_int he d as bs (by omega) w n 0 (by omega)]
  simp

/-- What the shell of a law says of a slice of bytes that came in, as the bytes that it reads as. -/
theorem Rd.of_row {w : World} {a : Option Addr} {len cap : Nat} {zs : List Int}
    (h : (a = none ∧ len = 0 ∧ cap = 0 ∧ zs = []) ∨ ∃ x, a = some x ∧ len ≤ cap ∧ cap ≤ maxLen ∧ zs.length = cap ∧ (∀ i, i < zs.length → w.cell? (x.add i) = some (.int .u8 (zs.getD i 0))) ∧ ∀ n ∈ zs, (Lit.int .u8 n).wf = true)
 : ∃ l, Rd w a len cap l := by
  rcases h with ⟨rfl, rfl, rfl, _⟩ | ⟨x, rfl, hl, hm, hz, hc, hwf⟩
  · exact ⟨[], Rd.nil w⟩
  · have hreach : cap ≤ 9223372036854775807 := by unfold maxLen at hm; omega
    by_cases h0 : len = 0
    · subst h0; exact ⟨[], rfl, Nat.zero_le _, hreach, .inl rfl⟩
    · obtain ⟨b, off, spot⟩ := x
      have hc0 := hc 0 (by omega)
      have hspot : spot = none := by simpa [Addr.add] using World.cell?_spot hc0
      subst hspot
      refine ⟨(zs.take len).map fun n => UInt8.ofNat n.toNat, ⟨by simp; omega, hl, hreach, .inr ⟨b, off, rfl, ?_, fun i hi => ?_⟩⟩⟩
      · have := World.block_lt_of_cell? w _ hc0
        simpa [Addr.add] using this
      · have hi' : i < zs.length := by omega
        have e := hc i hi'
        have hw := hwf (zs.getD i 0) (by rw [List.getD_eq_getElem?_getD, List.getElem?_eq_getElem hi']; simp)
        have hb : 0 ≤ zs.getD i 0 ∧ zs.getD i 0 ≤ 255 := by simpa [Lit.wf, IntKind.min, IntKind.max, IntKind.signed, IntKind.bits] using hw
        have e2 : ((((zs.take len).map fun n => UInt8.ofNat n.toNat).getD i 0).toNat : Int) = zs.getD i 0 := by
          rw [List.getD_eq_getElem?_getD, List.getElem?_map, List.getElem?_take, if_pos hi]
          have g : zs[i]? = some (zs.getD i 0) := by rw [List.getD_eq_getElem?_getD, List.getElem?_eq_getElem hi']; rfl
          rw [g]
          simp only [Option.map_some, Option.getD_some, UInt8.toNat_ofNat']
          omega
        rw [e2]
        have hadd : (⟨b, off, none⟩ : Addr).add i = ⟨b, off + i, none⟩ := by unfold Addr.add; split <;> simp_all
        rw [hadd] at e
        exact e
end Go.Proofs.Ytdefdccbcnpodaa
