import Derived.WalkKit
import Derived.ProofKit
import Derived.Below
import Derived.Carry
import Derived.Lib.Hide
import Derived.ChangeKeysEq
import Derived.Laws.Rows
import Derived.Laws.Entries
import Derived.Lib.AppendZeros
import Derived.Lib.AppendStr
import Derived.Laws.AppendOwn
import Derived.Laws.OwnMore
import Derived.Shelf.Bytes.SlEqualAll
import Derived.Deep.RegionLaw
import Derived.Test.YtofadpodlaakbaaGreatChecked
import Derived.Deep.QuietTactic
import Derived.RangeFuncNested
import Derived.RangeFuncBound
import Derived.RangeFuncCalls
import Derived.RangeFuncLeaves
import Derived.RangeFuncBox
import Derived.Maps.AppendAt
import Derived.Shelf.Abstract
import Derived.Shelf.RegionOpen
import Derived.OwnWalkIn
import Derived.TacticsInMore
import Derived.LoopNIn
import Derived.LoopIn
import Derived.Handy
import Derived.Outline
import Derived.WalkLawsBesides
import Derived.WalkSpells
import Derived.IntWalk
import Derived.BigQuiet
import Derived.WalkSmall
import Derived.Laws.Bits64b
import Derived.Deep.RegionWith
import Derived.Deep.DeepMust
import Derived.Great.BuildSlice
import Derived.Deep.MidRow
import Derived.Laws.IdiomCopy
/- Slices of bytes that are read, in plain words; small laws on worlds. No program in sight. -/
namespace Go.Proofs.YtofadpodlaakbaaGreat
open Go Go.RowKit
set_option linter.unusedVariables false
def B (c : UInt8) : Value := .int .u8 (c.toNat : Int)
structure Rd (w : World) (a : Option Addr) (n c : Nat) (l : List UInt8) : Prop where
 len : l.length = n
 le : n ≤ c
 cap : c ≤ 9223372036854775807
 cells : n = 0 ∨ ∃ b off, a = some ⟨b, off, none⟩ ∧ b < w.heap.size ∧ ∀ i, i < n → w.cell? ⟨b, off + i, none⟩ = some (.int .u8 ((l.getD i 0).toNat : Int))
theorem Rd.below {w w' : World} {a : Option Addr} {n c : Nat} {l : List UInt8} (h : Rd w a n c l) (hb : Below w.heap.size w w') : Rd w' a n c l := by
 refine ⟨h.len, h.le, h.cap, ?_⟩
 rcases h.cells with h0 | ⟨b, off, e, hlt, hc⟩
 ·exact .inl h0
 ·exact .inr ⟨b, off, e, Nat.lt_of_lt_of_le hlt hb.size, fun i hi => (hb.cell (p := ⟨b, off + i, none⟩) hlt).trans (hc i hi)⟩
theorem Rd.nil (w : World) : Rd w none 0 0 [] := ⟨rfl, Nat.le_refl _, by decide, .inl rfl⟩
theorem _root_.Go.RowKit.Below.step {w w' w'' : World} (h : Below w.heap.size w w') (h' : Below w'.heap.size w' w'') : Below w.heap.size w w'' :=
 h.trans (h'.mono h.size)
theorem u8_bd (c : UInt8) : 0 ≤ (c.toNat : Int) ∧ (c.toNat : Int) ≤ 255 := by have := c.toNat_lt; omega
theorem ret1 {k : IntKind} {a b : Int} (h : a = b) : Ending.returned (.int k a) = .returned (.int k b) := by rw [h]
theorem ret_i {k : IntKind} {a b : Int} {v : Value} (h : a = b) : Ending.returned (.tuple #[.int k a, v]) = .returned (.tuple #[.int k b, v]) := by rw [h]
theorem ret_ii {k k' : IntKind} {a b c d : Int} (h : a = b) (h' : c = d) : Ending.returned (.tuple #[.int k a, .int k' c]) = .returned (.tuple #[.int k b, .int k' d]) := by rw [h, h']
theorem retb {a b : Bool} (h : a = b) : Ending.returned (.bool a) = .returned (.bool b) := by rw [h]
theorem wrap_u64 (n : Int) : IntKind.u64.wrap n = n % 18446744073709551616 := by simp [IntKind.wrap, IntKind.bits, IntKind.signed]
theorem Rd.made (w : World) (l : List UInt8) (e : TypeId) (h : l.length ≤ 140737488351232) :
  Rd (w.alloc (.cells (l.map fun c => Value.int .u8 (c.toNat : Int)).toArray e)) (some ⟨w.heap.size, 0, none⟩) l.length l.length l := by
 refine ⟨rfl, Nat.le_refl _, by omega, .inr ⟨w.heap.size, 0, rfl, by simp, fun i hi => ?_⟩⟩
 rw [cell_of_row _ w.heap.size (0 + i) _ e (0, 0) (heap_alloc_new w _)]
 simp [hi]
theorem carry_cell {w v : World} {p : Addr} {x : Value} (h : w.cell? p = some x) (hb : Below w.heap.size w v) : v.cell? p = some x :=
 (hb.cell (block_lt_of_cell h)).trans h
theorem carry_alloc {w : World} {o : Obj} {p : Addr} {x : Value} (h : w.cell? p = some x) : (w.alloc o).cell? p = some x :=
 (World.cell?_alloc_lt w _ _ (block_lt_of_cell h)).trans h
theorem new_cell {w : World} {cs : Array Value} {t : TypeId} {i : Nat} {x : Value} (h : cs[i]? = some x) : (w.alloc (.cells cs t)).cell? ⟨w.heap.size, i, none⟩ = some x := by
 rw [cell_of_row _ w.heap.size i cs t (0, 0) (heap_alloc_new w _)]; exact h
/-! '==' of two arrays of whole numbers. -/
theorem run_part_int {P : Program} {e : TypeId} {k : IntKind} (he : P.underlying e = some (.int k)) (as0 : List Int) (j : Nat) (hj : j < as0.length) (w : World) :
  (part e (as0.map (Value.int k)).toArray j).run P w = .ok (.int k (as0.getD j 0)) w := by
 have hagg : (isAgg e).run P w = .ok false w := by
  unfold isAgg
  rw [Sem.run_bind, run_underlying he w]; rfl
 simp [part, Sem.run_bind, hagg, hj]
theorem run_eqItems_int {P : Program} {e : TypeId} {k : IntKind} (he : P.underlying e = some (.int k)) (d : Nat) (as0 bs : List Int) (hl : as0.length = bs.length) (w : World) :
  ∀ (m j : Nat), j + m = as0.length → (Op.eqItems (d + 1) e 1 (as0.map (Value.int k)).toArray (bs.map (Value.int k)).toArray (List.range' j m)).run P w = .ok (as0.drop j == bs.drop j) w := by
 intro m
 induction m with
 | zero =>
  intro j hj
  rw [List.drop_of_length_le (by omega), List.drop_of_length_le (by omega)]
  simp [Op.eqItems]
 | succ m ih =>
  intro j hj
  have h1 : j < as0.length := by omega
  have h2 : j < bs.length := by omega
  rw [List.range'_succ]
  simp only [Op.eqItems, Nat.mul_one, Sem.run_bind, run_part_int he as0 j h1 w, run_part_int he bs j h2 w, Result.andThen_ok, run_equalIn_int w d e k k _ _ he]
  have d1 := List.drop_eq_getElem_cons h1
  have d2 := List.drop_eq_getElem_cons h2
  rw [d1, d2]
  have e1 : as0.getD j 0 = as0[j] := by simp [h1]
  have e2 : bs.getD j 0 = bs[j] := by simp [h2]
  rw [e1, e2]
  by_cases h : as0[j] = bs[j]
  ·simp [h, ih (j + 1) (by omega), -List.getElem_cons_drop]
  ·simp [h, -List.getElem_cons_drop]
theorem run_equalIn_arr_int {P : Program} {t e : TypeId} {n : Nat} {k : IntKind} (w : World) (d : Nat) (as0 bs : List Int) (hu : P.underlying t = some (.array n e)) (he : P.underlying e = some (.int k))
  (hi : (P.info? e).map (·.size) = some 1) (la : as0.length = n) (lb : bs.length = n) :
  (Op.equalIn (d + 2) t (.agg (as0.map (Value.int k)).toArray) (.agg (bs.map (Value.int k)).toArray)).run P w = .ok (as0 == bs) w := by
 have hs : P.cellsOf e = 1 := by unfold Program.cellsOf; rw [hi]; rfl
 obtain ⟨i, hi', _⟩ := Option.map_eq_some_iff.1 hi
 rw [run_equalIn_array w (d + 1) _ _ hu hi', hs, List.range_eq_range', run_eqItems_int he d as0 bs (by omega) w n 0 (by omega)]
 simp
theorem Rd.of_row {w : World} {a : Option Addr} {len cap : Nat} {zs : List Int}
   (h : (a = none ∧ len = 0 ∧ cap = 0 ∧ zs = []) ∨ ∃ x, a = some x ∧ len ≤ cap ∧ cap ≤ maxLen ∧ zs.length = cap ∧ (∀ i, i < zs.length → w.cell? (x.add i) = some (.int .u8 (zs.getD i 0))) ∧ ∀ n ∈ zs, (Lit.int .u8 n).wf = true)
 : ∃ l, Rd w a len cap l := by
  rcases h with ⟨rfl, rfl, rfl, _⟩ | ⟨x, rfl, hl, hm, hz, hc, hwf⟩
  ·exact ⟨[], Rd.nil w⟩
  ·have hreach : cap ≤ 9223372036854775807 := by unfold maxLen at hm; omega
   by_cases h0 : len = 0
   ·subst h0; exact ⟨[], rfl, Nat.zero_le _, hreach, .inl rfl⟩
   ·obtain ⟨b, off, spot⟩ := x
    have hc0 := hc 0 (by omega)
    have hspot : spot = none := by simpa [Addr.add] using World.cell?_spot hc0
    subst hspot
    refine ⟨(zs.take len).map fun n => UInt8.ofNat n.toNat, ⟨by simp; omega, hl, hreach, .inr ⟨b, off, rfl, ?_, fun i hi => ?_⟩⟩⟩
    ·have := World.block_lt_of_cell? w _ hc0
     simpa [Addr.add] using this
    ·have hi' : i < zs.length := by omega
     have e := hc i hi'
     have hw := hwf (zs.getD i 0) (by rw [List.getD_eq_getElem?_getD, List.getElem?_eq_getElem hi']; simp)
     have hb : 0 ≤ zs.getD i 0 ∧ zs.getD i 0 ≤ 255 := by simpa [Lit.wf, IntKind.min, IntKind.max, IntKind.signed, IntKind.bits] using hw
     have e2 : ((((zs.take len).map fun n => UInt8.ofNat n.toNat).getD i 0).toNat : Int) = zs.getD i 0 := by
      rw [List.getD_eq_getElem?_getD, List.getElem?_map, List.getElem?_take, if_pos hi]
      have g : zs[i]? = some (zs.getD i 0) := by rw [List.getD_eq_getElem?_getD, List.getElem?_eq_getElem hi']; rfl
      rw [g]
      simp only [Option.map_some, Option.getD_some, UInt8.toNat_ofNat']
      omega
     rw [e2]
     have hadd : (⟨b, off, none⟩ : Addr).add i = ⟨b, off + i, none⟩ := by unfold Addr.add; split <;> simp_all
     rw [hadd] at e
     exact e
end Go.Proofs.YtofadpodlaakbaaGreat

/- Numbers and texts in bytes, in plain words: what the layer enc computes. No program in sight. -/
namespace Go.Proofs.YtofadpodlaakbaaGreat
open Go
set_option linter.unusedVariables false
def numL (n : Nat) : List UInt8 := if h : n > 127 then UInt8.ofNat (n % 128 + 128) :: numL (n / 128) else [UInt8.ofNat n]
termination_by n
decreasing_by omega
theorem numL_big {n : Nat} (h : n > 127) : numL n = UInt8.ofNat (n % 128 + 128) :: numL (n / 128) := by rw [numL]; simp [h]
theorem numL_small {n : Nat} (h : n ≤ 127) : numL n = [UInt8.ofNat n] := by rw [numL]; simp [show ¬ n > 127 by omega]
theorem numL_ne (n : Nat) : numL n ≠ [] := by
 by_cases h : n > 127
 ·rw [numL_big h]; simp
 ·rw [numL_small (by omega)]; simp
theorem numL_pos (n : Nat) : 0 < (numL n).length := List.length_pos_iff.2 (numL_ne n)
theorem numL_len (k : Nat) : ∀ n, n < 2 ^ (7 * k) → 0 < k → (numL n).length ≤ k := by
 induction k with
 | zero => intro n _ h; omega
 | succ k ih =>
  intro n hn _
  by_cases h : n > 127
  ·rw [numL_big h]
   have h2 : n / 128 < 2 ^ (7 * k) := by
    rw [Nat.div_lt_iff_lt_mul (by decide)]
    have : 2 ^ (7 * (k + 1)) = 2 ^ (7 * k) * 128 := by rw [show 7 * (k + 1) = 7 * k + 7 from by omega, Nat.pow_add]
    omega
   have hk : 0 < k := by
    rcases Nat.eq_zero_or_pos k with rfl | hk
    ·omega
    ·exact hk
   have := ih (n / 128) h2 hk
   simp only [List.length_cons]; omega
  ·rw [numL_small (by omega)]; simp
theorem numL_le10 (n : Nat) (h : n < 18446744073709551616) : (numL n).length ≤ 10 :=
 numL_len 10 n (Nat.lt_of_lt_of_le h (by decide)) (by decide)
theorem big_byte (m : Nat) : (UInt8.ofNat (m % 128 + 128)).toNat = m % 128 + 128 := by
 simp only [UInt8.toNat_ofNat']; omega
theorem small_byte (m : Nat) (h : m ≤ 127) : (UInt8.ofNat m).toNat = m := by
 simp only [UInt8.toNat_ofNat']; omega
theorem or128_all : ∀ x : Fin 256, bits .or .u8 ((x.val : Nat) : Int) 128 = ((x.val % 128 + 128 : Nat) : Int) := by decide +kernel
theorem or128 (m : Nat) : bits .or .u8 ((m : Int) % 256) 128 = ((UInt8.ofNat (m % 128 + 128)).toNat : Int) := by
 have h := or128_all ⟨m % 256, Nat.mod_lt _ (by decide)⟩
 simp only at h
 rw [big_byte, show ((m : Int) % 256) = ((m % 256 : Nat) : Int) from by omega, h]
 omega
def fold (n : Int) : Int := if 0 ≤ n then 2 * n else -2 * n - 1
def unfold' (m : Int) : Int := if m % 2 = 0 then m / 2 else -1 - m / 2
theorem fold_lo (n : Int) : 0 ≤ fold n := by unfold fold; split <;> omega
theorem fold_hi (n : Int) (h0 : -9223372036854775808 ≤ n) (h1 : n ≤ 9223372036854775807) : fold n ≤ 18446744073709551615 := by unfold fold; split <;> omega
theorem unfold_fold (n : Int) : unfold' (fold n) = n := by unfold unfold' fold; split <;> split <;> omega
theorem fold_unfold (m : Int) (h0 : 0 ≤ m) : fold (unfold' m) = m := by unfold unfold' fold; split <;> split <;> omega
theorem wrap_u64' (n : Int) : IntKind.u64.wrap n = n % 18446744073709551616 := by simp [IntKind.wrap, IntKind.bits, IntKind.signed]
theorem wrap_i64' (n : Int) : IntKind.i64.wrap n = if n % 18446744073709551616 ≥ 9223372036854775808 then n % 18446744073709551616 - 18446744073709551616 else n % 18446744073709551616 := by
 simp [IntKind.wrap, IntKind.bits, IntKind.signed]
theorem xor_zero_u64 (x : Int) (h0 : 0 ≤ x) (h1 : x ≤ 18446744073709551615) : bits .xor .u64 x 0 = x := by
 show IntKind.u64.wrap ((BitVec.ofInt 64 x ^^^ BitVec.ofInt 64 0).toNat : Nat) = x
 have : BitVec.ofInt 64 x ^^^ BitVec.ofInt 64 0 = BitVec.ofInt 64 x := by simp
 rw [this, wrap_u64', BitVec.toNat_ofInt]; omega
theorem xor_ones_u64 (x : Int) (h0 : 0 ≤ x) (h1 : x ≤ 18446744073709551615) : bits .xor .u64 x 18446744073709551615 = 18446744073709551615 - x := by
 show IntKind.u64.wrap ((BitVec.ofInt 64 x ^^^ BitVec.ofInt 64 18446744073709551615).toNat : Nat) = _
 have e : BitVec.ofInt 64 18446744073709551615 = BitVec.allOnes 64 := by decide
 rw [e, BitVec.xor_allOnes, BitVec.toNat_not, wrap_u64', BitVec.toNat_ofInt]; omega
theorem xor_zero_i64 (x : Int) (h0 : -9223372036854775808 ≤ x) (h1 : x ≤ 9223372036854775807) : bits .xor .i64 x 0 = x := by
 show IntKind.i64.wrap ((BitVec.ofInt 64 x ^^^ BitVec.ofInt 64 0).toNat : Nat) = x
 have : BitVec.ofInt 64 x ^^^ BitVec.ofInt 64 0 = BitVec.ofInt 64 x := by simp
 rw [this, wrap_i64', BitVec.toNat_ofInt]; split <;> omega
theorem xor_ones_i64 (x : Int) (h0 : -9223372036854775808 ≤ x) (h1 : x ≤ 9223372036854775807) : bits .xor .i64 x (-1) = -1 - x := by
 show IntKind.i64.wrap ((BitVec.ofInt 64 x ^^^ BitVec.ofInt 64 (-1)).toNat : Nat) = _
 have e : BitVec.ofInt 64 (-1) = BitVec.allOnes 64 := by decide
 rw [e, BitVec.xor_allOnes, BitVec.toNat_not, wrap_i64', BitVec.toNat_ofInt]; split <;> omega
theorem and1_u64 (x : Int) (h0 : 0 ≤ x) (h1 : x ≤ 18446744073709551615) : bits .and .u64 x 1 = x % 2 := by
 show IntKind.u64.wrap ((BitVec.ofInt 64 x &&& BitVec.ofInt 64 1).toNat : Nat) = _
 have e : (BitVec.ofInt 64 1).toNat = 2 ^ 1 - 1 := by decide
 rw [BitVec.toNat_and, e, Nat.and_two_pow_sub_one_eq_mod, wrap_u64', BitVec.toNat_ofInt]; omega
end Go.Proofs.YtofadpodlaakbaaGreat

/- Slices of bytes that are owned, read, appended to, cut and made texts of: small laws over any program. -/
namespace Go.Proofs.YtofadpodlaakbaaGreat
open Go Go.RowKit
set_option linter.unusedVariables false
variable {P : Program}
def S (l : List UInt8) : Value := .string ⟨l.toArray⟩
theorem toList_bytes (l : List UInt8) : ByteArray.toList ⟨l.toArray⟩ = l := by rw [Lib.toList_data]
theorem Rd.bytesIn {w : World} {a : Option Addr} {n c : Nat} {l : List UInt8} (h : Rd w a n c l) : Lib.BytesIn w a n (l.map fun c => (c.toNat : Int)) := by
 intro hn
 rcases h.cells with h0 | ⟨b, off, e, _, hc⟩
 ·omega
 ·refine ⟨b, off, e, fun i hi => ?_⟩
  rw [hc i hi]
  have hl : i < l.length := by have := h.len; omega
  simp [hl]
theorem strOfNums_bytes (l : List UInt8) : strOfNums (l.map fun c => (c.toNat : Int)) = ⟨l.toArray⟩ := by
 have h := Lib.strOfNums_toList (l.map fun c => (c.toNat : Int))
 have e : Lib.bytesOf (l.map fun c => (c.toNat : Int)) = l := by
  unfold Lib.bytesOf
  rw [List.map_map]
  conv => rhs; rw [← List.map_id l]
  refine List.map_congr_left fun c _ => ?_
  simp
 rw [e] at h
 have h2 := Lib.toList_data (strOfNums (l.map fun c => (c.toNat : Int)))
 rw [h] at h2
 generalize strOfNums (l.map fun c => (c.toNat : Int)) = s at h2 ⊢
 obtain ⟨d⟩ := s
 congr 1
 apply Array.ext'
 simpa using h2.symm
theorem Rd.str {w : World} {a : Option Addr} {n c : Nat} {l : List UInt8} (h : Rd w a n c l) (src e dst : TypeId) (hs : P.underlying src = some (.slice e)) (he : P.underlying e = some (.int .u8)) (hd : P.underlying dst = some .string) :
  (convert src dst (.slice a n c)).run P w = .ok (S l) w := by
 have := h.bytesIn.convert (P := P) (by rw [List.length_map]; exact h.len) c src e dst hs he hd
 rw [this, strOfNums_bytes]; rfl
theorem Rd.of_own {w : World} {base : Nat} {e : TypeId} {v : Value} {n : Nat} {l : List UInt8} (h : w.ownsRow base e 1 v n (l.map B)) : ∃ a c, v = .slice a n c ∧ Rd w a n c l := by
 have hl : l.length = n := by have := h.1; simpa using this
 rcases h.2 with ⟨rfl, rfl⟩ | ⟨g, cap, cur, rfl, _, hg, hn, hc, _, ht⟩
 ·exact ⟨none, 0, rfl, hl, Nat.le_refl _, by decide, .inl rfl⟩
 ·refine ⟨_, cap, rfl, hl, hn, by unfold maxLen at hc; omega, .inr ⟨g, 0, rfl, (Array.getElem?_eq_some_iff.1 hg).1, fun i hi => ?_⟩⟩
  have := h.cells (g := g) rfl i (B (l.getD i 0)) (by simp [show i < l.length by omega])
  have hadd : (⟨g, 0, none⟩ : Addr).add i = ⟨g, 0 + i, none⟩ := by unfold Addr.add; split <;> simp_all
  rw [hadd] at this; exact this
theorem Rd.part {w : World} {b off n c : Nat} {l : List UInt8} (h : Rd w (some ⟨b, off, none⟩) n c l) (i j : Nat) (hij : i ≤ j) (hj : j ≤ n) : Rd w (some ⟨b, off + i, none⟩) (j - i) (c - i) ((l.take j).drop i) := by
 refine ⟨?_, ?_, ?_, ?_⟩
 ·have := h.len; simp; omega
 ·have := h.le; omega
 ·have := h.cap; omega
 ·rcases h.cells with h0 | ⟨b', off', e, hlt, hc⟩
  ·exact .inl (by omega)
  ·simp only [Option.some.injEq, Addr.mk.injEq, and_true] at e
   obtain ⟨rfl, rfl⟩ := e
   refine .inr ⟨b, off + i, rfl, hlt, fun k hk => ?_⟩
   have := hc (i + k) (by omega)
   rw [Nat.add_assoc, this]
   have hl := h.len
   simp [show i + k < l.length by omega, show i + k < j by omega]
theorem Rd.front {w : World} {a : Option Addr} {n c : Nat} {l : List UInt8} (h : Rd w a n c l) (j : Nat) (hj : j ≤ n) : Rd w a j c (l.take j) := by
 refine ⟨by have := h.len; simp; omega, Nat.le_trans hj h.le, h.cap, ?_⟩
 rcases h.cells with h0 | ⟨b, off, e, hlt, hc⟩
 ·exact .inl (by omega)
 ·refine .inr ⟨b, off, e, hlt, fun k hk => ?_⟩
  rw [hc k (by omega)]
  have hl := h.len
  simp [show k < l.length by omega, hk]
theorem Rd.zero (w : World) (a : Option Addr) (c : Nat) (hc : c ≤ 9223372036854775807) : Rd w a 0 c [] := ⟨rfl, Nat.zero_le _, hc, .inl rfl⟩
theorem run_app {w : World} {base : Nat} {t ty e : TypeId} {i : TypeInfo} {z : Value} (ht : P.underlying t = some (.slice e)) (hi : P.info? e = some i) (hz : i.zero = some z) (hsize : i.size = 1) (hby : i.bytes = 1) (hzs : z.cells.size = 1)
  {v : Value} {n : Nat} {xs : List Value} (hown : w.ownsRow base e 1 v n xs) {a : Option Addr} {m c : Nat} {l : List UInt8} (hr : Rd w a m c l) (hac : a = none → c = 0)
  (h63 : n + m ≤ 140737488355328) (hbase : base ≤ w.heap.size) :
  ∃ v' w', (Builtin.append_ #[t, t] ty #[v, .slice a m c]).run P w = .ok v' w' ∧ w'.ownsRow base e 1 v' (n + m) (xs ++ l.map B) ∧ w.grownBy w' v.ownBlock := by
 have hl := hr.len
 cases a with
 | none =>
  have hm : m = 0 := by
   rcases hr.cells with h0 | ⟨b, off, e, _⟩
   ·exact h0
   ·cases e
  obtain rfl := hac rfl
  subst hm
  have : l = [] := List.eq_nil_of_length_eq_zero hl
  subst this
  exact ⟨v, w, run_append_owned_none (P := P) w base t ty e i 1 ht hi v n xs hown, by simpa using hown, ⟨rfl, rfl, rfl, Nat.le_refl _, fun _ _ _ => rfl⟩⟩
 | some ad =>
  obtain ⟨v', w', h1, h2, h3, _⟩ := run_append_own (P := P) w base t ty e i z 1 1 ht hi hz hsize hby hzs (by decide) v n xs hown ad m c (l.map B) (by simpa using hl) (by
   intro j u hu
   have hj : j < m := by have := (List.getElem?_eq_some_iff.1 hu).1; simpa [hl] using this
   rcases hr.cells with h0 | ⟨b, off, e, _, hc⟩
   ·omega
   ·cases e
    have hadd : (⟨b, off, none⟩ : Addr).add j = ⟨b, off + j, none⟩ := by unfold Addr.add; split <;> simp_all
    rw [hadd, hc j hj]
    have hjl : j < l.length := by omega
    rw [List.getElem?_map, List.getElem?_eq_getElem hjl] at hu
    simp only [Option.map_some, Option.some.injEq] at hu
    rw [← hu, List.getD_eq_getElem?_getD, List.getElem?_eq_getElem hjl]; rfl) (by
   intro u hu; obtain ⟨x, _, rfl⟩ := List.mem_map.1 hu; rfl) (by unfold maxLen; omega) (by omega) hbase
  exact ⟨v', w', h1, h2, h3⟩
theorem below_own {B0 : Nat} {w0 w w' : World} {e : TypeId} {v : Value} {n : Nat} {xs : List Value} (hb : Below B0 w0 w) (hown : w.ownsRow B0 e 1 v n xs) (hg : w.grownBy w' v.ownBlock) (hB : B0 ≤ w.heap.size) : Below B0 w0 w' :=
 hb.grown hg hB (fun k hk => (hown.lt k hk).1)
theorem ownsRow_mono {w : World} {base base' : Nat} {e : TypeId} {v : Value} {n : Nat} {xs : List Value} (h : w.ownsRow base e 1 v n xs) (hb : base' ≤ base) : w.ownsRow base' e 1 v n xs := by
 refine ⟨h.1, ?_⟩
 rcases h.2 with h2 | ⟨g, cap, cur, h2, hg, r⟩
 ·exact .inl h2
 ·exact .inr ⟨g, cap, cur, h2, Nat.le_trans hb hg, r⟩
theorem ownsRow_below {w w' : World} {base : Nat} {e : TypeId} {v : Value} {n : Nat} {xs : List Value} (h : w.ownsRow base e 1 v n xs) (hb : Below w.heap.size w w') : w'.ownsRow base e 1 v n xs := by
 refine ⟨h.1, ?_⟩
 rcases h.2 with h2 | ⟨g, cap, cur, h2, hg, hh, r⟩
 ·exact .inl h2
 ·exact .inr ⟨g, cap, cur, h2, hg, by rw [hb.block g (Array.getElem?_eq_some_iff.1 hh).1]; exact hh, r⟩
theorem step_app {ops : Array Oper} {o : Oper} {a : Act} {w : World} {K : Act → World → Prop} {Q : Exit → Act → World → Prop} {E : Prop}
  (hg : o.guard = none) (s x : Operand) (t : TypeId) (hop : o.op = Op.call { callee := Callee.builtin Builtin.append, args := #[s, x], argTypes := #[t, t] })
  {e : TypeId} {i : TypeInfo} {z : Value} (ht : P.underlying t = some (.slice e)) (hi : P.info? e = some i) (hz : i.zero = some z) (hsize : i.size = 1) (hby : i.bytes = 1) (hzs : z.cells.size = 1)
  (base : Nat) {v : Value} {n : Nat} {xs : List Value} (hs : a.eval s = v) (hown : w.ownsRow base e 1 v n xs) {ad : Option Addr} {m c : Nat} {l : List UInt8} (hx : a.eval x = .slice ad m c) (hr : Rd w ad m c l) (hac : ad = none → c = 0)
  (h63 : n + m ≤ 140737488355328) (hbase : base ≤ w.heap.size)
  (hK : ∀ v' w', w'.ownsRow base e 1 v' (n + m) (xs ++ l.map B) → w.grownBy w' v.ownBlock → K (a.put o.dst v') w') :
  if Region.wanted o (yielded ops a.tmps) = true then Oper.wp P o a w K Q else E := by
 have hw : Region.wanted o (yielded ops a.tmps) = true := by simp [Region.wanted, hg]
 rw [if_pos hw]
 obtain ⟨v', w', hrun, h1, h2⟩ := run_app (P := P) (ty := o.type) ht hi hz hsize hby hzs hown hr hac h63 hbase
 exact Lib.wp_append_run w s x t t hop v _ hs hx v' w' hrun (hK v' w' h1 h2)
end Go.Proofs.YtofadpodlaakbaaGreat

/- Slices of bytes of the call's own, as the contracts tell them; texts made of bytes. -/
namespace Go.Proofs.YtofadpodlaakbaaGreat
open Go Go.RowKit
set_option linter.unusedVariables false
theorem info_u8 : (Tryz.prog.info? 5).map (fun i => (i.zero, i.size, i.bytes)) = some (some (.int .u8 0), 1, 1) := by kernel_rfl
def OwnB (l : List UInt8) (w : World) (e : Ending) (w' : World) : Prop :=
 ∃ v, e = .returned v ∧ w'.ownsRow w.heap.size 5 1 v l.length (l.map B) ∧ Below w.heap.size w w'
theorem own_none {w : World} {base : Nat} {e : TypeId} {a : Option Addr} {n m c : Nat} {xs : List Value} (h : w.ownsRow base e 1 (.slice a n c) m xs) : a = none → c = 0 := by
 rintro rfl
 rcases h.2 with ⟨h1, _⟩ | ⟨g, cap, cur, h1, _⟩
 ·cases h1; rfl
 ·cases h1
end Go.Proofs.YtofadpodlaakbaaGreat

/- The walk of the iterator 'digits' of the layer enc, and of Num, which ranges over it. -/
namespace Go.Proofs.YtofadpodlaakbaaGreat
open Go Go.RowKit Go.Shelf
set_option linter.unusedVariables false
attribute [local go_sem] Oper.semAt_some
set_option maxRecDepth 100000 in
set_option maxHeartbeats 1000000 in
/-- What 'digits' hands to a body: the bytes of the number in its box, one by one; for every body that leaves the box alone and always goes on. -/
theorem digits_in (F : Fence) (n : Nat) (h6 : F.fn 71) (hro : F.round = none) (hn : 1 ≤ n) (l bx : Nat) (N : Nat) (hN : N < 18446744073709551616) (J : List UInt8 → World → Prop)
  (hJ : ∀ pre W v, J pre W → J pre (W.setCell ⟨bx, 0, none⟩ v))
  (hJz : ∀ pre W, J pre W → W.frozen? ⟨bx, 0, none⟩ = false)
  (hY : ∀ pre (x : UInt8) W, J pre W → pre.length < 10 → YieldAt F (n - 1) Tryz.prog l #[.int .u8 (x.toNat : Int)] W fun e W' =>
   e = .returned (.bool true) ∧ J (pre ++ [x]) W' ∧ W'.cell? ⟨bx, 0, none⟩ = W.cell? ⟨bx, 0, none⟩)
  (W : World) (hb : W.cell? ⟨bx, 0, none⟩ = some (.int .u64 (N : Int))) (h0 : J [] W) :
  CallsIn F n Tryz.prog 71 #[.func (.yield l) #[] #[], .pointer (some ⟨bx, 0, none⟩)] W fun e W' => (∃ v, e = .returned v) ∧ J (numL N) W' := by
 have hl10 := numL_le10 N hN
 refine callsIn_of_wp Tryz.func71 rfl h6 ?_ hro
 simp only [Tryz.ntmps71, List.size_toArray, List.length_cons, List.length_nil, Nat.reduceAdd, Nat.reduceSub, Array.replicate_succ, Array.replicate_zero, List.push_toArray, List.append_toArray, List.nil_append, List.cons_append]
 gi_wp2
 gi_loopw [3] (fun _ wr => ∃ (pre : List UInt8) (m : Nat), wr.cell? ⟨bx, 0, none⟩ = some (.int .u64 (m : Int)) ∧ m < 18446744073709551616 ∧ Hid (pre ++ numL m = numL N) ∧ J pre wr)
  (fun _ wr => match wr.cell? ⟨bx, 0, none⟩ with | some v => (intOf v).toNat | none => 0)
 case atStart => exact ⟨[], N, hb, hN, rfl, h0⟩
 case round =>
  obtain ⟨pre, m, hc, hm, HP, hj⟩ := hrel
  have hplen : pre.length < 10 := by
   have h2 := congrArg List.length HP.out
   simp only [List.length_append] at h2
   have := numL_pos m
   omega
  by_cases hbig : m > 127
  ·have hbig' : (127 : Int) < (m : Int) := by omega
   obtain ⟨fn, tmps, assign, body, hy, hR⟩ := hY pre (UInt8.ofNat (m % 128 + 128)) wr hj hplen
   rw [← or128 m] at hy
   have HP2 := Lib.hid (show (pre ++ [UInt8.ofNat (m % 128 + 128)]) ++ numL (m / 128) = numL N by rw [← HP.out, numL_big hbig]; simp)
   gi_wp2
   refine hR.mono ?_
   rintro e W3 ⟨rfl, hJ3, hk3⟩
   have hc3 : W3.cell? ⟨bx, 0, none⟩ = some (.int .u64 (m : Int)) := hk3.trans hc
   have hz3 := hJz _ _ hJ3
   gi_wp2
   have hs : (W3.setCell ⟨bx, 0, none⟩ (.int .u64 ((m : Int) / 128))).cell? ⟨bx, 0, none⟩ = some (.int .u64 ((m / 128 : Nat) : Int)) := by
    rw [World.cell?_setCell_same' _ _ _ (by rw [hc3]; rfl)]; rfl
   refine ⟨⟨pre ++ [UInt8.ofNat (m % 128 + 128)], m / 128, hs, by omega, HP2.out, hJ _ _ _ hJ3⟩, ?_⟩
   rw [hs, hc]
   simp only [intOf]
   omega
  ·have hbig' : ¬ (127 : Int) < (m : Int) := by omega
   obtain ⟨fn, tmps, assign, body, hy, hR⟩ := hY pre (UInt8.ofNat m) wr hj hplen
   rw [small_byte m (by omega)] at hy
   have HP2 := Lib.hid (show pre ++ [UInt8.ofNat m] = numL N by rw [← HP.out, numL_small (by omega)])
   gi_wp2
   refine hR.mono ?_
   rintro e W3 ⟨rfl, hJ3, hk3⟩
   gi_wp2
   go_end0
   exact ⟨⟨_, rfl⟩, by rw [← HP2.out]; exact hJ3⟩
theorem digits_make (F : Fence) (n : Nat) (hF2 : F.fn 49) (hro : F.round = none) (N : Int) (w : World) :
  CallsIn F n Tryz.prog 49 #[.int .u64 N] w fun e w' => e = .returned (.func (.func 71) #[] #[.pointer (some ⟨w.heap.size, 0, none⟩)]) ∧ w' = w.alloc (.cells #[.int .u64 N] 46) := by
 refine callsIn_of_wp Tryz.func49 rfl hF2 ?_ hro
 simp only [Tryz.ntmps49, List.size_toArray, List.length_cons, List.length_nil, Nat.reduceAdd, Nat.reduceSub, Array.replicate_succ, Array.replicate_zero, List.push_toArray, List.append_toArray, List.nil_append, List.cons_append]
 gi_wp2
 go_ret
 exact ⟨rfl, rfl⟩
def NumJ (w : World) (r : Loop) (pre : List UInt8) (W : World) : Prop :=
 (∃ v, Boxed W w.heap.size 28 v ∧ W.ownsRow w.heap.size 5 1 v pre.length (pre.map B)) ∧ (∃ m, Boxed W (w.heap.size + 1) 46 m) ∧ Below w.heap.size w W ∧
 W.heap[w.heap.size + 3]? = some (.loop r) ∧ W.heap[w.heap.size + 2]? = some (.deferred (some []))
theorem NumJ.store {w : World} {r : Loop} {pre : List UInt8} {W : World} (v : Value) (h : NumJ w r pre W) : NumJ w r pre (W.setCell ⟨w.heap.size + 1, 0, none⟩ v) := by
 obtain ⟨⟨u, hu, hr⟩, ⟨m, hm⟩, hb, h3, h2⟩ := h
 have hg := grownBy_setCell' W (w.heap.size + 1) v
 exact ⟨⟨u, hu.kept hg (by simp), hr.kept hg (.inr (hm.not_row (by decide) hr).symm)⟩, ⟨v, hm.set v⟩, hb.setCell (p := ⟨w.heap.size + 1, 0, none⟩) (by simp) v,
  (Below.heap_setCell _ _ _ _ (by simp)).trans h3, (Below.heap_setCell _ _ _ _ (by simp)).trans h2⟩
theorem NumJ.put {w : World} {r r' : Loop} {pre : List UInt8} {W : World} (h : NumJ w r pre W) : NumJ w r' pre (W.putObj (w.heap.size + 3) (.loop r')) := by
 obtain ⟨⟨u, hu, hr⟩, ⟨m, hm⟩, hb, h3, h2⟩ := h
 have hg := grownBy_putObj' W (w.heap.size + 3) (.loop r')
 exact ⟨⟨u, hu.kept hg (by simp), ownsRow_putObj hr _ h3 rfl⟩, ⟨m, hm.kept hg (by simp)⟩, hb.grown hg hb.size (fun k e => by cases e; omega),
  World.putObj_heap_same (Array.getElem?_eq_some_iff.1 h3).1, (World.putObj_heap_other (by omega)).trans h2⟩
def NumP (w : World) (r : Loop) (xs : List UInt8) (W : World) : Exit → Act → World → Prop
 | .normal, _, W' => NumJ w r xs W' ∧ W'.cell? ⟨w.heap.size + 1, 0, none⟩ = W.cell? ⟨w.heap.size + 1, 0, none⟩
 | _, _, _ => False
theorem range_digits (F : Fence) (n : Nat) (h6 : F.fn 71) (hro : F.round = none) (hn : 2 ≤ n) (N : Nat) (hN : N < 18446744073709551616) {g : Operand} {ps : Array Tmp} {assign body : Code} {Q : Exit → Act → World → Prop} {a : Act} (w W0 : World)
  (hs : W0.heap.size = w.heap.size + 2) (hg : a.eval g = .func (.func 71) #[] #[.pointer (some ⟨w.heap.size + 1, 0, none⟩)]) (hps : ps.size = 1)
  (h0 : ∀ r : Loop, NumJ w r [] ((W0.alloc (.deferred (some []))).alloc (.loop r))) (hbx : W0.cell? ⟨w.heap.size + 1, 0, none⟩ = some (.int .u64 (N : Int)))
  (a₁ : UInt8 → Act)
  (hasg : ∀ (x : UInt8) (W : World) (K : Act → World → Prop), K (a₁ x) W → assign.wpIn (F.inRound (w.heap.size + 3)) (n - 1 - 1) Tryz.prog (Exit.then K (fun _ _ _ => False)) { tmps := (ps.zip #[.int .u8 (x.toNat : Int)]).foldl (fun tmps (t, a) => tmps.setIfInBounds t a) a.tmps, defers := [] } W)
  (hbody : ∀ (r : Loop) (pre : List UInt8) (x : UInt8) (W : World), NumJ w r pre W → pre.length < 10 → body.wpIn (F.inRound (w.heap.size + 3)) (n - 1 - 1) Tryz.prog (NumP w r (pre ++ [x]) W) (a₁ x) W)
  (hdone : ∀ (r : Loop) (W : World), NumJ w r (numL N) W → Q .normal { a with defers := [{ target := .collected (w.heap.size + 2), args := #[] }] ++ a.defers } W) :
  (Code.rangeFunc g ps assign body).wpIn F n Tryz.prog Q a W0 := by
 refine wpIn_rangeFunc (fun fn hfn => ?_)
 obtain ⟨r, hr⟩ : ∃ r : Loop, r = { state := .ready, pending := none, fn := fn, tmps := a.tmps, params := ps, assign := assign, body := body, defers := w.heap.size + 2 } := ⟨_, rfl⟩
 have hst : r.state = .ready := by rw [hr]
 have hpe : r.pending = none := by rw [hr]
 refine ⟨w.heap.size + 3, [{ target := .collected (w.heap.size + 2), args := #[] }], (W0.alloc (.deferred (some []))).alloc (.loop r), { target := .fn (.func 71) #[.pointer (some ⟨w.heap.size + 1, 0, none⟩)], args := #[.func (.yield (w.heap.size + 3)) #[] #[]] }, (W0.alloc (.deferred (some []))).alloc (.loop r), 71,
  #[.func (.yield (w.heap.size + 3)) #[] #[]] ++ #[.pointer (some ⟨w.heap.size + 1, 0, none⟩)], (W0.alloc (.deferred (some []))).alloc (.loop r), ?_, ?_, ?_, ?_, fun _ => by omega, ?_⟩
 ·rw [hro, run_enterLoop_outer, hs, hr]
 ·simp only [resolve, hg]
  simp [go_sem]
 ·intro f' hf'; simp [Target.leads] at hf'; subst hf'; exact h6
 ·simp [invoke, go_sem]
 ·refine (digits_in F (n - 1) h6 hro (by omega) (w.heap.size + 3) (w.heap.size + 1) N hN (fun pre W => NumJ w r pre W) (fun pre W v h => h.store v) (fun pre W h => by obtain ⟨_, ⟨m, hm⟩, _⟩ := h; exact hm.frozen) ?_ _ (carry_alloc (carry_alloc hbx)) (h0 r)).mono ?_
  ·intro pre x W hj hlen
   have hl := hj.2.2.2.1
   have hy := run_yield (P := Tryz.prog) (args := #[.int .u8 (x.toNat : Int)]) hl (by rw [hr]; simp [hps])
   have hfn' : F.fn r.fn := by rw [hr]; exact hfn
   have ht : r.tmps = a.tmps := by rw [hr]
   have hp : r.params = ps := by rw [hr]
   have ha : r.assign = assign := by rw [hr]
   have hb : r.body = body := by rw [hr]
   rw [ht, hp, ha, hb] at hy
   refine ⟨r.fn, _, assign, body, hy, roundIn_of_wpIn hfn' (hasg x W _ ⟨_, run_beginRound hl hst, ?_⟩)⟩
   refine wpIn_mono (hbody _ pre x _ (hj.put (r' := { r with state := .busy })) hlen) ?_
   rintro e a3 W3 hp3
   cases e with
   | normal =>
    obtain ⟨hj3, hc3⟩ := hp3
    have hend := run_endRound (P := Tryz.prog) none hj3.2.2.2.1
    refine ⟨_, _, hend, rfl, ?_, ?_⟩
    ·have e1 : ({ ({ r with state := .busy } : Loop) with state := if (none : Option Code).isNone = true then .ready else .done, pending := none } : Loop) = r := by rw [hr]; rfl
     have h4 := hj3.put (r' := r)
     rw [← e1] at h4
     rw [e1] at h4 ⊢
     exact h4
    ·rw [World.cell?_of_block (World.putObj_heap_other (by simp)), hc3]
     exact World.cell?_of_block (World.putObj_heap_other (by simp))
   | ret => exact hp3.elim
   | exit id => exact hp3.elim
   | goto t => exact hp3.elim
   | panic ch => exact hp3.elim
   | outgrown => exact hp3.elim
  ·rintro e W2 ⟨⟨v, rfl⟩, hj⟩
   have hend := run_endLoop (P := Tryz.prog) hj.2.2.2.1 (by rw [hst]; simp)
   rw [hpe] at hend
   exact ⟨none, _, hend, hdone _ _ (hj.put (r' := { r with state := .exhausted, pending := none }))⟩
set_option maxRecDepth 100000 in
set_option maxHeartbeats 1000000 in
theorem num_in (F : Fence) (n : Nat) (hF1 : F.fn 18) (hF2 : F.fn 49) (h6 : F.fn 71) (hro : F.round = none) (hn : 2 ≤ n) (N : Nat) (hN : N < 18446744073709551616) (w : World) :
  CallsIn F n Tryz.prog 18 #[.int .u64 (N : Int)] w fun e w' => ∃ v, e = .returned v ∧ w'.ownsRow w.heap.size 5 1 v (numL N).length ((numL N).map B) ∧ Below w.heap.size w w' := by
 obtain ⟨i0, hi, hz0, hz1, hz2⟩ := info_parts info_u8
 refine callsIn_of_wp_marks Tryz.func18 rfl hF1 ?_ hro
 simp only [Tryz.ntmps18, List.size_toArray, List.length_cons, List.length_nil, Nat.reduceAdd, Nat.reduceSub, Array.replicate_succ, Array.replicate_zero, List.push_toArray, List.append_toArray, List.nil_append, List.cons_append]
 gi_wp2
 refine ⟨fun _ => by omega, ?_⟩
 refine (digits_make F (n - 1) hF2 hro _ _).mono ?_
 rintro e w1 ⟨rfl, rfl⟩
 gi_wp2
 have hl10 := numL_le10 N hN
 refine range_digits F n h6 hro hn N hN w _ (by simp) rfl rfl ?start ?box
  (fun x => { tmps := #[Value.int IntKind.u64 ↑N, undef, Value.slice none 0 0, Value.pointer (some { block := w.heap.size, off := 0 }), Value.int .u8 (x.toNat : Int), Value.int IntKind.u64 ↑N, Value.func (Fn.func 71) #[] #[Value.pointer (some { block := w.heap.size + 1, off := 0 })], Value.int .u8 (x.toNat : Int), undef, undef, undef, undef, undef], defers := [] }) ?asg ?body ?done
 case start =>
  intro r
  have e1 : ((w.alloc (Obj.cells #[Value.slice none 0 0] 28)).alloc (Obj.cells #[Value.int IntKind.u64 ↑N] 46)).heap.size = w.heap.size + 2 := by simp
  have b0 : Boxed (w.alloc (Obj.cells #[Value.slice none 0 0] 28)) w.heap.size 28 (Value.slice none 0 0) := Boxed.new w _ _
  have b1 := Boxed.new (w.alloc (Obj.cells #[Value.slice none 0 0] 28)) 46 (Value.int IntKind.u64 ↑N)
  rw [World.size_alloc] at b1
  refine ⟨⟨_, ((b0.alloc _).alloc _).alloc _, World.ownsRow_nil _ _ _ _⟩, ⟨_, (b1.alloc _).alloc _⟩, ((((Below.refl _ _).alloc (Nat.le_refl _) _).alloc (by simp) _).alloc (by simp; omega) _).alloc (by simp; omega) _, ?_, ?_⟩
  ·have := World.alloc_heap_new ((((w.alloc (Obj.cells #[Value.slice none 0 0] 28)).alloc (Obj.cells #[Value.int IntKind.u64 ↑N] 46)).alloc (.deferred (some [])))) (.loop r)
   simpa using this
  ·have := World.alloc_heap_new (((w.alloc (Obj.cells #[Value.slice none 0 0] 28)).alloc (Obj.cells #[Value.int IntKind.u64 ↑N] 46))) (.deferred (some []))
   rw [e1] at this
   exact (Below.heap_alloc _ _ _ (by simp)).trans this
 case box =>
  have b1 := Boxed.new (w.alloc (Obj.cells #[Value.slice none 0 0] 28)) 46 (Value.int IntKind.u64 ↑N)
  rw [World.size_alloc] at b1
  exact b1.cell
 case asg =>
  intro x W K hK
  gi_wp2
  exact hK
 case body =>
  rintro r pre x W ⟨⟨v, hv, hrow⟩, ⟨m, hm⟩, hB, h3, h2⟩ hlen
  have hv0 := hv.cell
  gi_wp2_with (gi_at_builtin; refine wpListIn_append_own _ rfl _ _ 28 rfl w.heap.size 5 i0 (.int .u8 0) 1 1 Tryz.underlying28 hi hz0 hz1 hz2 rfl (by decide) _ _ _ rfl (hrow.alloc _) ⟨W.heap.size, 0, none⟩ 1 1 [B x] rfl rfl (cell_one_new _ _ _) (by simp [Value.oneCell', B]) (by unfold maxLen; omega) (by omega) (by have := hB.size; simp; omega) ?_; intro v' w1 hown' hgrow _; obtain ⟨g', cap', rfl⟩ := ownsRow_succ hown'; obtain ⟨hv1, hv2, hr2, hk2, hb2⟩ := hv.appended (by decide) hrow hB.size (Nat.le_refl _) hown' hgrow; have hm1 : Boxed w1 (w.heap.size + 1) 46 m := (hm.alloc _).kept hgrow (hm.not_row (by decide) hrow); have hc1 := hv1.cell; have hf1 := hv1.frozen)
  have hm2 := hm1.kept (grownBy_setCell' w1 w.heap.size (.slice (some ⟨g', 0, none⟩) (pre.length + 1) cap')) (by simp)
  refine ⟨⟨⟨_, hv2, ?_⟩, ⟨m, hm2⟩, hB.trans hb2, hk2.same _ _ h3 rfl, hk2.same _ _ h2 rfl⟩, hm2.cell.trans hm.cell.symm⟩
  simpa using hr2
 case done =>
  rintro r W ⟨⟨v, hv, hrow⟩, ⟨m, hm⟩, hB, h3, h2⟩
  have hv0 := hv.cell
  gi_wp2
  refine ⟨by simp, .inl ⟨_, _, rfl, run_takeDeferred h2, ?_⟩⟩
  refine ⟨_, results_tmp rfl _ _ _, v, rfl, ownsRow_putObj hrow _ h2 rfl, ?_⟩
  exact hB.grown (grownBy_putObj' _ _ _) hB.size (fun k e => by cases e; omega)
end Go.Proofs.YtofadpodlaakbaaGreat

/- The walks of the layer enc and of its reference: what each function answers. -/
namespace Go.Proofs.YtofadpodlaakbaaGreat
open Go.ChangeShapes Go.WideShapes Go.ChangeAt Go.RowKit
set_option linter.unusedVariables false
theorem num_any (N : Nat) (hN : N < 18446744073709551616) (w : World) : Calls Tryz.prog 18 #[.int .u64 (N : Int)] w (OwnB (numL N) w) :=
 callsIn_wide.1 (num_in Fence.wide 2 trivial trivial trivial rfl (Nat.le_refl _) N hN w)
theorem fold_any (n : Int) (w : World) (h0 : -9223372036854775808 ≤ n) (h1 : n ≤ 9223372036854775807) :
  Calls Tryz.prog 51 #[.int .i64 n] w fun e w' => e = .returned (.int .u64 (fold n)) ∧ w = w' := by
 by_cases h : 0 ≤ n
 ·have e1 : n / 9223372036854775808 = 0 := by omega
  go_enter Tryz.func51, Tryz.ntmps51
  go_wp2
  go_ret
  exact ⟨ret1 (by rw [xor_zero_u64 _ (by omega) (by omega)]; unfold fold; rw [if_pos h]; omega), rfl⟩
 ·have e1 : n / 9223372036854775808 = -1 := by omega
  go_enter Tryz.func51, Tryz.ntmps51
  go_wp2
  go_ret
  refine ⟨ret1 ?_, rfl⟩
  have e2 : IntKind.u64.wrap (-1) = 18446744073709551615 := by decide
  rw [e2, wrap_u64 (_ * 2), wrap_u64, xor_ones_u64 _ (by omega) (by omega)]; unfold fold; rw [if_neg (by omega)]; omega
theorem fold_ref (n : Int) (w : World) (h0 : -9223372036854775808 ≤ n) (h1 : n ≤ 9223372036854775807) :
  Calls Tryz.prog 54 #[.int .i64 n] w fun e w' => e = .returned (.int .u64 (fold n)) ∧ w = w' := by
 by_cases h : 0 ≤ n
 ·go_enter Tryz.func54, Tryz.ntmps54
  go_wp2
  go_ret
  exact ⟨ret1 (by unfold fold; rw [if_pos h]), rfl⟩
 ·go_enter Tryz.func54, Tryz.ntmps54
  go_wp2
  go_ret
  exact ⟨ret1 (by unfold fold; rw [if_neg (by omega)]; omega), rfl⟩
theorem unfold_any (m : Int) (w : World) (h0 : 0 ≤ m) (h1 : m ≤ 18446744073709551615) :
  Calls Tryz.prog 99 #[.int .u64 m] w fun e w' => e = .returned (.int .i64 (unfold' m)) ∧ w = w' := by
 have e1 := and1_u64 m h0 h1
 by_cases h : m % 2 = 0
 ·have e2 : bits BinOp.and .u64 m 1 = 0 := by rw [e1, h]
  have H := Lib.hid h; clear h e1
  go_enter Tryz.func99, Tryz.ntmps99
  go_wp2
  go_ret
  exact ⟨ret1 (by rw [xor_zero_i64 _ (by omega) (by omega)]; unfold unfold'; rw [if_pos H.out]), rfl⟩
 ·have e2 : bits BinOp.and .u64 m 1 = 1 := by rw [e1]; omega
  have H := Lib.hid h; clear h e1
  go_enter Tryz.func99, Tryz.ntmps99
  go_wp2
  go_ret
  exact ⟨ret1 (by rw [xor_ones_i64 _ (by omega) (by omega)]; unfold unfold'; rw [if_neg H.out]), rfl⟩
theorem unfold_ref (m : Int) (w : World) (h0 : 0 ≤ m) (h1 : m ≤ 18446744073709551615) :
  Calls Tryz.prog 69 #[.int .u64 m] w fun e w' => e = .returned (.int .i64 (unfold' m)) ∧ w = w' := by
 by_cases h : m % 2 = 0
 ·have hb : (m % 2 == 0) = true := by simp [h]
  go_enter Tryz.func69, Tryz.ntmps69
  go_wp2
  go_ret
  exact ⟨ret1 (by unfold unfold'; rw [if_pos h]), rfl⟩
 ·have hb : (m % 2 == 0) = false := by simp [h]
  go_enter Tryz.func69, Tryz.ntmps69
  go_wp2
  go_ret
  exact ⟨ret1 (by unfold unfold'; rw [if_neg h]), rfl⟩
set_option maxHeartbeats 400000 in
theorem num_ref (N : Nat) (hN : N < 18446744073709551616) (w : World) : Calls Tryz.prog 22 #[.int .u64 (N : Int)] w (OwnB (numL N) w) := by
 obtain ⟨i0, hi, hz0, hz1, hz2⟩ := info_parts info_u8
 have hl10 := numL_le10 N hN
 go_enter Tryz.func22, Tryz.ntmps22
 go_wp2
 go_loopw [0, 3] (fun n v wr => ∃ (pre : List UInt8) (m : Nat), n = .int .u64 (m : Int) ∧ m < 18446744073709551616 ∧ Hid (pre ++ numL m = numL N) ∧ wr.ownsRow w.heap.size 5 1 v pre.length (pre.map B) ∧ Below w.heap.size w wr)
  (fun n _ _ => (intOf n).toNat)
 case atStart => exact ⟨[], N, rfl, hN, rfl, World.ownsRow_nil _ _ _ _, Below.refl _ _⟩
 case round =>
  obtain ⟨pre, m, rfl, hm, HP, hown, hB⟩ := hrel
  have hplen : pre.length < 10 := by
   have h2 := congrArg List.length HP.out
   simp only [List.length_append] at h2
   have := numL_pos m
   omega
  by_cases hbig : m > 127
  ·have hbig' : (127 : Int) < (m : Int) := by omega
   have HP2 := Lib.hid (show (pre ++ [UInt8.ofNat (m % 128 + 128)]) ++ numL (m / 128) = numL N by rw [← HP.out, numL_big hbig]; simp)
   have hbv : ((m : Int) % 128 + 128) = ((UInt8.ofNat (m % 128 + 128)).toNat : Int) := by rw [big_byte]; omega
   have HV := Lib.hid hbv; clear hbv
   go_wp2_with (at_builtin; refine wpList_append_own _ rfl _ _ 28 rfl w.heap.size 5 i0 (.int .u8 0) 1 1 Tryz.underlying28 hi hz0 hz1 hz2 rfl (by decide) _ _ _ rfl (hown.alloc _) ⟨wr.heap.size, 0, none⟩ 1 1 [B (UInt8.ofNat (m % 128 + 128))] rfl rfl (by have := HV.out; unfold B; rw [← this]; exact cell_one_new _ _ _) (by simp [Value.oneCell', B]) (by unfold maxLen; omega) (by omega) (by have := hB.size; simp; omega) ?_; intro v' w1 hown' hgrow _)
   go_roundw
   case rel => exact ⟨pre ++ [UInt8.ofNat (m % 128 + 128)], m / 128, by go_num, by omega, HP2.out, by simpa using hown', below_own (hB.alloc hB.size _) (hown.alloc _) hgrow (by have := hB.size; simp; omega)⟩
   case measure => simp [intOf]; omega
  ·have hbig' : ¬ (127 : Int) < (m : Int) := by omega
   have HP2 := Lib.hid (show pre ++ [UInt8.ofNat m] = numL N by rw [← HP.out, numL_small (by omega)])
   have HV := Lib.hid (show ((m : Int)) = ((UInt8.ofNat m).toNat : Int) by rw [small_byte m (by omega)])
   go_wp2_with (at_builtin; refine wpList_append_own _ rfl _ _ 28 rfl w.heap.size 5 i0 (.int .u8 0) 1 1 Tryz.underlying28 hi hz0 hz1 hz2 rfl (by decide) _ _ _ rfl (hown.alloc _) ⟨wr.heap.size, 0, none⟩ 1 1 [B (UInt8.ofNat m)] rfl rfl (by have := HV.out; unfold B; rw [← this]; exact cell_one_new _ _ _) (by simp [Value.oneCell', B]) (by unfold maxLen; omega) (by omega) (by have := hB.size; simp; omega) ?_; intro v' w1 hown' hgrow _)
   go_ret
   refine ⟨v', rfl, ?_, below_own (hB.alloc hB.size _) (hown.alloc _) hgrow (by have := hB.size; simp; omega)⟩
   rw [← HP2.out]; simpa using hown'
end Go.Proofs.YtofadpodlaakbaaGreat

/- What is put is got, and the other way round: numbers in bytes, in plain words. No program in sight. -/
namespace Go.Proofs.YtofadpodlaakbaaGreat
open Go
set_option linter.unusedVariables false
def getGo : List UInt8 → Nat → Nat → Nat × Nat
 | [], _, _ => (0, 0)
 | c :: r, i, n =>
  if i ≥ 10 then (0, 0)
  else if c.toNat ≥ 128 then getGo r (i + 1) (n + (c.toNat - 128) * 128 ^ i)
  else if (0 < i ∧ c.toNat = 0) ∨ (i = 9 ∧ 1 < c.toNat) then (0, 0) else (n + c.toNat * 128 ^ i, i + 1)
def getL (l : List UInt8) : Nat × Nat := getGo l 0 0
theorem getGo_ten (l : List UInt8) (i n : Nat) (h : 10 ≤ i) : getGo l i n = (0, 0) := by
 cases l with
 | nil => rfl
 | cons c r => rw [getGo, if_pos h]
theorem pow128 (k : Nat) : (128 : Nat) ^ k = 2 ^ (7 * k) := by rw [show (128 : Nat) = 2 ^ 7 from rfl, ← Nat.pow_mul]
theorem pow128_le {j k : Nat} (h : j ≤ k) : (128 : Nat) ^ j ≤ 128 ^ k := Nat.pow_le_pow_right (by decide) h
theorem getGo_put (r : List UInt8) (k : Nat) : ∀ (m i n : Nat), m < k → m * 128 ^ i < 18446744073709551616 → (0 < i → 0 < m) → i ≤ 9 →
  getGo (numL m ++ r) i n = (n + m * 128 ^ i, i + (numL m).length) := by
 induction k with
 | zero => intro m i n h; omega
 | succ k ih =>
  intro m i n hk hm hi h9
  by_cases hb : m > 127
  ·have h8 : i ≤ 8 := by
    rcases Nat.lt_or_ge i 9 with h | h
    ·omega
    ·exfalso
     have := pow128_le h
     have h2 : 128 * 128 ^ 9 ≤ m * 128 ^ i := Nat.mul_le_mul (by omega) this
     omega
   rw [numL_big hb, List.cons_append, getGo, if_neg (by omega), big_byte, if_pos (by omega)]
   have hd : m / 128 * 128 ^ (i + 1) ≤ m * 128 ^ i := by
    rw [Nat.pow_succ, ← Nat.mul_assoc, Nat.mul_right_comm]
    exact Nat.mul_le_mul_right _ (by omega)
   rw [ih (m / 128) (i + 1) _ (by omega) (by omega) (by omega) (by omega)]
   simp only [List.length_cons, Prod.mk.injEq]
   refine ⟨?_, by omega⟩
   rw [show m % 128 + 128 - 128 = m % 128 from by omega, Nat.pow_succ, Nat.add_assoc]
   congr 1
   rw [← Nat.mul_assoc, Nat.mul_right_comm, ← Nat.add_mul]
   congr 1
   omega
  ·have hs := small_byte m (by omega)
   rw [numL_small (by omega), List.cons_append, getGo, if_neg (by omega), hs, if_neg (by omega), if_neg ?_]
   ·simp
   ·rintro (⟨h1, h2⟩ | ⟨h1, h2⟩)
    ·have := hi h1; omega
    ·subst h1
     have : 2 * 128 ^ 9 ≤ m * 128 ^ 9 := Nat.mul_le_mul_right _ h2
     omega
theorem getL_put (N : Nat) (hN : N < 18446744073709551616) (r : List UInt8) : getL (numL N ++ r) = (N, (numL N).length) := by
 unfold getL; rw [getGo_put r (N + 1) N 0 0 (by omega) (by omega) (by omega) (by omega)]; simp
theorem getGo_got (l : List UInt8) : ∀ (i n m k : Nat), getGo l i n = (m, k) → k ≠ 0 → n < 128 ^ i →
  ∃ q, m = n + q * 128 ^ i ∧ k = i + (numL q).length ∧ numL q = l.take (k - i) ∧ (0 < i → 0 < q) ∧ m < 18446744073709551616 ∧ k ≤ 10 := by
 induction l with
 | nil => intro i n m k h hk; rw [getGo] at h; simp only [Prod.mk.injEq] at h; exact absurd h.2.symm hk
 | cons c r ih =>
  intro i n m k h hk hn
  rw [getGo] at h
  by_cases h10 : i ≥ 10
  ·rw [if_pos h10] at h; simp only [Prod.mk.injEq] at h; exact absurd h.2.symm hk
  rw [if_neg h10] at h
  have hc := c.toNat_lt
  by_cases hb : c.toNat ≥ 128
  ·rw [if_pos hb] at h
   have hn2 : n + (c.toNat - 128) * 128 ^ i < 128 ^ (i + 1) := by
    have : (c.toNat - 128) * 128 ^ i ≤ 127 * 128 ^ i := Nat.mul_le_mul_right _ (by omega)
    rw [Nat.pow_succ]; omega
   obtain ⟨q, h1, h2, h3, h4, h5, h6⟩ := ih (i + 1) _ m k h hk hn2
   have hq : q > 0 := h4 (by omega)
   have hbig : q * 128 + (c.toNat - 128) > 127 := by omega
   have hnum : numL (q * 128 + (c.toNat - 128)) = c :: numL q := by
    rw [numL_big hbig]
    have e1 : (q * 128 + (c.toNat - 128)) / 128 = q := by omega
    have e2 : (q * 128 + (c.toNat - 128)) % 128 + 128 = c.toNat := by omega
    rw [e1, e2]; simp
   refine ⟨q * 128 + (c.toNat - 128), ?_, ?_, ?_, fun _ => by omega, h5, h6⟩
   ·rw [h1, Nat.pow_succ, Nat.add_mul, ← Nat.mul_assoc, Nat.mul_right_comm q 128]; omega
   ·rw [hnum, List.length_cons]; omega
   ·rw [hnum, h3, show k - i = (k - (i + 1)) + 1 from by omega, List.take_succ_cons]
  ·rw [if_neg hb] at h
   by_cases hz : (0 < i ∧ c.toNat = 0) ∨ (i = 9 ∧ 1 < c.toNat)
   ·rw [if_pos hz] at h; simp only [Prod.mk.injEq] at h; exact absurd h.2.symm hk
   ·rw [if_neg hz] at h
    simp only [Prod.mk.injEq] at h
    obtain ⟨h1, h2⟩ := h
    have hs : numL c.toNat = [c] := by rw [numL_small (by omega)]; simp
    refine ⟨c.toNat, h1.symm, by rw [hs]; simp; omega, by rw [hs, show k - i = 1 from by omega]; simp, fun h0 => ?_, ?_, by omega⟩
    ·have : ¬ (c.toNat = 0) := fun e => hz (.inl ⟨h0, e⟩)
     omega
    ·rcases Nat.lt_or_ge i 9 with h9 | h9
     ·have e1 : (128 : Nat) ^ i ≤ 128 ^ 8 := pow128_le (by omega)
      have : c.toNat * 128 ^ i ≤ 127 * 128 ^ 8 := Nat.mul_le_mul (by omega) e1
      omega
     ·have hi9 : i = 9 := by omega
      subst hi9
      have h1c : c.toNat ≤ 1 := by
       rcases Nat.lt_or_ge 1 c.toNat with h | h
       ·exact absurd (.inr ⟨rfl, h⟩) hz
       ·exact h
      have : c.toNat * 128 ^ 9 ≤ 1 * 128 ^ 9 := Nat.mul_le_mul_right _ h1c
      omega
theorem getL_got {l : List UInt8} {m k : Nat} (h : getL l = (m, k)) (hk : k ≠ 0) : numL m = l.take k ∧ k = (numL m).length ∧ m < 18446744073709551616 ∧ k ≤ 10 := by
 obtain ⟨q, h1, h2, h3, _, h5, h6⟩ := getGo_got l 0 0 m k h hk (by decide)
 simp at h1
 subst h1
 exact ⟨by simpa using h3, by omega, h5, h6⟩
theorem getGo_none (l : List UInt8) : ∀ i n, (getGo l i n).2 = 0 → getGo l i n = (0, 0) := by
 induction l with
 | nil => intro i n _; rfl
 | cons c r ih =>
  intro i n h
  rw [getGo] at h ⊢
  by_cases h1 : i ≥ 10
  ·rw [if_pos h1]
  ·rw [if_neg h1] at h ⊢
   by_cases h2 : c.toNat ≥ 128
   ·rw [if_pos h2] at h ⊢; exact ih _ _ h
   ·rw [if_neg h2] at h ⊢
    by_cases h3 : (0 < i ∧ c.toNat = 0) ∨ (i = 9 ∧ 1 < c.toNat)
    ·rw [if_pos h3]
    ·rw [if_neg h3] at h; simp at h
theorem getL_none {l : List UInt8} (h : (getL l).2 = 0) : getL l = (0, 0) := getGo_none l 0 0 h
theorem getL_lt (l : List UInt8) : (getL l).1 < 18446744073709551616 := by
 by_cases h : (getL l).2 = 0
 ·rw [getL_none h]; decide
 ·exact (getL_got (l := l) (m := (getL l).1) (k := (getL l).2) rfl h).2.2.1
theorem getL_le10 (l : List UInt8) : (getL l).2 ≤ 10 := by
 by_cases h : (getL l).2 = 0
 ·omega
 ·exact (getL_got (l := l) (m := (getL l).1) (k := (getL l).2) rfl h).2.2.2
theorem getL_le (l : List UInt8) : (getL l).2 ≤ l.length := by
 by_cases h : (getL l).2 = 0
 ·omega
 ·obtain ⟨h1, h2, _⟩ := getL_got (l := l) (m := (getL l).1) (k := (getL l).2) rfl h
  have := congrArg List.length h1
  simp only [List.length_take] at this
  omega
def valN : List UInt8 → Nat
 | [] => 0
 | c :: r => c.toNat % 128 + 128 * valN r
theorem valN_snoc (l : List UInt8) (c : UInt8) : valN (l ++ [c]) = valN l + 128 ^ l.length * (c.toNat % 128) := by
 induction l with
 | nil => simp [valN]
 | cons d r ih => simp only [List.cons_append, valN, ih, List.length_cons, Nat.pow_succ]; rw [Nat.mul_add, Nat.add_assoc, Nat.mul_right_comm, Nat.mul_comm _ 128, ← Nat.mul_assoc]
theorem valN_numL (k : Nat) : ∀ m, m < k → valN (numL m) = m := by
 induction k with
 | zero => intro m h; omega
 | succ k ih =>
  intro m h
  by_cases hb : m > 127
  ·rw [numL_big hb, valN, big_byte, ih (m / 128) (by omega)]; omega
  ·rw [numL_small (by omega), valN, valN, small_byte m (by omega)]; omega
theorem numL_bytes (k : Nat) : ∀ m, m < k → ∀ i, i < (numL m).length → (((numL m).getD i 0).toNat < 128 ↔ i + 1 = (numL m).length) := by
 induction k with
 | zero => intro m h; omega
 | succ k ih =>
  intro m h i hi
  by_cases hb : m > 127
  ·rw [numL_big hb] at hi ⊢
   cases i with
   | zero =>
    have := numL_pos (m / 128)
    rw [List.getD_cons_zero, big_byte]; simp only [List.length_cons]; omega
   | succ i =>
    simp only [List.length_cons] at hi ⊢
    rw [List.getD_cons_succ, ih (m / 128) (by omega) i (by omega)]; omega
  ·rw [numL_small (by omega)] at hi ⊢
   simp at hi
   subst hi
   simp only [List.getD_cons_zero, small_byte m (by omega : m ≤ 127)]; simp; omega
theorem getD_take (l : List UInt8) (k i : Nat) (h : i < k) : (l.take k).getD i 0 = l.getD i 0 := by
 rw [List.getD_eq_getElem?_getD, List.getD_eq_getElem?_getD, List.getElem?_take, if_pos h]
theorem getL_by (l : List UInt8) (k : Nat) (hk : k < l.length) (h10 : k < 10) (hall : ∀ i, i < k → (l.getD i 0).toNat ≥ 128) (hlast : (l.getD k 0).toNat < 128) :
  getL l = if numL (valN (l.take (k + 1)) % 18446744073709551616) = l.take (k + 1) then (valN (l.take (k + 1)) % 18446744073709551616, k + 1) else (0, 0) := by
 by_cases h : numL (valN (l.take (k + 1)) % 18446744073709551616) = l.take (k + 1)
 ·rw [if_pos h]
  have e := getL_put (valN (l.take (k + 1)) % 18446744073709551616) (Nat.mod_lt _ (by decide)) (l.drop (k + 1))
  rw [h, List.take_append_drop] at e
  rw [e]; simp; omega
 ·rw [if_neg h]
  by_cases h0 : (getL l).2 = 0
  ·exact getL_none h0
  ·exfalso
   obtain ⟨h1, h2, h3, h4⟩ := getL_got (l := l) (m := (getL l).1) (k := (getL l).2) rfl h0
   have hj : (getL l).2 = k + 1 := by
    generalize hg : (getL l).2 = j at *
    generalize (getL l).1 = m at *
    have hb := numL_bytes (m + 1) m (by omega)
    rw [← h2, h1] at hb
    rcases Nat.lt_trichotomy j (k + 1) with hlt | rfl | hgt
    ·exfalso
     have := (hb (j - 1) (by omega)).2 (by omega)
     rw [getD_take _ _ _ (by omega)] at this
     have := hall (j - 1) (by omega)
     omega
    ·rfl
    ·exfalso
     have hb2 := hb k (by omega)
     rw [getD_take _ _ _ (by omega)] at hb2
     have := hb2.1 hlast
     omega
   rw [hj] at h1
   apply h
   rw [← h1, valN_numL _ _ (Nat.lt_succ_self _), Nat.mod_eq_of_lt h3]
theorem getL_no (l : List UInt8) (h : ∀ i, i < l.length → i < 10 → (l.getD i 0).toNat ≥ 128) : getL l = (0, 0) := by
 by_cases h0 : (getL l).2 = 0
 ·exact getL_none h0
 ·exfalso
  obtain ⟨h1, h2, h3, h4⟩ := getL_got (l := l) (m := (getL l).1) (k := (getL l).2) rfl h0
  have hle := getL_le l
  generalize (getL l).2 = j at *
  generalize (getL l).1 = m at *
  have hb := numL_bytes (m + 1) m (by omega)
  rw [← h2, h1] at hb
  have := (hb (j - 1) (by omega)).2 (by omega)
  rw [getD_take _ _ _ (by omega)] at this
  have := h (j - 1) (by omega) (by omega)
  omega
end Go.Proofs.YtofadpodlaakbaaGreat

/- The walks of Get, of the layer enc and of its reference. -/
namespace Go.Proofs.YtofadpodlaakbaaGreat
open Go.ChangeShapes Go.WideShapes Go.ChangeAt Go.RowKit
set_option linter.unusedVariables false
theorem and127_all : ∀ x : Fin 256, bits .and .u8 ((x.val : Nat) : Int) 127 = ((x.val % 128 : Nat) : Int) := by decide +kernel
theorem and128_all : ∀ x : Fin 256, bits .and .u8 ((x.val : Nat) : Int) 128 = if x.val ≥ 128 then 128 else 0 := by decide +kernel
theorem and127 (c : UInt8) : bits .and .u8 (c.toNat : Int) 127 = ((c.toNat % 128 : Nat) : Int) := and127_all ⟨c.toNat, c.toNat_lt⟩
theorem and128 (c : UInt8) : bits .and .u8 (c.toNat : Int) 128 = if c.toNat ≥ 128 then 128 else 0 := and128_all ⟨c.toNat, c.toNat_lt⟩
theorem or_u64_lo (x y : Int) : 0 ≤ bits .or .u64 x y := by
 show 0 ≤ IntKind.u64.wrap _
 rw [wrap_u64]; omega
theorem or_u64_hi (x y : Int) : bits .or .u64 x y ≤ 18446744073709551615 := by
 show IntKind.u64.wrap _ ≤ _
 rw [wrap_u64]; omega
theorem or_shift (acc k x : Nat) (hk : k ≤ 9) (h : acc < 128 ^ k) (hx : x * 128 ^ k < 18446744073709551616) :
  bits .or .u64 (acc : Int) (IntKind.u64.wrap ((x : Int) * 2 ^ (7 * k))) = ((acc + x * 128 ^ k : Nat) : Int) := by
 have e1 : ((x : Int) * 2 ^ (7 * k)) = ((x * 128 ^ k : Nat) : Int) := by rw [pow128]; push_cast; rfl
 have hac : acc < 18446744073709551616 := Nat.lt_of_lt_of_le h (Nat.le_trans (pow128_le hk) (by decide))
 rw [e1, wrap_u64, Int.emod_eq_of_lt (by omega) (by omega), bits_or_u64_nat _ _ hac hx]
 congr 1
 rw [pow128] at h ⊢
 rw [Nat.mul_comm x, Nat.or_comm, ← Nat.two_pow_add_eq_or_of_lt h, Nat.add_comm]
theorem getGo_cons {l : List UInt8} {k : Nat} {x : UInt8} (h : k < l.length) (hx : l.getD k 0 = x) (acc : Nat) : getGo (l.drop k) k acc = getGo (x :: l.drop (k + 1)) k acc := by
 rw [List.drop_eq_getElem_cons h]
 have : l[k] = x := by rw [← hx]; simp [h]
 rw [this]
set_option maxHeartbeats 800000 in
theorem get_some (n c m : Nat) (l : List UInt8) (w : World) (b off : Nat) (hnc : n ≤ c) (hcap : c ≤ 9223372036854775807) (hl : n ≤ 140737488351232) (hln : l.length = n)
  (hm1 : m ≤ n) (hm2 : m ≤ 10) (hm3 : m = n ∨ m = 10)
  (hc : ∀ i, i < n → w.cell? ⟨b, off + i, none⟩ = some (.int .u8 ((l.getD i 0).toNat : Int))) :
  Calls Tryz.prog 86 #[.slice (some ⟨b, off, none⟩) n c] w fun e w' => e = .returned (.tuple #[.int .u64 ((getL l).1 : Int), .int .i64 ((getL l).2 : Int)]) ∧ w = w' := by
 have HC := Lib.hid hc; clear hc
 have HL := Lib.hid hln; clear hln
 have hmin : min (n : Int) 10 = (m : Int) := by omega
 have hmax : max (m : Int) 0 = (m : Int) := by omega
 have HM := Lib.hid hm3; clear hm3
 go_enter Tryz.func86, Tryz.ntmps86
 go_wp2
 clear hmin hmax
 go_loop [4, 13] (fun nv kv => ∃ (k acc : Nat) (q : Int), k ≤ m ∧ kv = .int .i64 (k : Int) ∧ nv = .int .u64 q ∧ 0 ≤ q ∧ q ≤ 18446744073709551615 ∧ Hid (k ≤ 9 → q = acc ∧ acc < 128 ^ k) ∧ Hid (getGo (l.drop k) k acc = getL l))
  (fun _ kv => m - (intOf kv).toNat)
 case atStart => exact ⟨0, 0, 0, Nat.zero_le _, rfl, rfl, Int.le_refl _, by decide, (fun _ => ⟨rfl, by decide⟩ : 0 ≤ 9 → (0 : Int) = (0 : Nat) ∧ 0 < 128 ^ 0), (rfl : getGo (l.drop 0) 0 0 = getL l)⟩
 case round =>
  obtain ⟨k, acc, q, hk, rfl, rfl, q0, q1, HQ, HG⟩ := hrel
  by_cases hlt : k < m
  ·have hcell := HC.out k (by omega)
   obtain ⟨x, hx⟩ : ∃ x, l.getD k 0 = x := ⟨_, rfl⟩
   rw [hx] at hcell
   have HX := Lib.hid (getGo_cons (l := l) (by have := HL.out; omega) hx acc); clear hx
   obtain ⟨x0, x1⟩ := u8_bd x
   have h127 := and127 x
   have h128 := and128 x
   have o1 := or_u64_lo q (IntKind.u64.wrap (((x.toNat % 128 : Nat) : Int) * 2 ^ (7 * k)))
   have o2 := or_u64_hi q (IntKind.u64.wrap (((x.toNat % 128 : Nat) : Int) * 2 ^ (7 * k)))
   by_cases hbig : x.toNat ≥ 128
   ·rw [if_pos hbig] at h128
    have HN := Lib.hid (show getGo (l.drop (k + 1)) (k + 1) (acc + (x.toNat - 128) * 128 ^ k) = getL l by
     rw [← HG.out, HX.out, getGo, if_neg (by omega), if_pos hbig])
    have HQ2 := Lib.hid (show k + 1 ≤ 9 → bits .or .u64 q (IntKind.u64.wrap (((x.toNat : Int) % 128) * 2 ^ (7 * k))) = ((acc + (x.toNat - 128) * 128 ^ k : Nat) : Int) ∧ acc + (x.toNat - 128) * 128 ^ k < 128 ^ (k + 1) by
     intro h9
     obtain ⟨e1, e2⟩ := HQ.out (by omega)
     have e3 : ((x.toNat : Int) % 128) = ((x.toNat - 128 : Nat) : Int) := by omega
     have e4 : (x.toNat - 128) * 128 ^ k < 128 ^ (k + 1) := by rw [Nat.pow_succ, Nat.mul_comm (128 ^ k)]; exact Nat.mul_lt_mul_of_pos_right (by omega) (Nat.pow_pos (by decide))
     have e5 : (128 : Nat) ^ (k + 1) ≤ 128 ^ 9 := Nat.pow_le_pow_right (by decide) h9
     rw [e1, e3, or_shift acc k _ (by omega) e2 (by omega)]
     refine ⟨rfl, ?_⟩
     have : (x.toNat - 128) * 128 ^ k ≤ 127 * 128 ^ k := Nat.mul_le_mul_right _ (by omega)
     rw [Nat.pow_succ]; omega)
    go_wp2
    exact ⟨⟨k + 1, _, _, by omega, by go_num, rfl, o1, o2, HQ2.out, HN.out⟩, by simp [intOf]; omega⟩
   ·rw [if_neg hbig] at h128
    by_cases hz : 0 < k ∧ x.toNat = 0
    ·have HN := Lib.hid (show getL l = (0, 0) by rw [← HG.out, HX.out, getGo, if_neg (by omega), if_neg hbig, if_pos (.inl hz)])
     obtain ⟨hz1, hz2⟩ := hz
     have hz3 : ((x.toNat : Int) == 0) = true := by simp [hz2]
     go_wp2
     go_ret2
     rw [HN.out]; exact ⟨rfl, rfl⟩
    ·by_cases h9 : k = 9 ∧ 1 < x.toNat
     ·have HN := Lib.hid (show getL l = (0, 0) by rw [← HG.out, HX.out, getGo, if_neg (by omega), if_neg hbig, if_pos (.inr h9)])
      obtain ⟨hz1, hz2⟩ := h9
      have hz3 : ((x.toNat : Int) == 0) = false := by simp; omega
      have hz4 : ((k : Int) == 9) = true := by simp; omega
      have hz5 : (1 : Int) < (x.toNat : Int) := by omega
      have hz6 : 0 < k := by omega
      clear hz1
      go_wp2
      go_ret2
      rw [HN.out]; exact ⟨rfl, rfl⟩
     ·have HN := Lib.hid (show getL l = (acc + x.toNat * 128 ^ k, k + 1) by rw [← HG.out, HX.out, getGo, if_neg (by omega), if_neg hbig, if_neg (by rintro (h | h) <;> contradiction)])
      have HQ2 := Lib.hid (show bits .or .u64 q (IntKind.u64.wrap (((x.toNat : Int) % 128) * 2 ^ (7 * k))) = ((acc + x.toNat * 128 ^ k : Nat) : Int) by
       obtain ⟨e1, e2⟩ := HQ.out (by omega)
       have e3 : ((x.toNat : Int) % 128) = ((x.toNat : Nat) : Int) := by omega
       have e4 : x.toNat * 128 ^ k < 18446744073709551616 := by
        by_cases hk9 : k = 9
        ·subst hk9
         have : x.toNat ≤ 1 := by omega
         have : x.toNat * 128 ^ 9 ≤ 1 * 128 ^ 9 := Nat.mul_le_mul_right _ this
         omega
        ·have e6 : (128 : Nat) ^ k ≤ 128 ^ 8 := Nat.pow_le_pow_right (by decide) (by omega)
         have : x.toNat * 128 ^ k ≤ 127 * 128 ^ 8 := Nat.mul_le_mul (by omega) e6
         omega
       rw [e1, e3, or_shift acc k _ (by omega) e2 e4])
      have fin : ∀ w' : World, Ending.returned (.tuple #[.int .u64 (bits .or .u64 q (IntKind.u64.wrap (((x.toNat : Int) % 128) * 2 ^ (7 * k)))), .int .i64 ((k : Int) + 1)]) = .returned (.tuple #[.int .u64 ((getL l).1 : Int), .int .i64 ((getL l).2 : Int)]) := fun _ => by
       rw [HN.out]; exact ret_ii HQ2.out (by simp)
      have FIN := Lib.hid fin; clear fin
      rcases Nat.eq_zero_or_pos k with hk0 | hk0
      ·have hk1 : ¬ 0 < k := by omega
       have hz4 : ((k : Int) == 9) = false := by simp; omega
       clear hk0
       go_wp2
       go_ret2
       exact ⟨FIN.out w, rfl⟩
      ·have hz3 : ((x.toNat : Int) == 0) = false := by simp; omega
       by_cases hk9 : k = 9
       ·have hz4 : ((k : Int) == 9) = true := by simp; omega
        have hz5 : ¬ (1 : Int) < (x.toNat : Int) := by omega
        clear hk9
        go_wp2
        go_ret2
        exact ⟨FIN.out w, rfl⟩
       ·have hz4 : ((k : Int) == 9) = false := by simp; omega
        go_wp2
        go_ret2
        exact ⟨FIN.out w, rfl⟩
  ·have HN := Lib.hid (show getL l = (0, 0) by
    rw [← HG.out]
    rcases HM.out with h | h
    ·rw [List.drop_of_length_le (by have := HL.out; omega)]; rfl
    ·exact getGo_ten _ _ _ (by omega))
   go_wp2
   go_ret2
   rw [HN.out]; exact ⟨rfl, by trivial⟩
theorem get_zero (a : Option Addr) (c : Nat) (w : World) (hcap : c ≤ 9223372036854775807) :
  Calls Tryz.prog 86 #[.slice a 0 c] w fun e w' => e = .returned (.tuple #[.int .u64 0, .int .i64 0]) ∧ w = w' := by
 cases a with
 | none =>
  go_enter Tryz.func86, Tryz.ntmps86
  go_wp2
  go_rounds 1
  go_ret2
  exact ⟨rfl, rfl⟩
 | some ad =>
  go_enter Tryz.func86, Tryz.ntmps86
  go_wp2
  go_rounds 1
  go_ret2
  exact ⟨rfl, rfl⟩
theorem get_any (a : Option Addr) (n c : Nat) (l : List UInt8) (w : World) (hr : Rd w a n c l) (hl : n ≤ 140737488351232) :
  Calls Tryz.prog 86 #[.slice a n c] w fun e w' => e = .returned (.tuple #[.int .u64 ((getL l).1 : Int), .int .i64 ((getL l).2 : Int)]) ∧ w = w' := by
 rcases Nat.eq_zero_or_pos n with h0 | h0
 ·subst h0
  have : l = [] := List.eq_nil_of_length_eq_zero hr.len
  subst this
  exact get_zero a c w hr.cap
 ·rcases hr.cells with h | ⟨b, off, rfl, _, hc⟩
  ·omega
  ·exact get_some n c (min n 10) l w b off hr.le hr.cap hl hr.len (by omega) (by omega) (by omega) hc
end Go.Proofs.YtofadpodlaakbaaGreat

/- The walk of Get of the layer enc's reference. -/
namespace Go.Proofs.YtofadpodlaakbaaGreat
open Go.ChangeShapes Go.WideShapes Go.ChangeAt Go.RowKit
set_option linter.unusedVariables false
theorem valN_step (l : List UInt8) (k : Nat) (x : UInt8) (hk : k < l.length) (hx : l.getD k 0 = x) : valN (l.take (k + 1)) = valN (l.take k) + 128 ^ k * (x.toNat % 128) := by
 have e : l.take (k + 1) = l.take k ++ [x] := by
  rw [List.take_succ_eq_append_getElem hk]
  have : l[k] = x := by rw [← hx]; simp [hk]
  rw [this]
 rw [e, valN_snoc]
 rw [List.length_take, Nat.min_eq_left (by omega)]
def M64 : Nat := 18446744073709551616
theorem wrap_M64 (n : Int) : IntKind.u64.wrap n = n % (M64 : Int) := wrap_u64 n
theorem ref_step (V P y q p : Nat) (hq : q = V % M64) (hp : p = P % M64) :
  IntKind.u64.wrap ((q : Int) + IntKind.u64.wrap ((p : Int) * (y : Int))) = (((V + P * y) % M64 : Nat) : Int) := by
 rw [wrap_M64, wrap_M64]
 have e : (V + P * y) % M64 = (q + (p * y) % M64) % M64 := by
  rw [hq, hp, Nat.add_mod V, Nat.mul_mod P y, Nat.mul_mod (P % M64) y, Nat.mod_mod]
 rw [e, Int.natCast_emod, Int.natCast_add, Int.natCast_emod, Int.natCast_mul]
theorem place_step (p k : Nat) (hp : p = 128 ^ k % M64) : IntKind.u64.wrap ((p : Int) * 128) = ((128 ^ (k + 1) % M64 : Nat) : Int) := by
 have e : 128 ^ (k + 1) % M64 = (p * 128) % M64 := by rw [hp, Nat.pow_succ, Nat.mod_mul_mod]
 rw [wrap_M64, e, Int.natCast_emod, Int.natCast_mul]; rfl
theorem getL_by' (l : List UInt8) (k N : Nat) (hN : N = valN (l.take (k + 1)) % M64) (hk : k < l.length) (h10 : k < 10) (hall : ∀ i, i < k → (l.getD i 0).toNat ≥ 128) (hlast : (l.getD k 0).toNat < 128) :
  getL l = if numL N = l.take (k + 1) then (N, k + 1) else (0, 0) := by
 rw [hN]; exact getL_by l k hk h10 hall hlast
set_option maxRecDepth 100000 in
set_option maxHeartbeats 1000000 in
theorem get_ref_some (n c : Nat) (l : List UInt8) (w : World) (b off : Nat) (hnc : n ≤ c) (hcap : c ≤ 9223372036854775807) (hl : n ≤ 140737488351232) (hln : l.length = n) (hrd : Rd w (some ⟨b, off, none⟩) n c l) (hpos : 0 < n)
  (hc : ∀ i, i < n → w.cell? ⟨b, off + i, none⟩ = some (.int .u8 ((l.getD i 0).toNat : Int))) :
  Calls Tryz.prog 68 #[.slice (some ⟨b, off, none⟩) n c] w fun e w' => e = .returned (.tuple #[.int .u64 ((getL l).1 : Int), .int .i64 ((getL l).2 : Int)]) ∧ Below w.heap.size w w' := by
 have HC := Lib.hid hc; clear hc
 have HL := Lib.hid hln; clear hln
 go_enter Tryz.func68, Tryz.ntmps68
 go_wp2
 go_loop [4, 5, 6] (fun nv pv kv => ∃ (k q p : Nat), k ≤ n ∧ k ≤ 10 ∧ kv = .int .i64 (k : Int) ∧ nv = .int .u64 (q : Int) ∧ pv = .int .u64 (p : Int) ∧ q < 18446744073709551616 ∧ p < 18446744073709551616 ∧
   Hid (q = valN (l.take k) % M64) ∧ Hid (p = 128 ^ k % M64) ∧ Hid (∀ i, i < k → (l.getD i 0).toNat ≥ 128))
  (fun _ _ kv => 10 - (intOf kv).toNat)
 case atStart => exact ⟨0, 0, 1, Nat.zero_le _, by decide, rfl, rfl, rfl, by decide, by decide, (rfl : 0 = 0 % M64), (rfl : 1 = 128 ^ 0 % M64), (fun i h => by omega : ∀ i, i < 0 → (l.getD i 0).toNat ≥ 128)⟩
 case round =>
  obtain ⟨k, q, p, hk, hk10, rfl, rfl, rfl, hq, hp, HQ, HP, HA⟩ := hrel
  by_cases hlt : k < n ∧ k < 10
  ·obtain ⟨hlt, hlt2⟩ := hlt
   have hcell := HC.out k hlt
   obtain ⟨x, hx⟩ : ∃ x, l.getD k 0 = x := ⟨_, rfl⟩
   rw [hx] at hcell
   have hstep := valN_step l k x (by have := HL.out; omega) hx
   obtain ⟨x0, x1⟩ := u8_bd x
   have hr := ref_step (valN (l.take k)) (128 ^ k) (x.toNat % 128) q p HQ.out HP.out
   rw [← hstep, show ((x.toNat % 128 : Nat) : Int) = (x.toNat : Int) % 128 from by omega] at hr
   have hN : valN (l.take (k + 1)) % M64 < 18446744073709551616 := Nat.mod_lt _ (by decide)
   have HX := Lib.hid hx; clear hx
   obtain ⟨N, hNe⟩ : ∃ N, N = valN (l.take (k + 1)) % M64 := ⟨_, rfl⟩
   rw [← hNe] at hr hN
   have HN := Lib.hid hNe; clear hNe hstep
   by_cases hbig : x.toNat ≥ 128
   ·have hbig' : ¬ (x.toNat : Int) < 128 := by omega
    have HA2 := Lib.hid (show ∀ i, i < k + 1 → (l.getD i 0).toNat ≥ 128 by
     intro i hi
     by_cases e : i = k
     ·rw [e, HX.out]; exact hbig
     ·exact HA.out i (by omega))
    obtain ⟨p2, hp2⟩ : ∃ p2, p2 = 128 ^ (k + 1) % M64 := ⟨_, rfl⟩
    have hpl : p2 < 18446744073709551616 := by rw [hp2]; exact Nat.mod_lt _ (by decide)
    have hpw := place_step p k HP.out
    rw [← hp2] at hpw
    have HP2 := Lib.hid hp2; clear hp2
    go_wp2
    exact ⟨⟨k + 1, N, p2, by omega, by omega, by go_num, rfl, rfl, hN, hpl, HN.out, HP2.out, HA2.out⟩, by simp [intOf]; omega⟩
   ·have hbig' : (x.toNat : Int) < 128 := by omega
    have HB := Lib.hid (getL_by' l k N HN.out (by have := HL.out; omega) hlt2 HA.out (by rw [HX.out]; omega))
    have hpart : ∀ W : World, Below w.heap.size w W → (convert 28 9 (.slice (some ⟨b, off, none⟩) (k + 1) c)).run Tryz.prog W = .ok (.string ⟨(l.take (k + 1)).toArray⟩) W := by
     intro W hW
     have := ((hrd.below hW).part 0 (k + 1) (by omega) (by omega)).str (P := Tryz.prog) 28 5 9 Tryz.underlying28 Tryz.underlying5 Tryz.underlying9
     simpa [S] using this
    have htl := toList_bytes
    have HT := Lib.hid hpart; clear hpart
    have hs0 := HT.out w.drew ((Below.refl _ _).drew)
    have HF : getL l = (0, 0) ∨ getL l = (N, k + 1) := by
     rw [HB.out]; split
     ·exact .inr rfl
     ·exact .inl rfl
    cases he : (numL N == l.take (k + 1)) with
    | true =>
     have he2 : numL N = l.take (k + 1) := by simpa using he
     have HB2 := Lib.hid (HB.out.trans (if_pos he2)); clear he2 HF
     go_wp2
     have j1 : (k : Int) + 1 ≤ (c : Int) := by omega
     have j2 : (0 : Int) ≤ (k : Int) + 1 := by omega
     have j3 : IntKind.i64.wrap ((k : Int) + 1) = (k : Int) + 1 := IntWalk.i64_in _ (by omega)
     have j4 : ((k : Int) + 1).toNat = k + 1 := by omega
     go_region_with ((go_at_call 22; refine (num_ref N hN _).mono ?_; rintro e w1 ⟨v, rfl, hown, hb⟩; obtain ⟨a', c', rfl, hrd'⟩ := Rd.of_own hown; have hs1 := hrd'.str (P := Tryz.prog) 28 5 9 Tryz.underlying28 Tryz.underlying5 Tryz.underlying9; unfold S at hs1; have hs2 := HT.out w1 (Below.step ((Below.refl _ w).drew) hb)))
     all_goals
      clear j3 j4 j1 j2
      go_wp2
      go_ret2
      refine ⟨?_, Below.step ((Below.refl _ w).drew) hb⟩
      rw [HB2.out]; exact ret_ii rfl (by simp)
    | false =>
     have he2 : ¬ numL N = l.take (k + 1) := by simpa using he
     have HB2 := Lib.hid (HB.out.trans (if_neg he2)); clear he2 HF
     go_wp2
     have j1 : (k : Int) + 1 ≤ (c : Int) := by omega
     have j2 : (0 : Int) ≤ (k : Int) + 1 := by omega
     have j3 : IntKind.i64.wrap ((k : Int) + 1) = (k : Int) + 1 := IntWalk.i64_in _ (by omega)
     have j4 : ((k : Int) + 1).toNat = k + 1 := by omega
     go_region_with ((go_at_call 22; refine (num_ref N hN _).mono ?_; rintro e w1 ⟨v, rfl, hown, hb⟩; obtain ⟨a', c', rfl, hrd'⟩ := Rd.of_own hown; have hs1 := hrd'.str (P := Tryz.prog) 28 5 9 Tryz.underlying28 Tryz.underlying5 Tryz.underlying9; unfold S at hs1; have hs2 := HT.out w1 (Below.step ((Below.refl _ w).drew) hb)))
     all_goals
      clear j3 j4 j1 j2
      go_wp2
      go_ret2
      refine ⟨?_, Below.step ((Below.refl _ w).drew) hb⟩
      rw [HB2.out]; rfl
  ·have HN := Lib.hid (getL_no l (fun i h1 h2 => HA.out i (by have := HL.out; omega)))
   by_cases hkn : k < n
   ·have hk9 : ¬ k < 10 := by omega
    clear hlt
    go_wp2
    go_ret2
    exact ⟨by rw [HN.out]; rfl, Below.refl _ _⟩
   ·clear hlt
    go_wp2
    go_ret2
    exact ⟨by rw [HN.out]; rfl, Below.refl _ _⟩
theorem get_ref_zero (a : Option Addr) (c : Nat) (w : World) (hcap : c ≤ 9223372036854775807) :
  Calls Tryz.prog 68 #[.slice a 0 c] w fun e w' => e = .returned (.tuple #[.int .u64 0, .int .i64 0]) ∧ w = w' := by
 go_enter Tryz.func68, Tryz.ntmps68
 go_wp2
 go_rounds 1
 go_ret2
 exact ⟨rfl, rfl⟩
theorem get_ref (a : Option Addr) (n c : Nat) (l : List UInt8) (w : World) (hr : Rd w a n c l) (hl : n ≤ 140737488351232) :
  Calls Tryz.prog 68 #[.slice a n c] w fun e w' => e = .returned (.tuple #[.int .u64 ((getL l).1 : Int), .int .i64 ((getL l).2 : Int)]) ∧ Below w.heap.size w w' := by
 rcases Nat.eq_zero_or_pos n with h0 | h0
 ·subst h0
  have : l = [] := List.eq_nil_of_length_eq_zero hr.len
  subst this
  exact (get_ref_zero a c w hr.cap).mono fun e w' ⟨he, hw⟩ => ⟨he, hw ▸ Below.refl _ _⟩
 ·rcases hr.cells with h | ⟨b, off, rfl, _, hc⟩
  ·omega
  ·exact get_ref_some n c l w b off hr.le hr.cap hl hr.len hr h0 hc
end Go.Proofs.YtofadpodlaakbaaGreat

/- The walks of Text, Cut and bytes.Clone, of the layer enc and of its reference. -/
namespace Go.Proofs.YtofadpodlaakbaaGreat
open Go.ChangeShapes Go.WideShapes Go.ChangeAt Go.RowKit
set_option linter.unusedVariables false
def txtL (l : List UInt8) : List UInt8 := numL l.length ++ l
theorem strCells_B (s : ByteArray) : Lib.strCells s = s.data.toList.map B := rfl
set_option maxHeartbeats 400000 in
theorem text_any (s : ByteArray) (w : World) (hs : s.size ≤ 140737488351232) : Calls Tryz.prog 21 #[.string s] w (OwnB (txtL s.data.toList) w) := by
 obtain ⟨i0, hi, hz0, hz1, hz2⟩ := info_parts info_u8
 have hl10 := numL_le10 s.size (by omega)
 have hsz : s.data.toList.length = s.size := by rw [Array.length_toList]; rfl
 have HS := Lib.hid hsz; clear hsz
 go_enter Tryz.func21, Tryz.ntmps21
 go_wp2_with fail
 refine (num_any s.size (by omega) _).mono ?_
 rintro e w1 ⟨v, rfl, hown, hb⟩
 go_wp2_with (at_builtin; refine Lib.wpList_append_own_string _ rfl _ _ 28 9 rfl w.heap.size 5 i0 Tryz.underlying28 Tryz.underlying9 hi hz0 hz1 hz2 _ _ _ rfl hown s rfl (by unfold maxLen; omega) (by omega) hb.size ?_; intro v' w2 hown' hgrow _)
 go_ret
 refine ⟨v', rfl, ?_, below_own hb hown hgrow hb.size⟩
 rw [strCells_B, ← List.map_append] at hown'
 have e : (txtL s.data.toList) = numL s.size ++ s.data.toList := by unfold txtL; rw [HS.out]
 rw [e, List.length_append, HS.out]; exact hown'
set_option maxHeartbeats 400000 in
theorem text_ref (s : ByteArray) (w : World) (hs : s.size ≤ 140737488351232) : Calls Tryz.prog 26 #[.string s] w (OwnB (txtL s.data.toList) w) := by
 obtain ⟨i0, hi, hz0, hz1, hz2⟩ := info_parts info_u8
 have hl10 := numL_le10 s.size (by omega)
 have hsz : s.data.toList.length = s.size := by rw [Array.length_toList]; rfl
 have HS := Lib.hid hsz; clear hsz
 go_enter Tryz.func26, Tryz.ntmps26
 go_wp2_with fail
 refine (num_ref s.size (by omega) _).mono ?_
 rintro e w1 ⟨v, rfl, hown, hb⟩
 go_wp2_with (at_builtin; refine Lib.wpList_append_own_string _ rfl _ _ 28 9 rfl w.heap.size 5 i0 Tryz.underlying28 Tryz.underlying9 hi hz0 hz1 hz2 _ _ _ rfl hown s rfl (by unfold maxLen; omega) (by omega) hb.size ?_; intro v' w2 hown' hgrow _)
 go_ret
 refine ⟨v', rfl, ?_, below_own hb hown hgrow hb.size⟩
 rw [strCells_B, ← List.map_append] at hown'
 have e : (txtL s.data.toList) = numL s.size ++ s.data.toList := by unfold txtL; rw [HS.out]
 rw [e, List.length_append, HS.out]; exact hown'
set_option maxHeartbeats 400000 in
theorem clone_any (a : Option Addr) (n c : Nat) (l : List UInt8) (w : World) (hr : Rd w a n c l) (hac : a = none → c = 0) (hn : n ≤ 140737488351232) : Calls Tryz.prog 41 #[.slice a n c] w (OwnB l w) := by
 obtain ⟨i0, hi, hz0, hz1, hz2⟩ := info_parts info_u8
 have hl := hr.len
 have q22 : ∀ (w : World) (a : Option Addr) (n c n' c' : Nat), (binOp .eql 28 (.slice a n c) (.slice none n' c')).run Tryz.prog w = .ok (.bool a.isNone) w := fun w a n c n' c' => Lib.run_eql_slice_nil w _ _ a n c n' c' Tryz.underlying28
 cases a with
 | none =>
  have hm : n = 0 := by
   rcases hr.cells with h0 | ⟨b, off, e, _⟩
   ·exact h0
   ·cases e
  subst hm
  have : l = [] := List.eq_nil_of_length_eq_zero hl
  subst this
  clear hr hac hl
  go_enter Tryz.func41, Tryz.ntmps41
  go_wp2
  go_ret
  exact ⟨_, rfl, World.ownsRow_nil _ _ _ _, Below.refl _ _⟩
 | some ad =>
  obtain ⟨v', w', hrun, hown, hg⟩ := run_app (P := Tryz.prog) (ty := 28) Tryz.underlying28 hi hz0 hz1 hz2 rfl (World.ownsRow_made w #[] 0 (Nat.le_refl _) (Nat.zero_le _) rfl) (hr.below ((Below.refl _ _).alloc (Nat.le_refl _) (.cells #[] 5))) (fun h => by cases h) (by omega) (by simp)
  have HO := Lib.hid hown; have HG := Lib.hid hg; have HL := Lib.hid hl
  have HRUN := Lib.hid hrun
  clear hown hg hrun hl hr hac
  go_enter Tryz.func41, Tryz.ntmps41
  go_wp2_with (at_builtin; refine Lib.wpList_append_run _ rfl _ _ _ _ rfl _ _ rfl rfl _ _ HRUN.out ?_)
  go_ret
  refine ⟨v', rfl, ?_, ?_⟩
  ·have := HO.out
   rw [HL.out]; simpa using this
  ·exact below_own ((Below.refl _ w).alloc (Nat.le_refl _) (.cells #[] 5)) (World.ownsRow_made w #[] 0 (Nat.le_refl _) (Nat.zero_le _) rfl) HG.out (by simp)
end Go.Proofs.YtofadpodlaakbaaGreat

/- The walks of Cut, of the layer enc and of its reference. -/
namespace Go.Proofs.YtofadpodlaakbaaGreat
open Go.ChangeShapes Go.WideShapes Go.ChangeAt Go.RowKit
set_option linter.unusedVariables false
def cutIs (l : List UInt8) (most : Int) : Bool := decide (¬ ((getL l).2 = 0 ∨ most < 0 ∨ most < ((getL l).1 : Int) ∨ ((l.length : Int) - (getL l).2 < (getL l).1)))
def cutT (l : List UInt8) (most : Int) : List UInt8 := if cutIs l most = true then (l.drop (getL l).2).take (getL l).1 else []
def cutR (l : List UInt8) (most : Int) : List UInt8 := if cutIs l most = true then (l.drop (getL l).2).drop (getL l).1 else []
def CutP (l : List UInt8) (most : Int) (w : World) (e : Ending) (w' : World) : Prop :=
 ∃ v, e = .returned (.tuple #[.string ⟨(cutT l most).toArray⟩, v, .bool (cutIs l most)]) ∧ w'.ownsRow w.heap.size 5 1 v (cutR l most).length ((cutR l most).map B) ∧ Below w.heap.size w w'
theorem cutP_none {l : List UInt8} {most : Int} {w w' : World} (h : cutIs l most = false) (hb : Below w.heap.size w w') : CutP l most w (.returned (.tuple #[.string ⟨#[]⟩, .slice none 0 0, .bool false])) w' := by
 refine ⟨.slice none 0 0, ?_, ?_, hb⟩
 ·unfold cutT; rw [h]; rfl
 ·unfold cutR; rw [h]; exact World.ownsRow_nil _ _ _ _
set_option maxHeartbeats 1000000 in
theorem cut_none (a : Option Addr) (n c : Nat) (l : List UInt8) (most : Int) (w : World) (hr : Rd w a n c l) (hn : n ≤ 140737488351232) (m0 : -9223372036854775808 ≤ most) (m1 : most ≤ 9223372036854775807) (h : cutIs l most = false) :
  Calls Tryz.prog 87 #[.slice a n c, .int .i64 most] w (CutP l most w) := by
 have hd : (getL l).2 = 0 ∨ most < 0 ∨ most < ((getL l).1 : Int) ∨ ((l.length : Int) - (getL l).2 < (getL l).1) := by
  exact Classical.not_not.1 (of_decide_eq_false h)
 have hg := get_any a n c l w hr hn
 have hlt := getL_lt l
 have h10 := getL_le10 l
 have hle := getL_le l
 have hl := hr.len
 have HC := Lib.hid h; clear h
 rw [hl] at hd hle
 have HL := Lib.hid hl; clear hl
 generalize (getL l).1 = g1 at *
 generalize (getL l).2 = g2 at *
 have HG := Lib.hid hg; clear hg hr
 have hd' : g2 = 0 ∨ (¬ g2 = 0 ∧ most < 0) ∨ (¬ g2 = 0 ∧ 0 ≤ most ∧ most < (g1 : Int)) ∨ (¬ g2 = 0 ∧ 0 ≤ most ∧ (g1 : Int) ≤ most ∧ (n : Int) - g2 < g1) := by omega
 clear hd
 rcases hd' with h | ⟨h, h2⟩ | ⟨h, h2, h3⟩ | ⟨h, h2, h3, h4⟩
 ·subst h
  go_enter Tryz.func87, Tryz.ntmps87
  go_wp2_with fail
  refine (HG.out).mono ?_
  rintro e w1 ⟨rfl, rfl⟩
  go_wp2
  go_ret3
  exact cutP_none HC.out (Below.refl _ _)
 all_goals
  have hz : ((g2 : Int) == 0) = false := by simp; omega
  go_enter Tryz.func87, Tryz.ntmps87
  go_wp2_with fail
  refine (HG.out).mono ?_
  rintro e w1 ⟨rfl, rfl⟩
  go_wp2
  go_ret3
  exact cutP_none HC.out (Below.refl _ _)
set_option maxHeartbeats 1000000 in
theorem cut_ref_none (a : Option Addr) (n c : Nat) (l : List UInt8) (most : Int) (w : World) (hr : Rd w a n c l) (hn : n ≤ 140737488351232) (m0 : -9223372036854775808 ≤ most) (m1 : most ≤ 9223372036854775807) (h : cutIs l most = false) :
  Calls Tryz.prog 45 #[.slice a n c, .int .i64 most] w (CutP l most w) := by
 have hd : (getL l).2 = 0 ∨ most < 0 ∨ most < ((getL l).1 : Int) ∨ ((l.length : Int) - (getL l).2 < (getL l).1) := by
  exact Classical.not_not.1 (of_decide_eq_false h)
 have hg := get_ref a n c l w hr hn
 have hlt := getL_lt l
 have h10 := getL_le10 l
 have hle := getL_le l
 have hl := hr.len
 have HC := Lib.hid h; clear h
 rw [hl] at hd hle
 have HL := Lib.hid hl; clear hl
 generalize (getL l).1 = g1 at *
 generalize (getL l).2 = g2 at *
 have HG := Lib.hid hg; clear hg hr
 have hd' : g2 = 0 ∨ (¬ g2 = 0 ∧ most < 0) ∨ (¬ g2 = 0 ∧ 0 ≤ most ∧ most < (g1 : Int)) ∨ (¬ g2 = 0 ∧ 0 ≤ most ∧ (g1 : Int) ≤ most ∧ (n : Int) - g2 < g1) := by omega
 clear hd
 rcases hd' with h | ⟨h, h2⟩ | ⟨h, h2, h3⟩ | ⟨h, h2, h3, h4⟩
 ·subst h
  go_enter Tryz.func45, Tryz.ntmps45
  go_wp2_with fail
  refine (HG.out).mono ?_
  rintro e w1 ⟨rfl, hb⟩
  go_wp2
  go_ret3
  exact cutP_none HC.out hb
 all_goals
  have hz : ((g2 : Int) == 0) = false := by simp; omega
  go_enter Tryz.func45, Tryz.ntmps45
  go_wp2_with fail
  refine (HG.out).mono ?_
  rintro e w1 ⟨rfl, hb⟩
  go_wp2
  go_ret3
  exact cutP_none HC.out hb
theorem cut_parts {l : List UInt8} {most : Int} (h : cutIs l most = true) : (getL l).2 ≠ 0 ∧ 0 ≤ most ∧ ((getL l).1 : Int) ≤ most ∧ (getL l).2 + (getL l).1 ≤ l.length := by
 have hle := getL_le l
 have := of_decide_eq_true h
 omega
set_option maxRecDepth 100000 in
set_option maxHeartbeats 2000000 in
theorem cut_some (b off n c : Nat) (l : List UInt8) (most : Int) (w : World) (hr : Rd w (some ⟨b, off, none⟩) n c l) (hn : n ≤ 140737488351232) (m0 : -9223372036854775808 ≤ most) (m1 : most ≤ 9223372036854775807) (h : cutIs l most = true) :
  Calls Tryz.prog 87 #[.slice (some ⟨b, off, none⟩) n c, .int .i64 most] w (CutP l most w) := by
 obtain ⟨h1, h2, h3, h4⟩ := cut_parts h
 have hg := get_any _ n c l w hr hn
 have h10 := getL_le10 l
 have hT : cutT l most = (l.drop (getL l).2).take (getL l).1 := by unfold cutT; rw [if_pos h]
 have hR : cutR l most = (l.drop (getL l).2).drop (getL l).1 := by unfold cutR; rw [if_pos h]
 rw [hr.len] at h4
 have hnc := hr.le
 have hcap := hr.cap
 have hl := hr.len
 generalize (getL l).1 = g1 at *
 generalize (getL l).2 = g2 at *
 have hz : ((g2 : Int) == 0) = false := by simp; omega
 have hg1 : ((g1 : Nat) : Int) ≤ (n : Int) - g2 := by omega
 have HC := Lib.hid h; clear h
 have HG := Lib.hid hg; clear hg
 have et : l.take n = l := List.take_of_length_le (by omega)
 have et2 : (l.drop g2).take (n - g2) = l.drop g2 := List.take_of_length_le (by simp; omega)
 have e1 : ((l.take n).drop g2).take g1 = cutT l most := by rw [hT, et]
 have e2 : (((l.take n).drop g2).take (n - g2)).drop g1 = cutR l most := by rw [hR, et, et2]
 clear et et2
 have hall : g2 < c ∧ g1 < c - g2 ∨ g2 < c ∧ c - g2 = g1 ∧ n = c ∨ c = g2 ∧ n = g2 ∧ g1 = 0 := by omega
 rcases hall with ⟨k1, k2⟩ | ⟨k1, k2, k3⟩ | ⟨k1, k2, k3⟩
 ·have hq := hr.part g2 n (by omega) (Nat.le_refl _)
  have hp1 := hq.front g1 (by omega)
  have hp2 := hq.part g1 (n - g2) (by omega) (Nat.le_refl _)
  rw [e1] at hp1
  rw [e2] at hp2
  have HS := Lib.hid (fun (W : World) (hW : Below w.heap.size w W) => (hp1.below hW).str (P := Tryz.prog) 28 5 9 Tryz.underlying28 Tryz.underlying5 Tryz.underlying9)
  have HK := Lib.hid (fun (W : World) (hW : Below w.heap.size w W) => clone_any _ _ _ _ W (hp2.below hW) (fun h => by cases h) (by omega))
  clear hp1 hp2 e1 e2 hq hT hR hr hl
  go_enter Tryz.func87, Tryz.ntmps87
  go_wp2_with fail
  refine (HG.out).mono ?_
  rintro e w1 ⟨rfl, rfl⟩
  go_wp2
  have hs0 := HS.out w.drew (Below.refl _ _).drew
  unfold S at hs0
  go_region_with ((go_at_call 41; refine (HK.out _ (Below.drew (Below.refl _ _))).mono ?_; rintro e w1 ⟨v, rfl, hown, hb⟩; have hs2 := HS.out w1 (Below.step ((Below.refl _ w).drew) hb); unfold S at hs2))
  all_goals
   go_wp2
   go_ret3
   exact ⟨v, by rw [HC.out]; rfl, hown, Below.step ((Below.refl _ w).drew) hb⟩
 ·have hq := hr.part g2 n (by omega) (Nat.le_refl _)
  have hp1 := hq.front g1 (by omega)
  rw [e1] at hp1
  have hR0 : cutR l most = [] := by rw [hR]; exact List.drop_eq_nil_of_le (by simp; omega)
  have HS := Lib.hid (fun (W : World) (hW : Below w.heap.size w W) => (hp1.below hW).str (P := Tryz.prog) 28 5 9 Tryz.underlying28 Tryz.underlying5 Tryz.underlying9)
  have HK := Lib.hid (fun (W : World) (a : Addr) => clone_any (some a) 0 0 [] W (Rd.zero _ _ _ (by decide)) (fun h => by cases h) (by decide))
  have HR0 := Lib.hid hR0
  clear hp1 e1 e2 hq hT hR hr hl hR0
  obtain rfl : g1 = c - g2 := k2.symm
  obtain rfl : n = c := k3
  have z1 : n - g2 - (n - g2) = 0 := Nat.sub_self _
  go_enter Tryz.func87, Tryz.ntmps87
  go_wp2_with fail
  refine (HG.out).mono ?_
  rintro e w1 ⟨rfl, rfl⟩
  go_wp2
  have hs0 := HS.out w.drew (Below.refl _ _).drew
  unfold S at hs0
  go_region_with ((go_at_call 41; refine (HK.out _ _).mono ?_; rintro e w1 ⟨v, rfl, hown, hb⟩; have hs2 := HS.out w1 (Below.step ((Below.refl _ w).drew) hb); unfold S at hs2))
  all_goals
   go_wp2
   go_ret3
   exact ⟨v, by rw [HC.out]; rfl, by rw [HR0.out]; exact hown, Below.step ((Below.refl _ w).drew) hb⟩
 ·have hT0 : cutT l most = [] := by rw [hT, k3]; rfl
  have hR0 : cutR l most = [] := by rw [hR]; exact List.drop_eq_nil_of_le (by simp; omega)
  have HS := Lib.hid (fun (W : World) => (Rd.zero W (some ⟨b, off, none⟩) 0 (by decide)).str (P := Tryz.prog) 28 5 9 Tryz.underlying28 Tryz.underlying5 Tryz.underlying9)
  have HK := Lib.hid (fun (W : World) (a : Addr) => clone_any (some a) 0 0 [] W (Rd.zero _ _ _ (by decide)) (fun h => by cases h) (by decide))
  have HR0 := Lib.hid hR0
  have HT0 := Lib.hid hT0
  clear e1 e2 hT hR hr hl hR0 hT0
  subst k3
  subst k1
  subst k2
  go_enter Tryz.func87, Tryz.ntmps87
  go_wp2_with fail
  refine (HG.out).mono ?_
  rintro e w1 ⟨rfl, rfl⟩
  go_wp2
  have hs0 := HS.out w.drew
  unfold S at hs0
  go_region_with ((go_at_call 41; refine (HK.out _ _).mono ?_; rintro e w1 ⟨v, rfl, hown, hb⟩; have hs2 := HS.out w1; unfold S at hs2))
  all_goals
   go_wp2
   go_ret3
   exact ⟨v, by rw [HC.out, HT0.out]; rfl, by rw [HR0.out]; exact hown, Below.step ((Below.refl _ w).drew) hb⟩
end Go.Proofs.YtofadpodlaakbaaGreat

/- What the layer ops computes, on lists of bytes; no program in sight. -/
namespace Go.Proofs.YtofadpodlaakbaaGreat
open Go
set_option linter.unusedVariables false
def isN (x : Nat) : Bool := (decide (97 ≤ x) && decide (x ≤ 122)) || (decide (48 ≤ x) && decide (x ≤ 57))
def isC (c : UInt8) : Bool := isN c.toNat
def keyB (l : List UInt8) : Bool := l.all isC && decide (1 ≤ l.length) && decide (l.length ≤ 8)
structure Opn where
 kind : Int
 key : List UInt8
 elem : List UInt8
 num : Int
deriving DecidableEq
def Opn.val (o : Opn) : Value := .agg #[.int .i64 o.kind, .string ⟨o.key.toArray⟩, .string ⟨o.elem.toArray⟩, .int .i64 o.num]
def cntB (o : Opn) : Bool := decide (o.num ≠ 0) && decide (-1048576 ≤ o.num) && decide (o.num ≤ 1048576) && decide (o.elem = [])
def namB (o : Opn) : Bool := decide (o.num = 0) && keyB o.elem
def inB (k : Int) : Bool := decide (0 ≤ k) && decide (k ≤ 3)
def mayB (o : Opn) : Bool := inB o.kind && keyB o.key && (if o.kind = 0 then cntB o else namB o)
def endL (o : Opn) : List UInt8 := if o.kind = 0 then numL (fold o.num).toNat else txtL o.elem
def putO (o : Opn) : List UInt8 := numL o.kind.toNat ++ (txtL o.key ++ endL o)
def getE (k : Nat) (key r : List UInt8) : Option (Opn × List UInt8) :=
 if k = 0 then (if (getL r).2 = 0 then none else some (⟨0, key, [], unfold' ((getL r).1 : Int)⟩, r.drop (getL r).2))
 else (if cutIs r 8 = true then some (⟨(k : Int), key, cutT r 8, 0⟩, cutR r 8) else none)
def getO (b : List UInt8) : Option (Opn × List UInt8) :=
 if (getL b).2 = 0 ∨ 4 ≤ (getL b).1 then none else
 if cutIs (b.drop (getL b).2) 8 = true then
  match getE (getL b).1 (cutT (b.drop (getL b).2) 8) (cutR (b.drop (getL b).2) 8) with
  | none => none
  | some (o, r) => if mayB o = true then some (o, r) else none
 else none
theorem keyB_len {l : List UInt8} (h : keyB l = true) : 1 ≤ l.length ∧ l.length ≤ 8 := by
 simp only [keyB, Bool.and_eq_true, decide_eq_true_eq] at h; exact ⟨h.1.2, h.2⟩
/-! ### Texts that are cut off -/
theorem getL_txt (s r : List UInt8) (hs : s.length ≤ 8) : getL (txtL s ++ r) = (s.length, (numL s.length).length) := by
 unfold txtL
 rw [List.append_assoc]
 exact getL_put _ (show s.length < 18446744073709551616 by omega) _
theorem cut_put (s r : List UInt8) (hs : s.length ≤ 8) : cutIs (txtL s ++ r) 8 = true ∧ cutT (txtL s ++ r) 8 = s ∧ cutR (txtL s ++ r) 8 = r := by
 have hg := getL_txt s r hs
 have h1 : cutIs (txtL s ++ r) 8 = true := by
  unfold cutIs
  rw [hg]
  refine decide_eq_true ?_
  have := numL_pos s.length
  simp only [txtL, List.length_append]
  omega
 refine ⟨h1, ?_, ?_⟩
 ·unfold cutT; rw [if_pos h1, hg]; unfold txtL; rw [List.append_assoc, List.drop_left, List.take_left]
 ·unfold cutR; rw [if_pos h1, hg]; unfold txtL; rw [List.append_assoc, List.drop_left, List.drop_left]
theorem cut_got {l : List UInt8} (h : cutIs l 8 = true) : txtL (cutT l 8) ++ cutR l 8 = l ∧ (cutT l 8).length ≤ 8 := by
 obtain ⟨h1, h2, h3, h4⟩ := cut_parts h
 obtain ⟨g1, g2, g3, _⟩ := getL_got (l := l) (m := (getL l).1) (k := (getL l).2) rfl h1
 have hl : ((l.drop (getL l).2).take (getL l).1).length = (getL l).1 := by rw [List.length_take, List.length_drop]; omega
 unfold cutT cutR txtL
 rw [if_pos h, if_pos h, hl]
 refine ⟨?_, by omega⟩
 rw [g1, List.append_assoc, List.take_append_drop, List.take_append_drop]
/-! ### What is put is got -/
theorem mayB_kind {o : Opn} (h : mayB o = true) : 0 ≤ o.kind ∧ o.kind ≤ 3 ∧ keyB o.key = true ∧ (if o.kind = 0 then cntB o else namB o) = true := by
 simp only [mayB, inB, Bool.and_eq_true, decide_eq_true_eq] at h
 exact ⟨h.1.1.1, h.1.1.2, h.1.2, h.2⟩
theorem getE_put (o : Opn) (h : mayB o = true) (r : List UInt8) : getE o.kind.toNat o.key (endL o ++ r) = some (o, r) := by
 obtain ⟨h1, h2, h3, h4⟩ := mayB_kind h
 unfold getE endL
 by_cases hk : o.kind = 0
 ·rw [if_pos hk] at h4 ⊢
  simp only [cntB, Bool.and_eq_true, decide_eq_true_eq] at h4
  have hf0 := fold_lo o.num
  have hf1 := fold_hi o.num (by omega) (by omega)
  have hg := getL_put (fold o.num).toNat (by omega) r
  rw [if_pos (by omega), hg]
  have hp := numL_pos (fold o.num).toNat
  rw [if_neg (by omega)]
  rw [List.drop_left, Int.toNat_of_nonneg hf0, unfold_fold]
  obtain ⟨k, key, elem, n⟩ := o
  simp only at hk h4
  subst hk
  rw [h4.2]
 ·rw [if_neg hk] at h4 ⊢
  simp only [namB, Bool.and_eq_true, decide_eq_true_eq] at h4
  obtain ⟨c1, c2, c3⟩ := cut_put o.elem r (keyB_len h4.2).2
  rw [if_neg (by omega), if_pos c1, c2, c3, Int.toNat_of_nonneg h1]
  obtain ⟨k, key, elem, n⟩ := o
  simp only at h4
  rw [h4.1]
theorem get_put (o : Opn) (h : mayB o = true) (r : List UInt8) : getO (putO o ++ r) = some (o, r) := by
 obtain ⟨h1, h2, h3, h4⟩ := mayB_kind h
 have e : putO o ++ r = numL o.kind.toNat ++ (txtL o.key ++ (endL o ++ r)) := by unfold putO; simp only [List.append_assoc]
 have hg := getL_put o.kind.toNat (by omega) (txtL o.key ++ (endL o ++ r))
 have hp := numL_pos o.kind.toNat
 obtain ⟨c1, c2, c3⟩ := cut_put o.key (endL o ++ r) (keyB_len h3).2
 unfold getO
 rw [e, hg]
 simp only
 rw [if_neg (by omega), List.drop_left, if_pos c1, c2, c3, getE_put o h r]
 simp only
 rw [if_pos h]
theorem get_got {b : List UInt8} {o : Opn} {r : List UInt8} (h : getO b = some (o, r)) : mayB o = true ∧ putO o ++ r = b := by
 unfold getO at h
 by_cases h0 : (getL b).2 = 0 ∨ 4 ≤ (getL b).1
 ·rw [if_pos h0] at h; cases h
 rw [if_neg h0] at h
 by_cases hc : cutIs (b.drop (getL b).2) 8 = true
 case neg => rw [if_neg hc] at h; cases h
 rw [if_pos hc] at h
 obtain ⟨c1, c2⟩ := cut_got hc
 obtain ⟨g1, g2, g3, _⟩ := getL_got (l := b) (m := (getL b).1) (k := (getL b).2) rfl (by omega)
 obtain ⟨k, hk⟩ : ∃ k, k = (getL b).1 := ⟨_, rfl⟩
 obtain ⟨K, hK⟩ : ∃ K, K = cutT (b.drop (getL b).2) 8 := ⟨_, rfl⟩
 obtain ⟨R, hR⟩ : ∃ R, R = cutR (b.drop (getL b).2) 8 := ⟨_, rfl⟩
 rw [← hk, ← hK, ← hR] at h
 rw [← hK, ← hR] at c1
 rw [← hk] at g1
 have hk4 : k < 4 := by omega
 have hb : numL k ++ (txtL K ++ R) = b := by rw [g1, c1, List.take_append_drop]
 cases he : getE k K R with
 | none => rw [he] at h; cases h
 | some p =>
  obtain ⟨o', r'⟩ := p
  rw [he] at h
  simp only at h
  by_cases hm : mayB o' = true
  case neg => rw [if_neg hm] at h; cases h
  rw [if_pos hm] at h
  injection h with h
  injection h with e1 e2
  subst e1 e2
  refine ⟨hm, ?_⟩
  rw [← hb]
  unfold getE at he
  by_cases hk0 : k = 0
  ·rw [if_pos hk0] at he
   by_cases h2 : (getL R).2 = 0
   ·rw [if_pos h2] at he; cases he
   rw [if_neg h2] at he
   injection he with he
   injection he with e1 e2
   subst e1 e2
   obtain ⟨q1, q2, q3, _⟩ := getL_got (l := R) (m := (getL R).1) (k := (getL R).2) rfl h2
   have hf : (fold (unfold' ((getL R).1 : Int))).toNat = (getL R).1 := by rw [fold_unfold _ (by omega)]; rfl
   unfold putO endL
   simp only
   rw [if_pos trivial, hf, q1, hk0]
   simp only [List.append_assoc, List.take_append_drop]
   rfl
  ·rw [if_neg hk0] at he
   by_cases h2 : cutIs R 8 = true
   case neg => rw [if_neg h2] at he; cases he
   rw [if_pos h2] at he
   injection he with he
   injection he with e1 e2
   subst e1 e2
   unfold putO endL
   simp only
   rw [if_neg (by omega)]
   have := (cut_got h2).1
   simp only [List.append_assoc]
   rw [this]
   rfl
end Go.Proofs.YtofadpodlaakbaaGreat

/- What the layers ids and commit compute, on lists of bytes; no program in sight. -/
namespace Go.Proofs.YtofadpodlaakbaaGreat
open Go
set_option linter.unusedVariables false
/-! ### Ids -/
def ltL : List UInt8 → List UInt8 → Bool
 | [], [] => false
 | [], _ :: _ => true
 | _ :: _, [] => false
 | x :: a, y :: b => if x = y then ltL a b else decide (x < y)
def risesN (l : List (List UInt8)) (n : Nat) : Bool := (List.range n).all fun j => ltL (l.getD j []) (l.getD (j + 1) [])
def risesL (l : List (List UInt8)) : Bool := risesN l (l.length - 1)
theorem risesN_succ (l : List (List UInt8)) (n : Nat) : risesN l (n + 1) = (risesN l n && ltL (l.getD n []) (l.getD (n + 1) [])) := by
 unfold risesN
 rw [List.range_succ, List.all_append]
 simp
theorem risesN_at {l : List (List UInt8)} {n j : Nat} (h : risesN l n = true) (hj : j < n) : ltL (l.getD j []) (l.getD (j + 1) []) = true := by
 unfold risesN at h
 rw [List.all_eq_true] at h
 exact h j (List.mem_range.2 hj)
theorem rises_not {l : List (List UInt8)} {j : Nat} (hj : j + 1 < l.length) (h : ltL (l.getD j []) (l.getD (j + 1) []) = false) : risesL l = false := by
 cases e : risesL l with
 | false => rfl
 | true =>
  have := risesN_at (j := j) e (by omega)
  rw [h] at this
  cases this
/-! ### Commits -/
def zeroO : Opn := ⟨0, [], [], 0⟩
structure Cmt where
 node : Int
 seq : Int
 gen : Int
 par : List (List UInt8)
 op : Opn
deriving DecidableEq
def noC : Cmt := ⟨0, 0, 0, [], zeroO⟩
def inI (n low high : Int) : Bool := decide (low ≤ n) && decide (n ≤ high)
def mayC (c : Cmt) : Bool :=
 inI c.gen 1 1048576 && decide (c.par.length ≤ 8) && risesL c.par && (decide (c.gen = 1) == decide (c.par.length = 0)) &&
 (if c.node = -1 then decide (2 ≤ c.par.length) && decide (c.seq = 0) && decide (c.op = zeroO) else inI c.node 0 7 && inI c.seq 1 1048576 && mayB c.op)
def mergeC (c : Cmt) : Bool := decide (c.node = -1) && mayC c
def all32 (l : List (List UInt8)) : Prop := ∀ x ∈ l, x.length = 32
def headL (c : Cmt) : List UInt8 := numL (fold c.node).toNat ++ (numL c.seq.toNat ++ (numL c.gen.toNat ++ numL c.par.length))
def tailL (c : Cmt) : List UInt8 := if c.node = -1 then [] else putO c.op
def putC (c : Cmt) : List UInt8 := headL c ++ (c.par.flatten ++ tailL c)
def takeN (b : List UInt8) : Option (Nat × List UInt8) := if (getL b).2 = 0 then none else some ((getL b).1, b.drop (getL b).2)
def takeM (most : Nat) (b : List UInt8) : Option (Nat × List UInt8) := if (getL b).2 = 0 ∨ most < (getL b).1 then none else some ((getL b).1, b.drop (getL b).2)
def idsOf (k : Nat) (b : List UInt8) : List (List UInt8) := (List.range k).map fun i => (b.drop (32 * i)).take 32
def finC (c : Cmt) (r : List UInt8) : Option (Cmt × List UInt8) := if mayC c = true then some (c, r) else none
def getC (b : List UInt8) : Option (Cmt × List UInt8) :=
 match takeN b with
 | none => none
 | some (n, r1) =>
  match takeM 1048576 r1 with
  | none => none
  | some (s, r2) =>
   match takeM 1048576 r2 with
   | none => none
   | some (g, r3) =>
    match takeM 8 r3 with
    | none => none
    | some (k, r4) =>
     if 32 * k ≤ r4.length then
      if unfold' (n : Int) = -1 then finC ⟨-1, s, g, idsOf k r4, zeroO⟩ (r4.drop (32 * k))
      else match getO (r4.drop (32 * k)) with
       | none => none
       | some (o, r) => finC ⟨unfold' (n : Int), s, g, idsOf k r4, o⟩ r
     else none
theorem idsOf_length (k : Nat) (b : List UInt8) : (idsOf k b).length = k := by simp [idsOf]
theorem idsOf_at (k : Nat) (b : List UInt8) (i : Nat) (h : i < k) : (idsOf k b).getD i [] = (b.drop (32 * i)).take 32 := by
 unfold idsOf
 rw [List.getD_eq_getElem?_getD, List.getElem?_map, List.getElem?_range h]
 rfl
theorem idsOf_succ (k : Nat) (b : List UInt8) : idsOf (k + 1) b = idsOf k b ++ [(b.drop (32 * k)).take 32] := by
 unfold idsOf
 rw [List.range_succ, List.map_append]
 rfl
theorem idsOf_32 {k : Nat} {b : List UInt8} (h : 32 * k ≤ b.length) : all32 (idsOf k b) := by
 intro x hx
 unfold idsOf at hx
 obtain ⟨i, hi, rfl⟩ := List.mem_map.1 hx
 have := List.mem_range.1 hi
 rw [List.length_take, List.length_drop]
 omega
theorem idsOf_flatten : ∀ (k : Nat) (b : List UInt8), 32 * k ≤ b.length → (idsOf k b).flatten = b.take (32 * k)
 | 0, b, _ => by simp [idsOf]
 | k + 1, b, h => by
  rw [idsOf_succ, List.flatten_append, idsOf_flatten k b (by omega)]
  have e : [((b.drop (32 * k)).take 32)].flatten = (b.drop (32 * k)).take 32 := by simp
  rw [e, show 32 * (k + 1) = 32 * k + 32 by omega, List.take_add]
theorem flat_len : ∀ (l : List (List UInt8)), all32 l → l.flatten.length = 32 * l.length
 | [], _ => rfl
 | x :: l, h => by
  rw [List.flatten_cons, List.length_append, h x (by simp), flat_len l (fun y hy => h y (by simp [hy])), List.length_cons]
  omega
theorem flat_at : ∀ (l : List (List UInt8)) (r : List UInt8) (i : Nat), all32 l → i < l.length → ((l.flatten ++ r).drop (32 * i)).take 32 = l.getD i []
 | [], _, i, _, h => by simp at h
 | x :: l, r, 0, h, _ => by
  have hx := h x (by simp)
  rw [List.flatten_cons, Nat.mul_zero, List.drop_zero, List.append_assoc, List.take_append_of_le_length (by omega), List.take_of_length_le (by omega)]
  rfl
 | x :: l, r, i + 1, h, hi => by
  have hx := h x (by simp)
  rw [List.flatten_cons, List.append_assoc, show 32 * (i + 1) = 32 + 32 * i by omega, ← List.drop_drop, List.drop_append_of_le_length (by omega), (show x.drop 32 = [] from List.drop_eq_nil_of_le (by omega)), List.nil_append, flat_at l r i (fun y hy => h y (by simp [hy])) (by simpa using hi)]
  rfl
theorem idsOf_flat (l : List (List UInt8)) (r : List UInt8) (h : all32 l) : idsOf l.length (l.flatten ++ r) = l := by
 refine List.ext_getElem (idsOf_length _ _) (fun i h1 h2 => ?_)
 have e := idsOf_at l.length (l.flatten ++ r) i h2
 rw [flat_at l r i h h2, List.getD_eq_getElem?_getD, List.getD_eq_getElem?_getD, List.getElem?_eq_getElem h1, List.getElem?_eq_getElem h2] at e
 simpa using e
/-! ### What is put is got -/
theorem takeN_put (n : Nat) (hn : n < 18446744073709551616) (r : List UInt8) : takeN (numL n ++ r) = some (n, r) := by
 have hp := numL_pos n
 unfold takeN
 rw [getL_put n hn r, if_neg (by simp only; omega)]
 simp only [List.drop_left]
theorem takeM_put (most n : Nat) (hm : most < 18446744073709551616) (hn : n ≤ most) (r : List UInt8) : takeM most (numL n ++ r) = some (n, r) := by
 have hp := numL_pos n
 unfold takeM
 rw [getL_put n (by omega) r, if_neg (by simp only; omega)]
 simp only [List.drop_left]
theorem takeN_got {b r : List UInt8} {n : Nat} (h : takeN b = some (n, r)) : numL n ++ r = b ∧ n < 18446744073709551616 := by
 unfold takeN at h
 by_cases h0 : (getL b).2 = 0
 ·rw [if_pos h0] at h; cases h
 rw [if_neg h0] at h
 injection h with h
 injection h with e1 e2
 subst e1 e2
 obtain ⟨g1, g2, g3, _⟩ := getL_got (l := b) (m := (getL b).1) (k := (getL b).2) rfl h0
 rw [g1, List.take_append_drop]
 exact ⟨rfl, getL_lt b⟩
theorem takeM_got {most : Nat} {b r : List UInt8} {n : Nat} (h : takeM most b = some (n, r)) : numL n ++ r = b ∧ n ≤ most := by
 unfold takeM at h
 by_cases h0 : (getL b).2 = 0 ∨ most < (getL b).1
 ·rw [if_pos h0] at h; cases h
 rw [if_neg h0] at h
 injection h with h
 injection h with e1 e2
 subst e1 e2
 obtain ⟨g1, g2, g3, _⟩ := getL_got (l := b) (m := (getL b).1) (k := (getL b).2) rfl (by omega)
 rw [g1, List.take_append_drop]
 exact ⟨rfl, by omega⟩
theorem mayC_parts {c : Cmt} (h : mayC c = true) : (1 ≤ c.gen ∧ c.gen ≤ 1048576) ∧ c.par.length ≤ 8 ∧ risesL c.par = true ∧ (c.gen = 1 ↔ c.par.length = 0) ∧
  ((c.node = -1 ∧ 2 ≤ c.par.length ∧ c.seq = 0 ∧ c.op = zeroO) ∨ (c.node ≠ -1 ∧ (0 ≤ c.node ∧ c.node ≤ 7) ∧ (1 ≤ c.seq ∧ c.seq ≤ 1048576) ∧ mayB c.op = true)) := by
 unfold mayC inI at h
 simp only [Bool.and_eq_true, decide_eq_true_eq, beq_iff_eq, decide_eq_decide] at h
 obtain ⟨⟨⟨⟨h1, h2⟩, h3⟩, h4⟩, h5⟩ := h
 refine ⟨h1, h2, h3, h4, ?_⟩
 by_cases e : c.node = -1
 ·rw [if_pos e] at h5
  simp only [Bool.and_eq_true, decide_eq_true_eq] at h5
  exact .inl ⟨e, h5.1.1, h5.1.2, h5.2⟩
 ·rw [if_neg e] at h5
  simp only [Bool.and_eq_true, decide_eq_true_eq] at h5
  exact .inr ⟨e, h5.1.1, h5.1.2, h5.2⟩
theorem mayC_node {c : Cmt} (h : mayC c = true) : -1 ≤ c.node ∧ c.node ≤ 7 ∧ 0 ≤ c.seq ∧ c.seq ≤ 1048576 := by
 obtain ⟨_, _, _, _, h5⟩ := mayC_parts h
 rcases h5 with ⟨h1, _, h2, _⟩ | ⟨_, h1, h2, _⟩ <;> omega
theorem getC_put (c : Cmt) (h : mayC c = true) (h32 : all32 c.par) (r : List UInt8) : getC (putC c ++ r) = some (c, r) := by
 obtain ⟨h1, h2, h3, h4, h5⟩ := mayC_parts h
 obtain ⟨n1, n2, n3, n4⟩ := mayC_node h
 have hf0 := fold_lo c.node
 have hf1 := fold_hi c.node (by omega) (by omega)
 have e : putC c ++ r = numL (fold c.node).toNat ++ (numL c.seq.toNat ++ (numL c.gen.toNat ++ (numL c.par.length ++ (c.par.flatten ++ (tailL c ++ r))))) := by
  unfold putC headL; simp only [List.append_assoc]
 unfold getC
 rw [e, takeN_put _ (by omega)]
 simp only
 rw [takeM_put _ _ (by decide) (by omega)]
 simp only
 rw [takeM_put _ _ (by decide) (by omega)]
 simp only
 rw [takeM_put _ _ (by decide) h2]
 simp only
 have hl : 32 * c.par.length ≤ (c.par.flatten ++ (tailL c ++ r)).length := by rw [List.length_append, flat_len _ h32]; omega
 have hd : (c.par.flatten ++ (tailL c ++ r)).drop (32 * c.par.length) = tailL c ++ r := by rw [← flat_len _ h32, List.drop_left]
 rw [if_pos hl, idsOf_flat _ _ h32, hd, Int.toNat_of_nonneg hf0, unfold_fold, Int.toNat_of_nonneg n3, Int.toNat_of_nonneg (show 0 ≤ c.gen by omega)]
 obtain ⟨node, seq, gen, par, op⟩ := c
 simp only at h5 n1 n2 n3 n4 ⊢
 rcases h5 with ⟨g1, g2, g3, g4⟩ | ⟨g1, g2, g3, g4⟩
 ·subst g1 g3 g4
  rw [if_pos rfl]
  unfold finC tailL
  rw [if_pos h, if_pos rfl]
  rfl
 ·rw [if_neg g1]
  have ht : tailL ⟨node, seq, gen, par, op⟩ = putO op := by unfold tailL; rw [if_neg g1]
  rw [ht, get_put op g4 r]
  simp only
  unfold finC
  rw [if_pos h]
theorem getC_got {b : List UInt8} {c : Cmt} {r : List UInt8} (h : getC b = some (c, r)) : mayC c = true ∧ putC c ++ r = b ∧ all32 c.par := by
 unfold getC at h
 cases h1 : takeN b with
 | none => rw [h1] at h; cases h
 | some p1 =>
 obtain ⟨n, r1⟩ := p1
 rw [h1] at h
 simp only at h
 cases h2 : takeM 1048576 r1 with
 | none => rw [h2] at h; cases h
 | some p2 =>
 obtain ⟨s, r2⟩ := p2
 rw [h2] at h
 simp only at h
 cases h3 : takeM 1048576 r2 with
 | none => rw [h3] at h; cases h
 | some p3 =>
 obtain ⟨g, r3⟩ := p3
 rw [h3] at h
 simp only at h
 cases h4 : takeM 8 r3 with
 | none => rw [h4] at h; cases h
 | some p4 =>
 obtain ⟨k, r4⟩ := p4
 rw [h4] at h
 simp only at h
 by_cases hk : 32 * k ≤ r4.length
 case neg => rw [if_neg hk] at h; cases h
 rw [if_pos hk] at h
 obtain ⟨g1, hn⟩ := takeN_got h1
 obtain ⟨g2, hs⟩ := takeM_got h2
 obtain ⟨g3, hg⟩ := takeM_got h3
 obtain ⟨g4, hk8⟩ := takeM_got h4
 have hfu : (fold (unfold' (n : Int))).toNat = n := by rw [fold_unfold _ (by omega)]; rfl
 have hall : all32 (idsOf k r4) := idsOf_32 hk
 by_cases hm : unfold' (n : Int) = -1
 ·rw [if_pos hm] at h
  unfold finC at h
  by_cases hmay : mayC ⟨-1, s, g, idsOf k r4, zeroO⟩ = true
  case neg => rw [if_neg hmay] at h; cases h
  rw [if_pos hmay] at h
  injection h with h
  injection h with e1 e2
  subst e1 e2
  refine ⟨hmay, ?_, hall⟩
  unfold putC headL tailL
  simp only [if_true, List.append_nil]
  rw [← hm, hfu, Int.toNat_natCast, Int.toNat_natCast, idsOf_length, idsOf_flatten _ _ hk]
  simp only [List.append_assoc]
  rw [List.take_append_drop, g4, g3, g2, g1]
 ·rw [if_neg hm] at h
  cases h5 : getO (r4.drop (32 * k)) with
  | none => rw [h5] at h; cases h
  | some p5 =>
  obtain ⟨o, r5⟩ := p5
  rw [h5] at h
  simp only at h
  obtain ⟨g5, g6⟩ := get_got h5
  unfold finC at h
  by_cases hmay : mayC ⟨unfold' (n : Int), s, g, idsOf k r4, o⟩ = true
  case neg => rw [if_neg hmay] at h; cases h
  rw [if_pos hmay] at h
  injection h with h
  injection h with e1 e2
  subst e1 e2
  refine ⟨hmay, ?_, hall⟩
  unfold putC headL tailL
  simp only [if_neg hm]
  rw [hfu, Int.toNat_natCast, Int.toNat_natCast, idsOf_length, idsOf_flatten _ _ hk]
  simp only [List.append_assoc]
  rw [g6, List.take_append_drop, g4, g3, g2, g1]
end Go.Proofs.YtofadpodlaakbaaGreat

/- Parts of a slice of bytes, whatever its address. -/
namespace Go.Proofs.YtofadpodlaakbaaGreat
open Go.ChangeShapes Go.WideShapes Go.ChangeAt Go.RowKit
set_option linter.unusedVariables false
theorem Rd.sl {w : World} {a : Option Addr} {n c : Nat} {l : List UInt8} (hr : Rd w a n c l) (hac : a = none → c = 0) (i : Nat) (hi : i ≤ n) : ∃ a', (∀ h, sliced a i h c 1 = .slice a' (h - i) (c - i)) ∧
  (∀ j, i ≤ j → j ≤ n → ∀ w', Rd w' a n c l → Rd w' a' (j - i) (c - i) ((l.take j).drop i)) ∧ (a' = none → c - i = 0) := by
 have hle := hr.le
 have hcap := hr.cap
 refine ⟨if c = i then a else a.map (·.add (i * 1)), fun h => rfl, fun j hij hj w' h => ?_, fun h => ?_⟩
 ·by_cases hz : j - i = 0
  ·have h0 : ((l.take j).drop i) = [] := List.drop_eq_nil_of_le (by simp; omega)
   rw [hz, h0]; exact Rd.zero _ _ _ (by omega)
  ·rw [if_neg (by omega)]
   rcases h.cells with h0 | ⟨b, off, rfl, _, _⟩
   ·omega
   ·have hadd : (Option.map (fun x => Addr.add x (i * 1)) (some (⟨b, off, none⟩ : Addr))) = some ⟨b, off + i, none⟩ := by
     rw [Nat.mul_one]; show some (Addr.add _ i) = _; unfold Addr.add; split <;> simp_all
    rw [hadd]; exact h.part i j hij hj
 ·by_cases hc : c = i
  ·omega
  ·rw [if_neg hc] at h
   cases a with
   | none => have := hac rfl; omega
   | some x => cases h
theorem Rd.slb {w : World} {a : Option Addr} {n c : Nat} {l : List UInt8} (hr : Rd w a n c l) (hac : a = none → c = 0) (i : Nat) (hi : i ≤ n) : ∃ a', (∀ h, sliced a i h c 1 = .slice a' (h - i) (c - i)) ∧
  (∀ w', Rd w' a n c l → Rd w' a' (n - i) (c - i) (l.drop i)) ∧ (a' = none → c - i = 0) ∧ (∀ x, a' = some x → ∃ y, a = some y ∧ x.block = y.block) := by
 have hle := hr.le
 have hcap := hr.cap
 refine ⟨if c = i then a else a.map (·.add (i * 1)), fun h => rfl, fun w' h => ?_, fun h => ?_, fun x hx => ?_⟩
 ·have hl := h.len
  by_cases hz : n - i = 0
  ·have h0 : l.drop i = [] := List.drop_eq_nil_of_le (by omega)
   rw [hz, h0]; exact Rd.zero _ _ _ (by omega)
  ·rw [if_neg (by omega)]
   rcases h.cells with h0 | ⟨b, off, rfl, _, _⟩
   ·omega
   ·have hadd : (Option.map (fun x => Addr.add x (i * 1)) (some (⟨b, off, none⟩ : Addr))) = some ⟨b, off + i, none⟩ := by
     rw [Nat.mul_one]; show some (Addr.add _ i) = _; unfold Addr.add; split <;> simp_all
    rw [hadd]
    have := h.part i n hi (Nat.le_refl _)
    rwa [List.take_of_length_le (by omega)] at this
 ·by_cases hc : c = i
  ·omega
  ·rw [if_neg hc] at h
   cases a with
   | none => have := hac rfl; omega
   | some x => cases h
 ·by_cases hc : c = i
  ·rw [if_pos hc] at hx; exact ⟨x, hx, rfl⟩
  ·rw [if_neg hc] at hx
   cases a with
   | none => cases hx
   | some y =>
    refine ⟨y, rfl, ?_⟩
    simp only [Option.map_some, Option.some.injEq] at hx
    rw [← hx]
    unfold Addr.add; split <;> rfl
theorem size_u8 (w : World) : (sizeOf (Tryz.prog.elem 28)).run Tryz.prog w = .ok 1 w := by kernel_rfl
theorem slice_l (w : World) (a : Option Addr) (n c i : Nat) (hi : i ≤ n) : (Instr.slice 28 (.slice a n c) (some (.int .i64 (i : Int))) none none).run Tryz.prog w = .ok (sliced a i n c 1) w := by
 rw [run_slice_l (P := Tryz.prog) (w := w) 28 a n c (by kernel_rfl) .i64 (i : Int) (by omega) (by omega), size_u8]; rfl
theorem slice_at (w : World) (x : Value) (lo hi mx : Option Value) : (Instr.sliceAt 28 x lo hi mx).run Tryz.prog w = (Instr.slice 28 x lo hi mx).run Tryz.prog w := run_sliceAt_slice (P := Tryz.prog) (w := w) _ x lo hi mx (by kernel_rfl)
end Go.Proofs.YtofadpodlaakbaaGreat

/- One step of a region that draws its order: what yields in whatever world is taken first, its slot named. Laws over any program. -/
namespace Go.Proofs.YtofadpodlaakbaaGreat
open Go
set_option linter.unusedVariables false
end Go.Proofs.YtofadpodlaakbaaGreat

/- A region that draws its order, by an invariant on which of its operations are done: each operation is handled once, whatever the number of orders. Laws over any program. -/
namespace Go.Proofs.YtofadpodlaakbaaGreat
open Go
set_option linter.unusedVariables false
def backB (ops : Array Oper) : Bool :=
 (List.range ops.size).all fun i => ((ops[i]?).map fun o => o.after.all fun e => !Region.binds .any e || decide (e.on < i)).getD true
theorem backB_spec {ops : Array Oper} (h : backB ops = true) (i : Nat) (o : Oper) (ho : ops[i]? = some o) (e : _) (he : e ∈ o.after) (hb : Region.binds .any e = true) : e.on < i := by
 have hi : i < ops.size := (Array.getElem?_eq_some_iff.1 ho).1
 simp only [backB, List.all_eq_true, List.mem_range] at h
 have h1 := h i hi
 rw [ho] at h1
 simp only [Option.map_some, Option.getD_some] at h1
 have h2 := (Array.all_eq_true_iff_forall_mem.1 h1) e he
 simpa [hb] using h2
def leftN (l : List Bool) : Nat := (l.filter fun b => !b).length
theorem leftN_set : ∀ (l : List Bool) (i : Nat), l[i]? = some false → leftN (l.set i true) + 1 = leftN l
 | [], i, h => by simp at h
 | b :: r, 0, h => by
  simp only [List.getElem?_cons_zero, Option.some.injEq] at h
  subst h; simp [leftN]
 | b :: r, i + 1, h => by
  simp only [List.getElem?_cons_succ] at h
  have := leftN_set r i h
  simp only [List.set_cons_succ, leftN, List.filter_cons] at this ⊢
  cases b <;> simp at this ⊢ <;> omega
theorem leftN_zero : ∀ (l : List Bool), leftN l = 0 → ∀ i, i < l.length → l[i]? = some true
 | [], _, i, hi => by simp at hi
 | b :: r, h, 0, _ => by cases b <;> simp [leftN] at h ⊢
 | b :: r, h, i + 1, hi => by
  rw [List.getElem?_cons_succ]
  refine leftN_zero r ?_ i (by simpa using hi)
  cases b
  ·simp [leftN] at h
  ·simpa [leftN] using h
section
variable {P : Program} {ops : Array Oper} {Q : Exit → Act → World → Prop}
theorem ready_mem {l : Array Bool} {i : Nat} (h : i ∈ Region.ready .any ops l) : ∃ o, ops[i]? = some o ∧ l.getD i true = false ∧ ∀ e ∈ o.after, Region.binds .any e = true → l.getD e.on false = true := by
 simp only [Region.ready, List.mem_filter, List.mem_range, Bool.and_eq_true] at h
 obtain ⟨hi, h1, h2⟩ := h
 rw [Array.getElem?_eq_getElem hi] at h2
 refine ⟨ops[i], Array.getElem?_eq_getElem hi, by simpa using h1, fun e he hb => ?_⟩
 simp only [Option.map_some, Option.getD_some] at h2
 have h3 := (Array.all_eq_true_iff_forall_mem.1 h2) e he
 simpa [hb] using h3
theorem ready_nil (hb : backB ops = true) {l : Array Bool} (hs : l.size = ops.size) (h : Region.ready .any ops l = []) : ∀ i, i < ops.size → l.getD i true = true := by
 intro i
 induction i using Nat.strongRecOn with
 | _ i ih =>
  intro hi
  cases hl : l.getD i true with
  | true => rfl
  | false =>
   exfalso
   have : i ∈ Region.ready .any ops l := by
    simp only [Region.ready, List.mem_filter, List.mem_range, Bool.and_eq_true]
    refine ⟨hi, by rw [hl]; rfl, ?_⟩
    rw [Array.getElem?_eq_getElem hi]
    simp only [Option.map_some, Option.getD_some]
    refine Array.all_eq_true_iff_forall_mem.2 fun e he => ?_
    cases hbe : Region.binds .any e with
    | false => rfl
    | true =>
     have hlt := backB_spec hb i ops[i] (Array.getElem?_eq_getElem hi) e he hbe
     have h1 := ih e.on hlt (by omega)
     have hsz : e.on < l.size := by omega
     simp only [Array.getD_eq_getD_getElem?, Array.getElem?_eq_getElem hsz, Option.getD_some] at h1 ⊢
     simp [h1]
   rw [h] at this
   cases this
theorem wpAny_inv (hb : backB ops = true) (I : Array Bool → Act → World → Prop)
  (hstep : ∀ (i : Nat) (o : Oper) (l : Array Bool) (a : Act) (w : World), ops[i]? = some o → l.size = ops.size → l.getD i true = false →
   (∀ e ∈ o.after, Region.binds .any e = true → l.getD e.on false = true) → I l a w → ∀ K : Act → World → Prop, (∀ a' w', I (l.setIfInBounds i true) a' w' → K a' w') →
   if Region.wanted o (yielded ops a.tmps) = true then o.wp P a w K Q else K (a.put o.dst undef) w)
  (hend : ∀ (l : Array Bool) (a : Act) (w : World), (∀ i, i < ops.size → l.getD i true = true) → l.size = ops.size → I l a w → Q .normal a w) :
  ∀ (fuel : Nat) (l : Array Bool) (a : Act) (w : World), l.size = ops.size → leftN l.toList ≤ fuel → I l a w → wpAny P .any ops Q fuel l a w := by
 intro fuel
 induction fuel with
 | zero =>
  intro l a w hs hf hI
  have hall : ∀ i, i < ops.size → l.getD i true = true := fun i hi => by
   have := leftN_zero l.toList (by omega) i (by simpa [hs] using hi)
   rw [Array.getElem?_toList] at this
   simp [Array.getD_eq_getD_getElem?, this]
  refine ⟨?_, hend l a w hall hs hI⟩
  rw [List.eq_nil_iff_forall_not_mem]
  intro i hi
  obtain ⟨o, ho, h1, _⟩ := ready_mem hi
  rw [hall i (Array.getElem?_eq_some_iff.1 ho).1] at h1
  cases h1
 | succ fuel ih =>
  intro l a w hs hf hI
  refine ⟨fun h => hend l a w (ready_nil hb hs h) hs hI, fun i hi => ?_⟩
  obtain ⟨o, ho, h1, h2⟩ := ready_mem hi
  have hil : i < l.size := by rw [hs]; exact (Array.getElem?_eq_some_iff.1 ho).1
  refine wpOp_step ho fun K hK => hstep i o l a w ho hs h1 h2 hI K fun a' w' hI' => hK a' w' (ih _ a' w' (by simp [hs]) ?_ hI')
  have h3 : l.toList[i]? = some false := by
   rw [Array.getElem?_toList, Array.getElem?_eq_getElem hil]
   simp only [Array.getD_eq_getD_getElem?, Array.getElem?_eq_getElem hil, Option.getD_some] at h1
   rw [h1]
  have h4 := leftN_set l.toList i h3
  rw [Array.toList_setIfInBounds]
  omega
theorem region_inv {id : Nat} {a : Act} {w : World} (hm : P.follows .mixedOrders = true) (hb : backB ops = true) (I : Array Bool → Act → World → Prop)
  (h0 : I (Array.replicate ops.size false) a w.drew)
  (hstep : ∀ (i : Nat) (o : Oper) (l : Array Bool) (a : Act) (w : World), ops[i]? = some o → l.size = ops.size → l.getD i true = false →
   (∀ e ∈ o.after, Region.binds .any e = true → l.getD e.on false = true) → I l a w → ∀ K : Act → World → Prop, (∀ a' w', I (l.setIfInBounds i true) a' w' → K a' w') →
   if Region.wanted o (yielded ops a.tmps) = true then o.wp P a w K Q else K (a.put o.dst undef) w)
  (hend : ∀ (l : Array Bool) (a : Act) (w : World), (∀ i, i < ops.size → l.getD i true = true) → l.size = ops.size → I l a w → Q .normal a w) :
  (Code.region id ops true).wp P Q a w := by
 refine wp_region_any hm ?_
 refine wpAny_inv hb I hstep hend ops.size _ a _ (by simp) ?_ h0
 have : ∀ n, leftN (List.replicate n false) = n := fun n => by simp [leftN]
 simp [this]
end
def On (f : Array Bool) (j : Nat) : Prop := f.getD j false = true
theorem on_put {f : Array Bool} {i j : Nat} (hi : i < f.size) : On (f.setIfInBounds i true) j ↔ (j = i ∨ On f j) := by
 simp only [On, Array.getD_eq_getD_getElem?, Array.getElem?_setIfInBounds]
 by_cases e : i = j
 ·subst e; simp [hi]
 ·rw [if_neg e]
  constructor
  ·exact fun h => .inr h
  ·rintro (h | h)
   ·exact absurd h.symm e
   ·exact h
theorem on_back {f : Array Bool} {i j : Nat} (hi : i < f.size) (h : On (f.setIfInBounds i true) j) (hne : j ≠ i) : On f j := ((on_put hi).1 h).resolve_left hne
theorem on3 {f : Array Bool} {i : Nat} (h : i < f.size) : (∀ j, j ≠ i → On (f.setIfInBounds i true) j → On f j) ∧ (∀ j, On f j → On (f.setIfInBounds i true) j) ∧ On (f.setIfInBounds i true) i :=
  ⟨fun _ hj x => on_back h x hj, fun _ x => (on_put h).2 (.inr x), (on_put h).2 (.inl rfl)⟩
theorem on_off {f : Array Bool} {i : Nat} (hi : i < f.size) (h : f.getD i true = false) : ¬ On f i := by
 intro h2
 simp only [On, Array.getD_eq_getD_getElem?, Array.getElem?_eq_getElem hi, Option.getD_some] at h h2
 rw [h] at h2; cases h2
theorem on_all {f : Array Bool} {n : Nat} (h : ∀ i, i < n → f.getD i true = true) (hs : f.size = n) (j : Nat) (hj : j < n) : On f j := by
 have := h j hj
 simpa only [On, Array.getD_eq_getD_getElem?, Array.getElem?_eq_getElem (show j < f.size by omega), Option.getD_some] using this
end Go.Proofs.YtofadpodlaakbaaGreat

/- A region that draws its order, by an invariant: the frame is told by a function from slots to values, so that a wide frame costs no letter a slot. Laws over any program. -/
namespace Go.Proofs.YtofadpodlaakbaaGreat
open Go
set_option linter.unusedVariables false
def upd (g : Nat → Value) (d : Nat) (v : Value) : Nat → Value := fun j => cond (Nat.beq j d) v (g j)
theorem upd_same {g : Nat → Value} {d : Nat} {v : Value} (h : g d = v) : upd g d v = g := by
 funext j
 unfold upd
 cases e : Nat.beq j d with
 | false => rfl
 | true => rw [Nat.eq_of_beq_eq_true e, h]; rfl
theorem upd_at {g : Nat → Value} {d : Nat} {v : Value} : upd g d v d = v := by unfold upd; rw [Nat.beq_refl]; rfl
theorem upd_past {g : Nat → Value} {d j : Nat} {v : Value} (h : j ≠ d) : upd g d v j = g j := by
 unfold upd
 cases e : Nat.beq j d with
 | false => rfl
 | true => exact absurd (Nat.eq_of_beq_eq_true e) h
def dkN : List Nat → Nat → Nat
 | [], _ => 0
 | x :: _, 0 => x
 | _ :: l, n + 1 => dkN l n
def vkN : List Value → Nat → Value
 | [], _ => undef
 | x :: _, 0 => x
 | _ :: l, n + 1 => vkN l n
theorem vals_step {f : Array Bool} {g : Nat → Value} {n : Nat} {v : Value} {N : Nat} {ds : List Nat} {vs : List Value} {ex : Nat → Bool} (hD : ∀ j, j < N → ∀ n, n < N → j ≠ n → dkN ds j ≠ dkN ds n) (hn : n < N) (hi : n < f.size)
  (P : ∀ j, j < N → ex j = false → On f j → g (dkN ds j) = vkN vs j) (hv : ex n = false → v = vkN vs n) :
  ∀ j, j < N → ex j = false → On (f.setIfInBounds n true) j → upd g (dkN ds n) v (dkN ds j) = vkN vs j := by
 intro j hj he ho
 by_cases e : j = n
 ·subst e; rw [upd_at]; exact hv he
 ·rw [upd_past (hD j hj n hn e)]; exact P j hj he (on_back hi ho e)
theorem vals_keep {f : Array Bool} {g : Nat → Value} {n : Nat} {N : Nat} {ds : List Nat} {vs : List Value} {ex : Nat → Bool} (hi : n < f.size) (hx : ex n = true)
  (P : ∀ j, j < N → ex j = false → On f j → g (dkN ds j) = vkN vs j) : ∀ j, j < N → ex j = false → On (f.setIfInBounds n true) j → g (dkN ds j) = vkN vs j :=
 fun j hj h x => P j hj h (on_back hi x (by rintro rfl; rw [hx] at h; cases h))
section
variable {P : Program} {ops : Array Oper} {Q : Exit → Act → World → Prop}
theorem region_fun {id : Nat} {a : Act} {w : World} (hm : P.follows .mixedOrders = true) (hb : backB ops = true) (T : (Nat → Value) → Array Value) (ha : a = ⟨T (vkN a.tmps.toList), []⟩) (I : Array Bool → (Nat → Value) → World → Prop)
  (h0 : I (Array.replicate ops.size false) (vkN a.tmps.toList) w.drew)
  (hstep : ∀ (i : Nat) (o : Oper) (l : Array Bool) (g : Nat → Value) (w : World), ops[i]? = some o → l.size = ops.size → l.getD i true = false →
   (∀ e ∈ o.after, Region.binds .any e = true → l.getD e.on false = true) → I l g w → ∀ K : Act → World → Prop, (∀ g' w', I (l.setIfInBounds i true) g' w' → K ⟨T g', []⟩ w') →
   if Region.wanted o (yielded ops (T g)) = true then o.wp P ⟨T g, []⟩ w K Q else K ((⟨T g, []⟩ : Act).put o.dst undef) w)
  (hend : ∀ (l : Array Bool) (g : Nat → Value) (w : World), (∀ i, i < ops.size → l.getD i true = true) → l.size = ops.size → I l g w → Q .normal ⟨T g, []⟩ w) :
  (Code.region id ops true).wp P Q a w := by
 refine region_inv hm hb (fun l a w => ∃ g, a = ⟨T g, []⟩ ∧ I l g w) ⟨_, ha, h0⟩ ?_ ?_
 ·rintro i o l a w ho hs h1 h2 ⟨g, rfl, hI⟩ K hK
  exact hstep i o l g w ho hs h1 h2 hI K fun g' w' h => hK _ _ ⟨g', rfl, h⟩
 ·rintro l a w hall hs ⟨g, rfl, hI⟩
  exact hend l g w hall hs hI
theorem region_funD (ds : List Deferred) {id : Nat} {a : Act} {w : World} (hm : P.follows .mixedOrders = true) (hb : backB ops = true) (T : (Nat → Value) → Array Value) (ha : a = ⟨T (vkN a.tmps.toList), ds⟩) (I : Array Bool → (Nat → Value) → World → Prop)
  (h0 : I (Array.replicate ops.size false) (vkN a.tmps.toList) w.drew)
  (hstep : ∀ (i : Nat) (o : Oper) (l : Array Bool) (g : Nat → Value) (w : World), ops[i]? = some o → l.size = ops.size → l.getD i true = false →
   (∀ e ∈ o.after, Region.binds .any e = true → l.getD e.on false = true) → I l g w → ∀ K : Act → World → Prop, (∀ g' w', I (l.setIfInBounds i true) g' w' → K ⟨T g', ds⟩ w') →
   if Region.wanted o (yielded ops (T g)) = true then o.wp P ⟨T g, ds⟩ w K Q else K ((⟨T g, ds⟩ : Act).put o.dst undef) w)
  (hend : ∀ (l : Array Bool) (g : Nat → Value) (w : World), (∀ i, i < ops.size → l.getD i true = true) → l.size = ops.size → I l g w → Q .normal ⟨T g, ds⟩ w) :
  (Code.region id ops true).wp P Q a w := by
 refine region_inv hm hb (fun l a w => ∃ g, a = ⟨T g, ds⟩ ∧ I l g w) ⟨_, ha, h0⟩ ?_ ?_
 ·rintro i o l a w ho hs h1 h2 ⟨g, rfl, hI⟩ K hK
  exact hstep i o l g w ho hs h1 h2 hI K fun g' w' h => hK _ _ ⟨g', rfl, h⟩
 ·rintro l a w hall hs ⟨g, rfl, hI⟩
  exact hend l g w hall hs hI
end
theorem app_run_at {P : Program} {ops : Array Oper} {o : Oper} {ts : Array Value} {ds : List Deferred} {w : World} {K : Act → World → Prop} {Q : Exit → Act → World → Prop} {E : Prop}
  (hw : Region.wanted o (yielded ops ts) = true) (s x : Operand) (t : TypeId) (hop : o.op = Op.call { callee := Callee.builtin Builtin.append, args := #[s, x], argTypes := #[t, t] })
  {v y v' : Value} {w' : World} (hs : Act.eval ⟨ts, ds⟩ s = v) (hx : Act.eval ⟨ts, ds⟩ x = y) (hrun : (Builtin.append_ #[t, t] o.type #[v, y]).run P w = .ok v' w') (hK : K (Act.put ⟨ts, ds⟩ o.dst v') w') :
  if Region.wanted o (yielded ops ts) = true then o.wp P ⟨ts, ds⟩ w K Q else E := by
 rw [if_pos hw]
 exact Lib.wp_append_run w s x t t hop v y hs hx v' w' hrun hK
theorem one_slice_at {P : Program} {ops : Array Oper} {o : Oper} {ts : Array Value} {ds : List Deferred} {w : World} {K : Act → World → Prop} {Q : Exit → Act → World → Prop} {E : Prop}
  (hw : Region.wanted o (yielded ops ts) = true) (t e : TypeId) (x : Operand) (hop : o.op = .buildSlice t 1 #[(0, x)]) (cs : List Value) (hx : Act.eval ⟨ts, ds⟩ x = .agg cs.toArray) (ie : TypeInfo) (z : Value)
  (hu : P.underlying t = some (.slice e)) (hie : P.info? e = some ie) (hz : ie.zero = some z) (hs : ie.size = cs.length) (hpos : 0 < cs.length) (hsmall : cs.length ≤ 1000)
  (hK : K (Act.put ⟨ts, ds⟩ o.dst (.slice (some ⟨w.heap.size, 0, none⟩) 1 1)) (w.alloc (.cells cs.toArray e))) :
  if Region.wanted o (yielded ops ts) = true then o.wp P ⟨ts, ds⟩ w K Q else E := by
 rw [if_pos hw]
 refine wp_buildSlice t e 1 #[(0, x)] hop cs.toArray ie z hu hie hz (by rw [hs]; omega) (by rw [hs]; omega) ?_ hK
 have := Great.fill_whole (s := ie.size) (by rw [hs]; exact hpos) [.agg cs.toArray] ((Array.range (1 * ie.size)).map (z.cells[· % z.cells.size]!)) (by intro v hv; simp only [List.mem_singleton] at hv; subst hv; show cs.toArray.size = _; rw [List.size_toArray, hs]) (by simp)
 simpa [hx, Value.cells] using this
end Go.Proofs.YtofadpodlaakbaaGreat

/- A variable of a few cells that a walk has made, as one fact on its block; loads and stores of it as steps of a region. No program in sight. -/
namespace Go.Proofs.YtofadpodlaakbaaGreat
open Go Go.RowKit
set_option linter.unusedVariables false
def Cel (w : World) (b : Nat) (t : TypeId) (vs : List Value) : Prop := w.heap[b]? = some (.cells vs.toArray t (0, 0))
section
variable {w w' : World} {b : Nat} {t : TypeId} {vs : List Value}
theorem Cel.at (h : Cel w b t vs) (i : Nat) (v : Value) (hv : vs[i]? = some v) : w.cell? ⟨b, i, none⟩ = some v := by
 unfold World.cell?
 rw [h]
 simpa using hv
theorem Cel.free (h : Cel w b t vs) (i : Nat) : w.frozen? ⟨b, i, none⟩ = false := by
 unfold World.frozen?
 rw [h]
 simp
theorem Cel.lt (h : Cel w b t vs) : b < w.heap.size := (Array.getElem?_eq_some_iff.1 h).1
theorem Cel.below {B : Nat} (h : Cel w b t vs) (hb : Below B w w') (hB : b < B) : Cel w' b t vs := (hb.block b hB).trans h
theorem Cel.step (h : Cel w b t vs) (hb : Below w.heap.size w w') : Cel w' b t vs := h.below hb h.lt
theorem Cel.new (w : World) (t : TypeId) (vs : List Value) : Cel (w.alloc (.cells vs.toArray t)) w.heap.size t vs := by
 show (w.heap.push _)[w.heap.size]? = _
 simp
theorem Cel.there (h : Cel w b t vs) : w.there b 0 vs.length := fun j hj => by
 rw [Nat.zero_add]
 exact ⟨by rw [h.at j vs[j] (List.getElem?_eq_getElem hj)]; rfl, h.free j⟩
theorem Cel.range (h : Cel w b t vs) : w.rangeAt b 0 vs := fun j v hj => by rw [Nat.zero_add]; exact h.at j v hj
end
structure Only (w w' : World) (b : Nat) : Prop where
 os : w'.os = w.os
 tape : w'.tape = w.tape
 output : w'.output = w.output
 size : w'.heap.size = w.heap.size
 block : ∀ k, k ≠ b → w'.heap[k]? = w.heap[k]?
theorem Only.refl (w : World) (b : Nat) : Only w w b := ⟨rfl, rfl, rfl, rfl, fun _ _ => rfl⟩
theorem Only.trans {w w' w'' : World} {b : Nat} (h : Only w w' b) (k : Only w' w'' b) : Only w w'' b := ⟨k.os.trans h.os, k.tape.trans h.tape, k.output.trans h.output, k.size.trans h.size, fun i hi => (k.block i hi).trans (h.block i hi)⟩
theorem Only.below {w0 w w' : World} {B b : Nat} (k : Only w w' b) (h : Below B w0 w) (hb : B ≤ b) : Below B w0 w' :=
 ⟨k.os.trans h.os, k.tape.trans h.tape, k.output.trans h.output, by rw [k.size]; exact h.size, fun i hi => (k.block i (by omega)).trans (h.block i hi)⟩
theorem Only.heap {w w' : World} {b k : Nat} {o : Obj} (h : Only w w' b) (hk : w.heap[k]? = some o) (hne : k ≠ b) : w'.heap[k]? = some o := (h.block k hne).trans hk
theorem heap_set_at (w : World) (b i : Nat) (v : Value) (cs : Array Value) (t : TypeId) (f : Nat × Nat) (h : w.heap[b]? = some (.cells cs t f)) : (w.setCell ⟨b, i, none⟩ v).heap[b]? = some (.cells (cs.setIfInBounds i v) t f) := by
 unfold World.setCell
 simp [Array.getElem?_modify, h]
theorem only_set (w : World) (b i : Nat) (v : Value) : Only w (w.setCell ⟨b, i, none⟩ v) b := by
 refine ⟨rfl, rfl, rfl, by simp, fun k hk => ?_⟩
 unfold World.setCell
 simp only [Array.getElem?_modify]
 rw [if_neg (fun h => hk h.symm)]
theorem Cel.set {w : World} {b : Nat} {t : TypeId} {vs : List Value} (h : Cel w b t vs) (i : Nat) (v : Value) : Cel (w.setCell ⟨b, i, none⟩ v) b t (vs.set i v) := by
 unfold Cel
 rw [heap_set_at w b i v _ _ _ h]
 simp
theorem only_sets (b : Nat) : ∀ (vs : List Value) (o : Nat) (w : World), Only w (w.setCells b o vs) b
 | [], o, w => Only.refl w b
 | v :: r, o, w => (only_set w b o v).trans (only_sets b r (o + 1) _)
theorem Cel.sets (b : Nat) (t : TypeId) : ∀ (vs pre us : List Value) (w : World), us.length = vs.length → Cel w b t (pre ++ us) → Cel (w.setCells b pre.length vs) b t (pre ++ vs)
 | [], pre, us, w, hl, h => by
  obtain rfl : us = [] := List.eq_nil_of_length_eq_zero hl
  exact h
 | v :: r, pre, [], w, hl, h => by simp at hl
 | v :: r, pre, u :: us, w, hl, h => by
  have h1 := h.set pre.length v
  have e1 : (pre ++ u :: us).set pre.length v = (pre ++ [v]) ++ us := by simp
  rw [e1] at h1
  have h2 := Cel.sets b t r (pre ++ [v]) us _ (by simpa using hl) h1
  rw [show (pre ++ [v]).length = pre.length + 1 by simp] at h2
  have e2 : (pre ++ [v]) ++ r = pre ++ v :: r := by simp
  rw [e2] at h2
  exact h2
theorem Cel.grown {w w' : World} {b : Nat} {t : TypeId} {vs : List Value} {row : Option Nat} (h : Cel w b t vs) (hg : w.grownBy w' row) (hne : ∀ k, row = some k → b < k) : Cel w' b t vs := by
 obtain ⟨_, _, _, _, h5⟩ := hg
 exact (h5 b h.lt (by
  intro e
  have := hne b e.symm
  omega)).trans h
theorem size_alloc' (w : World) (o : Obj) : (w.alloc o).heap.size = w.heap.size + 1 := Array.size_push ..
section
variable {P : Program} {ops : Array Oper} {Q : Exit → Act → World → Prop} {o : Oper} {w : World} {K : Act → World → Prop} {E : Prop} {ts : Array Value} {ds : List Deferred}
theorem cel_store {b : Nat} {t : TypeId} {us : List Value} (hw : Region.wanted o (yielded ops ts) = true) (hd : o.dst = none) (ty : TypeId) (x y : Operand) (ho : o.op = .store ty x y)
  (hx : Act.eval ⟨ts, ds⟩ x = .pointer (some ⟨b, 0, none⟩)) (cs : List Value) (hy : Act.eval ⟨ts, ds⟩ y = .agg cs.toArray) (hc : Cel w b t us) (hl : us.length = cs.length) (hi : (P.info? ty).map (·.size) = some cs.length) (h1 : ∀ v ∈ cs, v.oneCell' = true)
  (h : ∀ w', Cel w' b t cs → Only w w' b → K ⟨ts, ds⟩ w') : if Region.wanted o (yielded ops ts) = true then o.wp P ⟨ts, ds⟩ w K Q else E := by
 rw [if_pos hw]
 refine wp_store_mid ty x y ho b 0 cs.toArray hx hy (by rw [List.size_toArray, ← hl]; exact hc.there) (by rw [List.size_toArray]; exact hi) (all_oneCell_toArray h1) ?_
 rw [hd, List.toList_toArray]
 refine h _ ?_ (only_sets b cs 0 w)
 have := Cel.sets b t cs [] us w hl (by simpa using hc)
 simpa using this
end
end Go.Proofs.YtofadpodlaakbaaGreat
