/- Slices of bytes that are owned, read, appended to, cut and made texts of: small laws over any program. -/
import Derived.Test.YtdefdccbcnpodaaBase
import Derived.Lib.AppendZeros
import Derived.Lib.AppendStr
import Derived.Laws.AppendOwn
import Derived.Laws.OwnMore
import Derived.Shelf.Bytes.SlEqualAll
import Derived.Deep.RegionLaw
namespace Go.Proofs.Ytdefdccbcnpodaa
open Go Go.RowKit
set_option linter.unusedVariables false
variable {P : Program}

/-- A text as a value. -/
def S (l : List UInt8) : Value := .string ⟨l.toArray⟩

theorem toList_bytes (l : List UInt8) : ByteArray.toList ⟨l.toArray⟩ = l := by rw [Lib.toList_data]

theorem Rd.bytesIn {w : World} {a : Option Addr} {n c : Nat} {l : List UInt8} (h : Rd w a n c l) : Lib.BytesIn w a n (l.map fun c => (c.toNat : Int)) := by
  intro hn
  rcases h.cells with h0 | ⟨b, off, e, _, hc⟩
  · omega
  · refine ⟨b, off, e, fun i hi => ?_⟩
    rw [hc i hi]
    have hl : i < l.length := by have := h.len; omega
    simp [hl]

theorem strOfNums_bytes (l : List UInt8) : strOfNums (l.map fun c => (c.toNat : Int)) = ⟨l.toArray⟩ := by
  have h := Lib.strOfNums_toList (l.map fun c => (c.toNat : Int))
  have e : Lib.bytesOf (l.map fun c => (c.toNat : Int)) = l := by
    unfold Lib.bytesOf
    rw [List.map_map]
    conv => rhs; rw [← List.map_id l]
    refine List.map_congr_left fun c _ => ?_
    simp
  rw [e] at h
  have h2 := Lib.toList_data (strOfNums (l.map fun c => (c.toNat : Int)))
  rw [h] at h2
  generalize strOfNums (l.map fun c => (c.toNat : Int)) = s at h2 ⊢
  obtain ⟨d⟩ := s
  congr 1
  apply Array.ext'
  simpa using h2.symm

/-- 'string(b)'. -/
theorem Rd.str {w : World} {a : Option Addr} {n c : Nat} {l : List UInt8} (h : Rd w a n c l) (src e dst : TypeId) (hs : P.underlying src = some (.slice e)) (he : P.underlying e = some (.int .u8)) (hd : P.underlying dst = some .string) :
    (convert src dst (.slice a n c)).run P w = .ok (S l) w := by
  have := h.bytesIn.convert (P := P) (by rw [List.length_map]; exact h.len) c src e dst hs he hd
  rw [this, strOfNums_bytes]; rfl

theorem Rd.of_own {w : World} {base : Nat} {e : TypeId} {v : Value} {n : Nat} {l : List UInt8} (h : w.ownsRow base e 1 v n (l.map B)) : ∃ a c, v = .slice a n c ∧ Rd w a n c l := by
  have hl : l.length = n := by have := h.1; simpa using this
  rcases h.2 with ⟨rfl, rfl⟩ | ⟨g, cap, cur, rfl, _, hg, hn, hc, _, ht⟩
  · exact ⟨none, 0, rfl, hl, Nat.le_refl _, by decide, .inl rfl⟩
  · refine ⟨_, cap, rfl, hl, hn, by unfold maxLen at hc; omega, .inr ⟨g, 0, rfl, (Array.getElem?_eq_some_iff.1 hg).1, fun i hi => ?_⟩⟩
    have := h.cells (g := g) rfl i (B (l.getD i 0)) (by simp [show i < l.length by omega])
    have hadd : (⟨g, 0, none⟩ : Addr).add i = ⟨g, 0 + i, none⟩ := by unfold Addr.add; split <;> simp_all
    rw [hadd] at this; exact this

/-- A part of a slice that is read. -/
theorem Rd.part {w : World} {b off n c : Nat} {l : List UInt8} (h : Rd w (some ⟨b, off, none⟩) n c l) (i j : Nat) (hij : i ≤ j) (hj : j ≤ n) : Rd w (some ⟨b, off + i, none⟩) (j - i) (c - i) ((l.take j).drop i) := by
  refine ⟨?_, ?_, ?_, ?_⟩
  · have := h.len; simp; omega
  · have := h.le; omega
  · have := h.cap; omega
  · rcases h.cells with h0 | ⟨b', off', e, hlt, hc⟩
    · exact .inl (by omega)
    · simp only [Option.some.injEq, Addr.mk.injEq, and_true] at e
      obtain ⟨rfl, rfl⟩ := e
      refine .inr ⟨b, off + i, rfl, hlt, fun k hk => ?_⟩
      have := hc (i + k) (by omega)
      rw [Nat.add_assoc, this]
      have hl := h.len
      simp [show i + k < l.length by omega, show i + k < j by omega]
/-- The first bytes of a slice that is read. -/
theorem Rd.front {w : World} {a : Option Addr} {n c : Nat} {l : List UInt8} (h : Rd w a n c l) (j : Nat) (hj : j ≤ n) : Rd w a j c (l.take j) := by
  refine ⟨by have := h.len; simp; omega, Nat.le_trans hj h.le, h.cap, ?_⟩
  rcases h.cells with h0 | ⟨b, off, e, hlt, hc⟩
  · exact .inl (by omega)
  · refine .inr ⟨b, off, e, hlt, fun k hk => ?_⟩
    rw [hc k (by omega)]
    have hl := h.len
    simp [show k < l.length by omega, hk]
/-- No byte: whatever the address. -/
theorem Rd.zero (w : World) (a : Option Addr) (c : Nat) (hc : c ≤ 9223372036854775807) : Rd w a 0 c [] := ⟨rfl, Nat.zero_le _, hc, .inl rfl⟩

/-- 'append(v, x...)': v is the call's own, x is read. -/
theorem run_app {w : World} {base : Nat} {t ty e : TypeId} {i : TypeInfo} {z : Value} (ht : P.underlying t = some (.slice e)) (hi : P.info? e = some i) (hz : i.zero = some z) (hsize : i.size = 1) (hby : i.bytes = 1) (hzs : z.cells.size = 1)
    {v : Value} {n : Nat} {xs : List Value} (hown : w.ownsRow base e 1 v n xs) {a : Option Addr} {m c : Nat} {l : List UInt8} (hr : Rd w a m c l) (hac : a = none → c = 0)
    (h63 : n + m ≤ 140737488355328) (hbase : base ≤ w.heap.size) :
    ∃ v' w', (Builtin.append_ #[t, t] ty #[v, .slice a m c]).run P w = .ok v' w' ∧ w'.ownsRow base e 1 v' (n + m) (xs ++ l.map B) ∧ w.grownBy w' v.ownBlock := by
  have hl := hr.len
  cases a with
  | none =>
    have hm : m = 0 := by
      rcases hr.cells with h0 | ⟨b, off, e, _⟩
      · exact h0
      · cases e
    obtain rfl := hac rfl
    subst hm
    have : l = [] := List.eq_nil_of_length_eq_zero hl
    subst this
    exact ⟨v, w, run_append_owned_none (P := P) w base t ty e i 1 ht hi v n xs hown, by simpa using hown, ⟨rfl, rfl, rfl, Nat.le_refl _, fun _ _ _ => rfl⟩⟩
  | some ad =>
    obtain ⟨v', w', h1, h2, h3, _⟩ := run_append_own (P := P) w base t ty e i z 1 1 ht hi hz hsize hby hzs (by decide) v n xs hown ad m c (l.map B) (by simpa using hl) (by
      intro j u hu
      have hj : j < m := by have := (List.getElem?_eq_some_iff.1 hu).1; simpa [hl] using this
      rcases hr.cells with h0 | ⟨b, off, e, _, hc⟩
      · omega
      · cases e
        have hadd : (⟨b, off, none⟩ : Addr).add j = ⟨b, off + j, none⟩ := by unfold Addr.add; split <;> simp_all
        rw [hadd, hc j hj]
        have hjl : j < l.length := by omega
        rw [List.getElem?_map, List.getElem?_eq_getElem hjl] at hu
        simp only [Option.map_some, Option.some.injEq] at hu
        rw [← hu, List.getD_eq_getElem?_getD, List.getElem?_eq_getElem hjl]; rfl) (by
      intro u hu; obtain ⟨x, _, rfl⟩ := List.mem_map.1 hu; rfl) (by unfold maxLen; omega) (by omega) hbase
    exact ⟨v', w', h1, h2, h3⟩

/-- What a step that writes at most a row of the call's own leaves. -/
theorem below_own {B0 : Nat} {w0 w w' : World} {e : TypeId} {v : Value} {n : Nat} {xs : List Value} (hb : Below B0 w0 w) (hown : w.ownsRow B0 e 1 v n xs) (hg : w.grownBy w' v.ownBlock) (hB : B0 ≤ w.heap.size) : Below B0 w0 w' :=
  hb.grown hg hB (fun k hk => (hown.lt k hk).1)

/-- A slice of the call's own is of its own from a lower block on, too. -/
theorem ownsRow_mono {w : World} {base base' : Nat} {e : TypeId} {v : Value} {n : Nat} {xs : List Value} (h : w.ownsRow base e 1 v n xs) (hb : base' ≤ base) : w.ownsRow base' e 1 v n xs := by
  refine ⟨h.1, ?_⟩
  rcases h.2 with h2 | ⟨g, cap, cur, h2, hg, r⟩
  · exact .inl h2
  · exact .inr ⟨g, cap, cur, h2, Nat.le_trans hb hg, r⟩

/-- It is its own in whatever world stands behind a call. -/
theorem ownsRow_below {w w' : World} {base : Nat} {e : TypeId} {v : Value} {n : Nat} {xs : List Value} (h : w.ownsRow base e 1 v n xs) (hb : Below w.heap.size w w') : w'.ownsRow base e 1 v n xs := by
  refine ⟨h.1, ?_⟩
  rcases h.2 with h2 | ⟨g, cap, cur, h2, hg, hh, r⟩
  · exact .inl h2
  · exact .inr ⟨g, cap, cur, h2, hg, by rw [hb.block g (Array.getElem?_eq_some_iff.1 hh).1]; exact hh, r⟩

/-- 'append(v, x...)' as one step of a region that draws its order: v is the call's own, x is read. -/
theorem step_app {ops : Array Oper} {o : Oper} {a : Act} {w : World} {K : Act → World → Prop} {Q : Exit → Act → World → Prop} {E : Prop}
    (hg : o.guard = none) (s x : Operand) (t : TypeId) (hop : o.op = Op.call { callee := Callee.builtin Builtin.append, args := #[s, x], argTypes := #[t, t] })
    {e : TypeId} {i : TypeInfo} {z : Value} (ht : P.underlying t = some (.slice e)) (hi : P.info? e = some i) (hz : i.zero = some z) (hsize : i.size = 1) (hby : i.bytes = 1) (hzs : z.cells.size = 1)
    (base : Nat) {v : Value} {n : Nat} {xs : List Value} (hs : a.eval s = v) (hown : w.ownsRow base e 1 v n xs) {ad : Option Addr} {m c : Nat} {l : List UInt8} (hx : a.eval x = .slice ad m c) (hr : Rd w ad m c l) (hac : ad = none → c = 0)
    (h63 : n + m ≤ 140737488355328) (hbase : base ≤ w.heap.size)
    (hK : ∀ v' w', w'.ownsRow base e 1 v' (n + m) (xs ++ l.map B) → w.grownBy w' v.ownBlock → K (a.put o.dst v') w') :
    if Region.wanted o (yielded ops a.tmps) = true then Oper.wp P o a w K Q else E := by
  have hw : Region.wanted o (yielded ops a.tmps) = true := by simp [Region.wanted, hg]
  rw [if_pos hw]
  obtain ⟨v', w', hrun, h1, h2⟩ := run_app (P := P) (ty := o.type) ht hi hz hsize hby hzs hown hr hac h63 hbase
  exact Lib.wp_append_run w s x t t hop v _ hs hx v' w' hrun (hK v' w' h1 h2)
end Go.Proofs.Ytdefdccbcnpodaa
