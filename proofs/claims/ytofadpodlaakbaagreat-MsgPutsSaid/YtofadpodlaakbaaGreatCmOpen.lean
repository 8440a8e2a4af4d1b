/- A commit that came in: its parts. -/
import Derived.Test.YtofadpodlaakbaaGreatCmMay
import Derived.Lib.SmallJoins
import Derived.Deep.Slices
import Derived.Deep.Strs
namespace Go.Proofs.YtofadpodlaakbaaGreat
open Go.ChangeShapes Go.WideShapes Go.ChangeAt Go.RowKit
set_option linter.unusedVariables false

theorem map_of : ∀ (cs : List Value), (∀ c ∈ cs, ∃ b : UInt8, c = B b) → ∃ x : List UInt8, cs = Bs x
  | [], _ => ⟨[], rfl⟩
  | c :: r, h => by
    obtain ⟨b, rfl⟩ := h c List.mem_cons_self
    obtain ⟨x, rfl⟩ := map_of r fun d hd => h d (List.mem_cons_of_mem _ hd)
    exact ⟨b :: x, rfl⟩
set_option maxRecDepth 100000 in
theorem open_id {H : Type} {enc : TypeId × Value → H} {w : World} {base n : Nat} {spare : Nat → Bool} {held : Bool} {cs : List Value} {y : DataW H × List MemPlace}
    (h : DataW.trod enc Tryz.prog w base spare held n 48 cs = some y) : ∃ x : List UInt8, x.length = 32 ∧ cs = Bs x := by
  obtain ⟨xs, m, _, _, hc, hl, he⟩ := DataW.trod_array under_ids h
  have hC : Tryz.prog.cellsOf 48 = 32 := by kernel_rfl
  have hE : Tryz.prog.cellsOf 5 = 1 := by kernel_rfl
  rw [hC] at hc
  simp only [hE] at he
  obtain ⟨x, hx⟩ := map_of cs fun c hc' => by
    obtain ⟨i, hi, e⟩ := List.mem_iff_getElem.1 hc'
    have h1 := he i (by omega)
    have hx : xs[i]? = some xs[i] := List.getElem?_eq_getElem (by omega)
    rw [hx] at h1
    obtain ⟨n, h2, _, h3⟩ := DataW.trod_int Tryz.underlying5 h1
    have h4 : (List.drop i cs).take 1 = [c] := by
      rw [List.take_one, List.head?_drop, List.getElem?_eq_getElem hi, e]; rfl
    rw [Nat.mul_one, h4] at h2
    cases h2
    have hb : 0 ≤ n ∧ n ≤ 255 := by simpa [Lit.wf, IntKind.min, IntKind.max, IntKind.signed, IntKind.bits] using h3
    refine ⟨UInt8.ofNat n.toNat, ?_⟩
    show Value.int .u8 n = Value.int .u8 ((UInt8.ofNat n.toNat).toNat : Int)
    rw [UInt8.toNat_ofNat']
    congr 1
    omega
  exact ⟨x, by have := congrArg List.length hx; rw [Bs_length] at this; omega, hx⟩
set_option maxRecDepth 100000 in
theorem open_ids {H : Type} {enc : TypeId × Value → H} {w : World} {base n : Nat} {held : Bool} {v : Value} {y : DataW H × List MemPlace}
    (h : DataW.trod enc Tryz.prog w base (fun _ => true) held n 22 [v] = some y) : ∃ (a : Option Addr) (c : Nat) (l : List (List UInt8)), v = .slice a l.length c ∧ Ids w a l.length c l := by
  rcases Go.Deep.open_slice Tryz.underlying22 h with ⟨hcs, _⟩ | ⟨x, l, cap, m, k, D, Pl, hcs, _, hl, hm, hmm, _, hx⟩
  · cases hcs
    exact ⟨none, 0, [], rfl, Ids.nil w⟩
  · cases hcs
    simp only [if_true] at hmm
    subst hmm
    have hC : Tryz.prog.cellsOf 48 = 32 := by kernel_rfl
    rw [hC] at hx
    have each : ∀ i, i < m → ∃ q : List UInt8, q.length = 32 ∧ ∀ j, j < 32 → w.cell? (x.add (i * 32 + j)) = (Bs q)[j]? := by
      intro i hi
      obtain ⟨cs, h1, h2⟩ := hx i hi
      obtain ⟨_, hlen, hcell⟩ := World.cells?_some h1
      obtain ⟨q, hq, rfl⟩ := open_id h2
      refine ⟨q, hq, fun j hj => ?_⟩
      have c0 := hcell j hj
      rw [Go.Deep.add_add] at c0
      rw [c0]
    obtain ⟨f, hf⟩ := Go.Deep.choose_lt (α := List UInt8) each
    have hlen : ((List.range l).map f).length = l := by simp
    refine ⟨some x, m, (List.range l).map f, by rw [hlen], ?_⟩
    rw [hlen]
    refine ⟨hlen, hl, Nat.le_trans hm (by unfold maxLen; decide), (fun h => by cases h), ?_, ?_⟩
    · intro q hq
      obtain ⟨i, hi, rfl⟩ := List.mem_map.1 hq
      exact (hf i (by have := List.mem_range.1 hi; omega)).1
    by_cases h0 : l = 0
    · exact .inl h0
    obtain ⟨b, off, spot⟩ := x
    have hc0 := (hf 0 (by omega)).2 0 (by decide)
    obtain ⟨v0, hz⟩ : ∃ v0, (Bs (f 0))[0]? = some v0 := ⟨_, List.getElem?_eq_getElem (by rw [Bs_length, (hf 0 (by omega)).1]; decide)⟩
    rw [hz] at hc0
    have hspot : spot = none := by simpa [Addr.add] using World.cell?_spot hc0
    subst hspot
    refine .inr ⟨b, off, rfl, fun i hi j v hj => ?_⟩
    obtain ⟨h1, h2⟩ := hf i (by omega)
    have e : ((List.range l).map f).getD i [] = f i := by
      rw [List.getD_eq_getElem?_getD, List.getElem?_map, List.getElem?_range hi]; rfl
    have hadd : ∀ j, (⟨b, off, none⟩ : Addr).add j = ⟨b, off + j, none⟩ := by intro j; unfold Addr.add; split <;> simp_all
    rw [e] at hj
    have hj32 : j < 32 := by rw [← h1, ← Bs_length]; exact (List.getElem?_eq_some_iff.1 hj).1
    have := h2 j hj32
    rw [hadd, hj] at this
    rw [← this]
    congr 2
    omega
theorem list8 {α : Type} {cs : List α} (h : cs.length = 8) : ∃ c0 c1 c2 c3 c4 c5 c6 c7, cs = [c0, c1, c2, c3, c4, c5, c6, c7] := by
  match cs, h with
  | [c0, c1, c2, c3, c4, c5, c6, c7], _ => exact ⟨c0, c1, c2, c3, c4, c5, c6, c7, rfl⟩
set_option maxRecDepth 100000 in
/-- A commit's cells. -/
theorem open_cmc {H : Type} {enc : TypeId × Value → H} {w : World} {base n : Nat} {held : Bool} {cs : List Value} {y : DataW H × List MemPlace}
    (h : DataW.trod enc Tryz.prog w base (fun _ => true) held n 41 cs = some y) : ∃ (c : Cmt) (a : Option Addr) (cap : Nat), cs = c.cs a cap ∧ CmR w c a cap := by
  have hC : Tryz.prog.cellsOf 41 = 8 := by kernel_rfl
  have hE : Tryz.prog.cellsOf 37 = 2 := by kernel_rfl
  have hO : Tryz.prog.cellsOf 39 = 4 := by kernel_rfl
  have hI : Tryz.prog.cellsOf 3 = 1 := by kernel_rfl
  have hS : Tryz.prog.cellsOf 9 = 1 := by kernel_rfl
  have hP : Tryz.prog.cellsOf 22 = 1 := by kernel_rfl
  obtain ⟨y0, y1, y2, y3, n1, _, hl, h0, h1, h2, h3⟩ := Go.Joins.trod_struct4 Tryz.underlying41 h
  rw [hC] at hl
  obtain ⟨c0, c1, c2, c3, c4, c5, c6, c7, rfl⟩ := list8 hl
  simp only [hE, hO, hI, hP, List.drop_succ_cons, List.drop_zero, List.take_succ_cons, List.take_zero] at h0 h1 h2 h3
  obtain ⟨z0, z1, n2, _, _, g0, g1⟩ := trod_struct2 Tryz.underlying37 h0
  obtain ⟨u0, u1, u2, u3, n3, _, _, k0, k1, k2, k3⟩ := Go.Joins.trod_struct4 Tryz.underlying39 h3
  simp only [hI, hS, List.drop_succ_cons, List.drop_zero, List.take_succ_cons, List.take_zero] at g0 g1 k0 k1 k2 k3
  obtain ⟨x0, e0, _, _⟩ := DataW.trod_int Tryz.underlying3 g0
  obtain ⟨x1, e1, _, _⟩ := DataW.trod_int Tryz.underlying3 g1
  obtain ⟨x2, e2, _, _⟩ := DataW.trod_int Tryz.underlying3 h1
  obtain ⟨a, cap, l, e3, hids⟩ := open_ids h2
  obtain ⟨x4, e4, _, _⟩ := DataW.trod_int Tryz.underlying3 k0
  obtain ⟨x5, e5, _, b5⟩ := DataW.trod_string Tryz.underlying9 k1
  obtain ⟨x6, e6, _, b6⟩ := DataW.trod_string Tryz.underlying9 k2
  obtain ⟨x7, e7, _, _⟩ := DataW.trod_int Tryz.underlying3 k3
  cases e0; cases e1; cases e2; cases e4; cases e5; cases e6; cases e7
  subst e3
  obtain ⟨l5, rfl⟩ : ∃ l : List UInt8, x5 = ⟨l.toArray⟩ := ⟨x5.data.toList, by cases x5; simp⟩
  obtain ⟨l6, rfl⟩ : ∃ l : List UInt8, x6 = ⟨l.toArray⟩ := ⟨x6.data.toList, by cases x6; simp⟩
  exact ⟨⟨x0, x1, x2, l, ⟨x4, l5, l6, x7⟩⟩, a, cap, rfl, hids, by simpa [ByteArray.size, maxLen] using b5, by simpa [ByteArray.size, maxLen] using b6⟩
set_option maxRecDepth 100000 in
/-- A commit that came in. -/
theorem open_cm {H : Type} {enc : TypeId × Value → H} {w : World} {base b0 : Nat} {held : Bool} {r : Reach} {v : Value} {d : DataW H} {p : List MemPlace}
    (hv : Value.okWide Tryz.prog w r b0 41 v) (h : DataW.Trod enc Tryz.prog w base (fun _ => true) held 41 v d p) :
    ∃ (c : Cmt) (a : Option Addr) (cap : Nat), v = c.val a cap ∧ CmR w c a cap := by
  obtain ⟨cs, rfl, hsz⟩ := okWide_struct Tryz.underlying41 hv
  obtain ⟨fuel, hf⟩ := h
  obtain ⟨c, a, cap, e, hr⟩ := open_cmc hf
  refine ⟨c, a, cap, ?_, hr⟩
  unfold Cmt.val
  rw [← e]
  rfl
end Go.Proofs.YtofadpodlaakbaaGreat
