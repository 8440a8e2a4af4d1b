/- Rows of commits that are the call's own. -/
import Derived.Test.YtofadpodlaakbaaGreatMsgId
import Derived.Test.YtofadpodlaakbaaGreatMsgMay
import Derived.Test.YtofadpodlaakbaaGreatCmGet
import Derived.Maps.AppendAt
namespace Go.Proofs.YtofadpodlaakbaaGreat
open Go.ChangeShapes Go.WideShapes Go.ChangeAt Go.RowKit
set_option linter.unusedVariables false
set_option linter.unusedSimpArgs false
def cellsL : List Cmt → List (Option Addr × Nat) → List Value
 | c :: l, p :: ps => c.cs p.1 p.2 ++ cellsL l ps
 | _, _ => []
theorem Cmt.cs_length (c : Cmt) (a : Option Addr) (n : Nat) : (c.cs a n).length = 8 := rfl
theorem cellsL_snoc : ∀ (l : List Cmt) (ps : List (Option Addr × Nat)), l.length = ps.length → ∀ (c : Cmt) (p : Option Addr × Nat), cellsL (l ++ [c]) (ps ++ [p]) = cellsL l ps ++ c.cs p.1 p.2
 | [], [], _, c, p => by simp [cellsL]
 | x :: l, q :: ps, h, c, p => by
  have ih := cellsL_snoc l ps (by simpa using h) c p
  show x.cs q.1 q.2 ++ cellsL (l ++ [c]) (ps ++ [p]) = (x.cs q.1 q.2 ++ cellsL l ps) ++ c.cs p.1 p.2
  rw [ih, List.append_assoc]
 | [], _ :: _, h, _, _ => by simp at h
 | _ :: _, [], h, _, _ => by simp at h
theorem cellsL_at : ∀ (l : List Cmt) (ps : List (Option Addr × Nat)), l.length = ps.length → ∀ (i : Nat), i < l.length → ∀ (j : Nat) (v : Value), ((l.getD i noC).cs (ps.getD i (none, 0)).1 (ps.getD i (none, 0)).2)[j]? = some v → (cellsL l ps)[i * 8 + j]? = some v
 | [], _, _, i, hi, _, _, _ => by simp at hi
 | _ :: _, [], h, _, _, _, _, _ => by simp at h
 | x :: l, q :: ps, h, 0, _, j, v, hv => by
  unfold cellsL
  have hj : j < 8 := by
   have := (List.getElem?_eq_some_iff.1 hv).1
   rwa [Cmt.cs_length] at this
  rw [Nat.zero_mul, Nat.zero_add, List.getElem?_append_left (by rw [Cmt.cs_length]; exact hj)]
  exact hv
 | x :: l, q :: ps, h, i + 1, hi, j, v, hv => by
  unfold cellsL
  rw [List.getElem?_append_right (by rw [Cmt.cs_length]; omega), Cmt.cs_length, show (i + 1) * 8 + j - 8 = i * 8 + j by omega]
  exact cellsL_at l ps (by simpa using h) i (by simpa using hi) j v hv
theorem Ids.moved {w w' : World} {a : Option Addr} {n c : Nat} {l : List (List UInt8)} (h : Ids w a n c l) (hm : ∀ x, a = some x → 0 < n → ∀ j v, w.cell? ⟨x.block, j, none⟩ = some v → w'.cell? ⟨x.block, j, none⟩ = some v) : Ids w' a n c l := by
 refine ⟨h.len, h.le, h.cap, h.non, h.is32, ?_⟩
 by_cases h0 : n = 0
 ·exact .inl h0
 rcases h.cells with h1 | ⟨b, off, rfl, hc⟩
 ·exact .inl h1
 ·exact .inr ⟨b, off, rfl, fun i hi j v hj => hm ⟨b, off, none⟩ rfl (by omega) _ v (hc i hi j v hj)⟩
theorem Ids.lt {w : World} {a : Option Addr} {n c : Nat} {l : List (List UInt8)} (h : Ids w a n c l) (hn : 0 < n) : ∀ x, a = some x → x.block < w.heap.size := by
 rintro x hx
 rcases h.cells with h0 | ⟨b, off, rfl, hc⟩
 ·omega
 ·injection hx with hx
  subst hx
  have h32 := h.at32 0 hn
  have := hc 0 hn 0 _ (Bs_at (l.getD 0 []) 0 (by omega))
  exact block_lt_of_cell this
theorem Ids.pastn {w w' : World} {a : Option Addr} {n c b : Nat} {l : List (List UInt8)} (h : Ids w a n c l) (hp : PastN w w' b) (hne : ∀ x, a = some x → 0 < n → x.block ≠ b) : Ids w' a n c l :=
 h.moved fun x hx hn j v hv => hp.cell hv (hne x hx hn)
theorem Ids.grownb {w w' : World} {a : Option Addr} {n c : Nat} {l : List (List UInt8)} {row : Option Nat} (h : Ids w a n c l) (hg : w.grownBy w' row) (hne : ∀ x, a = some x → 0 < n → ∀ k, row = some k → x.block ≠ k) : Ids w' a n c l :=
 h.moved fun x hx hn j v hv => by
  obtain ⟨_, _, _, g4, g5⟩ := hg
  have hlt := h.lt hn x hx
  unfold World.cell? at hv ⊢
  rw [g5 x.block hlt (fun e => hne x hx hn x.block e.symm rfl)]
  exact hv
structure CmsO (w : World) (base : Nat) (a : Option Addr) (n c : Nat) (l : List Cmt) (ps : List (Option Addr × Nat)) : Prop where
 len : l.length = n
 plen : ps.length = n
 row : w.ownsRow base 41 8 (.slice a n c) n (cellsL l ps)
 each : ∀ i, i < n → CmR w (l.getD i noC) (ps.getD i (none, 0)).1 (ps.getD i (none, 0)).2 ∧ (0 < (l.getD i noC).par.length → ∀ y, (ps.getD i (none, 0)).1 = some y → base ≤ y.block ∧ ∀ k, (Value.slice a n c).ownBlock = some k → y.block ≠ k)
theorem CmsO.nil (w : World) (base : Nat) : CmsO w base none 0 0 [] [] := ⟨rfl, rfl, World.ownsRow_nil _ _ _ _, fun i hi => by omega⟩
theorem ownsRow_cm_low {w w' : World} {base : Nat} {v : Value} {n : Nat} {xs : List Value} (h : w.ownsRow base 41 8 v n xs) (hk : ∀ k, v.ownBlock = some k → w'.heap[k]? = w.heap[k]?) : w'.ownsRow base 41 8 v n xs := by
 refine ⟨h.1, ?_⟩
 rcases h.2 with h2 | ⟨g, cap, cur, rfl, hg, hh, r⟩
 ·exact .inl h2
 ·exact .inr ⟨g, cap, cur, rfl, hg, by rw [hk g rfl]; exact hh, r⟩
theorem CmsO.below {w w' : World} {base : Nat} {a : Option Addr} {n c : Nat} {l : List Cmt} {ps : List (Option Addr × Nat)} (h : CmsO w base a n c l ps) (hb : Below w.heap.size w w') : CmsO w' base a n c l ps :=
 ⟨h.len, h.plen, ownsRow_cm_low h.row fun k hk => hb.block k (h.row.lt k hk).2, fun i hi => ⟨(h.each i hi).1.below hb, (h.each i hi).2⟩⟩
theorem CmsO.pastn {w w' : World} {base b : Nat} {a : Option Addr} {n c : Nat} {l : List Cmt} {ps : List (Option Addr × Nat)} (h : CmsO w base a n c l ps) (hp : PastN w w' b) (hb : b < base) : CmsO w' base a n c l ps :=
 ⟨h.len, h.plen, ownsRow_cm_low h.row fun k hk => hp.block k (h.row.lt k hk).2 (by have := (h.row.lt k hk).1; omega), fun i hi =>
  ⟨⟨(h.each i hi).1.ids.pastn hp (fun x hx hn => by have := ((h.each i hi).2 hn x hx).1; omega), (h.each i hi).1.key, (h.each i hi).1.elem⟩, (h.each i hi).2⟩⟩
theorem CmsO.cms {w : World} {base : Nat} {a : Option Addr} {n c : Nat} {l : List Cmt} {ps : List (Option Addr × Nat)} (h : CmsO w base a n c l ps) : Cms w a n c l := by
 rcases h.row.2 with ⟨e, h0⟩ | ⟨g, cap, cur, e, hg, hh, hn, hcm, hcs, htk⟩
 ·injection e with e1 e2 e3
  subst e1 e2 e3
  exact ⟨h.len, Nat.le_refl _, by decide, fun _ => rfl, .inl rfl⟩
 ·have hcell := fun j u hu => h.row.cells (g := g) (by rw [e]; rfl) j u hu
  injection e with e1 _ e3
  subst e1 e3
  refine ⟨h.len, hn, Nat.le_trans hcm (by unfold maxLen; decide), (fun h => by cases h), .inr ⟨g, 0, rfl, fun i hi => ⟨_, _, fun j v hj => ?_, (h.each i hi).1⟩⟩⟩
  have h1 := cellsL_at l ps (by rw [h.len, h.plen]) i (by rw [h.len]; exact hi) j v hj
  have h2 := hcell (i * 8 + j) v h1
  have hadd : (⟨g, 0, none⟩ : Addr).add (i * 8 + j) = ⟨g, 0 + i * 8 + j, none⟩ := by
   rw [Addr.add_mid]; congr 1; omega
  rw [hadd] at h2
  exact h2
theorem info_cmz : (Tryz.prog.info? 41).map (fun i => (i.zero, i.size, i.bytes)) = some (some (.agg (noC.cs none 0).toArray), 8, Tryz.prog.bytesOf 41) := by kernel_rfl
theorem app_cm {w : World} {base : Nat} {a : Option Addr} {n c : Nat} {l : List Cmt} {ps : List (Option Addr × Nat)} (h : CmsO w base a n c l ps) {b : Nat} {x : Cmt} {pa : Option Addr} {pc : Nat} (hc : Cel w b 41 (x.cs pa pc)) (hr : CmR w x pa pc)
  (hf : 0 < x.par.length → ∀ y, pa = some y → base ≤ y.block ∧ ∀ k, (Value.slice a n c).ownBlock = some k → y.block ≠ k) (hn : n ≤ 1000) (hb : base ≤ w.heap.size) :
  ∃ a' c' w', (Builtin.append_ #[23, 23] 23 #[.slice a n c, .slice (some ⟨b, 0, none⟩) 1 1]).run Tryz.prog w = .ok (.slice a' (n + 1) c') w' ∧ CmsO w' base a' (n + 1) c' (l ++ [x]) (ps ++ [(pa, pc)]) ∧
   w.grownBy w' (Value.slice a n c).ownBlock ∧ ∀ k, (Value.slice a' (n + 1) c').ownBlock = some k → (Value.slice a n c).ownBlock = some k ∨ k = w.heap.size := by
 obtain ⟨i0, hi, hz0, hz1, hz2⟩ := info_parts info_cmz
 have hby : Tryz.prog.bytesOf 41 ≤ 1000 := by decide +kernel
 obtain ⟨v', w', h1, h2, h3, _, h5⟩ := run_append_own_at (P := Tryz.prog) w base 23 23 41 i0 _ 8 _ Tryz.underlying23 hi hz0 hz1 hz2 (by rfl) (by decide) (.slice a n c) n (cellsL l ps) h.row ⟨b, 0, none⟩ 1 1 (x.cs pa pc) (by rw [Cmt.cs_length]) (fun j u hu => by
  have hadd : (⟨b, 0, none⟩ : Addr).add j = ⟨b, j, none⟩ := by unfold Addr.add; split <;> simp_all
  rw [hadd]; exact hc.at j u hu) (x.cs_one pa pc) (by unfold maxLen; omega) (by
   have : (n + 1) * Tryz.prog.bytesOf 41 ≤ 1001 * 1000 := Nat.mul_le_mul (by omega) hby
   omega) hb
 rw [← cellsL_snoc l ps (by rw [h.len, h.plen]) x (pa, pc)] at h2
 obtain ⟨a', c', rfl⟩ : ∃ a' c', v' = .slice a' (n + 1) c' := by
  rcases h2.2 with ⟨_, h0⟩ | ⟨g, cap, cur, e, _⟩
  ·omega
  ·exact ⟨_, _, e⟩
 have hk : ∀ k, (Value.slice a' (n + 1) c').ownBlock = some k → (Value.slice a n c).ownBlock = some k ∨ k = w.heap.size := fun k hk => by
  rcases h5 with h5 | h5
  ·rw [h5] at hk; exact .inl hk
  ·rw [h5] at hk; injection hk with hk; exact .inr hk.symm
 have hl := h.len
 have hpl := h.plen
 refine ⟨a', c', w', h1, ⟨by simp [hl], by simp [hpl], h2, fun i hi => ?_⟩, h3, hk⟩
 by_cases e : i = n
 ·have e1 : (l ++ [x]).getD i noC = x := by rw [List.getD_eq_getElem?_getD, e, ← hl]; simp
  have e2 : (ps ++ [(pa, pc)]).getD i (none, 0) = (pa, pc) := by rw [List.getD_eq_getElem?_getD, e, ← hpl]; simp
  rw [e1, e2]
  refine ⟨⟨hr.ids.grownb h3 (fun y hy hn k hk => (hf hn y hy).2 k hk), hr.key, hr.elem⟩, fun hn y hy => ⟨(hf hn y hy).1, fun k hk' => ?_⟩⟩
  rcases hk k hk' with h6 | h6
  ·exact (hf hn y hy).2 k h6
  ·have := hr.ids.lt hn y hy; omega
 ·have hin : i < n := by omega
  have e1 : (l ++ [x]).getD i noC = l.getD i noC := by rw [List.getD_eq_getElem?_getD, List.getD_eq_getElem?_getD, List.getElem?_append_left (by omega)]
  have e2 : (ps ++ [(pa, pc)]).getD i (none, 0) = ps.getD i (none, 0) := by rw [List.getD_eq_getElem?_getD, List.getD_eq_getElem?_getD, List.getElem?_append_left (by omega)]
  rw [e1, e2]
  obtain ⟨g1, g2⟩ := h.each i hin
  refine ⟨⟨g1.ids.grownb h3 (fun y hy hn k hk => (g2 hn y hy).2 k hk), g1.key, g1.elem⟩, fun hn y hy => ⟨(g2 hn y hy).1, fun k hk' => ?_⟩⟩
  rcases hk k hk' with h6 | h6
  ·exact (g2 hn y hy).2 k h6
  ·have := g1.ids.lt hn y hy; omega
end Go.Proofs.YtofadpodlaakbaaGreat
