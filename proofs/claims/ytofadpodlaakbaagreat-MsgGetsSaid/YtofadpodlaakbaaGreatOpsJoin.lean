/- bytes.Join's contract at this program (the laying as the kit's lay-shelf and lay-plain print it), and the same in the words of these texts: three texts, nothing between them. -/
import Derived.Ground.SlbNamesProg
import Derived.Shelf.Bytes.SlJoin
import Derived.Test.YtofadpodlaakbaaGreatJ1
namespace Go.Proofs.YtofadpodlaakbaaGreat
open Go Go.Shelf
def laysJoin_ren : Go.Shelf.Ren := ⟨fun | 14 => 76 | 15 => 95 | n => n, fun | 26 => 77 | 22 => 28 | 3 => 3 | 4 => 4 | 0 => 0 | 9 => 9 | 20 => 20 | 5 => 5 | n => n, fun | n => n⟩
theorem laysJoin : Go.Proofs.SlLaysJ.n14 Tryz.prog laysJoin_ren := {
 mixed := by kernel_rfl
 f14 := Tryz.func76.trans (congrArg some (by kernel_rfl))
 f15 := Tryz.func95.trans (congrArg some (by kernel_rfl))
 t0 := Tryz.underlying0
 a0 := Tryz.isAgg0
 z0 := Tryz.sizeOf0
 v0 := Tryz.zeroValue0
 t3 := Tryz.underlying3
 a3 := Tryz.isAgg3
 z3 := Tryz.sizeOf3
 v3 := Tryz.zeroValue3
 t4 := Tryz.underlying4
 a4 := Tryz.isAgg4
 z4 := Tryz.sizeOf4
 v4 := Tryz.zeroValue4
 t9 := Tryz.underlying9
 a9 := Tryz.isAgg9
 z9 := Tryz.sizeOf9
 v9 := Tryz.zeroValue9
 t20 := Tryz.underlying20
 a20 := Tryz.isAgg20
 z20 := Tryz.sizeOf20
 v20 := Tryz.zeroValue20
 t22 := Tryz.underlying28
 a22 := Tryz.isAgg28
 z22 := Tryz.sizeOf28
 v22 := Tryz.zeroValue28
 t26 := Tryz.underlying77
 a26 := Tryz.isAgg77
 z26 := Tryz.sizeOf77
 v26 := Tryz.zeroValue77
 t5 := Tryz.underlying5
 z5 := Tryz.sizeOf5
 i5 := by kernel_rfl }
open Go.RowKit Go.Lib in
theorem join_many (b o n c : Nat) (vs : List Value) (ls : List (List UInt8)) (sv : Value) (sep : List UInt8) (w : World) (hn : ls.length = n) (h2 : 2 ≤ n) (hP : Lib.PartsAt w ⟨b, o, none⟩ vs ls) (hcap : n ≤ c) (hS : Lib.HoldsBytes w sv sep) (hn47 : n ≤ 140737488355328) (hlen : Lib.lens ls + sep.length * (n - 1) ≤ 140737488355328) :
 Calls Tryz.prog 76 #[.slice (some ⟨b, o, none⟩) n c, sv] w fun e w' => ∃ v', e = .returned v' ∧ Lib.FreshBytes w.heap.size w' v' (Lib.join ls sep) ∧ Below w.heap.size w w' := Any.bytes_Join_many laysJoin b o n c vs ls sv sep w hn h2 hP hcap hS hn47 hlen
open Go.RowKit
theorem Rd.holds {w : World} {a : Option Addr} {n c : Nat} {l : List UInt8} (h : Rd w a n c l) : Lib.HoldsBytes w (.slice a n c) l := by
 have hl := h.len
 subst hl
 refine ⟨a, c, rfl, ?_, ?_⟩
 ·rintro rfl
  rcases h.cells with h0 | ⟨b, off, e, _⟩
  ·exact List.eq_nil_of_length_eq_zero h0
  ·cases e
 ·rintro x rfl i v hv
  have hi : i < l.length := (List.getElem?_eq_some_iff.1 hv).1
  rcases h.cells with h0 | ⟨b, off, e, _, hc⟩
  ·omega
  ·cases e
   have hadd : (⟨b, off, none⟩ : Addr).add i = ⟨b, off + i, none⟩ := by unfold Addr.add; split <;> simp_all
   rw [hadd, hc i hi, List.getD_eq_getElem?_getD, hv]; rfl
theorem Rd.of_fresh {B0 : Nat} {w : World} {v : Value} {l : List UInt8} (h : Lib.FreshBytes B0 w v l) : ∃ a c, v = .slice a l.length c ∧ Rd w a l.length c l ∧ (a = none → c = 0) := by
 obtain ⟨g, cap, zs, rfl, _, hl, hm, hz, hx, hb, hc, _⟩ := h
 refine ⟨_, _, rfl, ⟨rfl, hl, Nat.le_trans hm (by unfold maxLen; decide), ?_⟩, fun h => by cases h⟩
 by_cases h0 : l.length = 0
 ·exact .inl h0
 refine .inr ⟨g, 0, rfl, World.block_lt_of_cell? w _ (hc 0 (by omega)), fun i hi => ?_⟩
 rw [Nat.zero_add, hc i (by omega)]
 have hi' : i < zs.length := by omega
 have g : zs[i]? = some (zs.getD i 0) := by rw [List.getD_eq_getElem?_getD, List.getElem?_eq_getElem hi']; rfl
 have e : l.getD i 0 = UInt8.ofNat (zs.getD i 0).toNat := by
  have h1 := congrArg (fun l => l[i]?) hb
  simp only [Lib.bytesOf, List.getElem?_map, List.getElem?_take, if_pos hi, g, Option.map_some] at h1
  rw [List.getD_eq_getElem?_getD, ← h1]; rfl
 have h2 := hx (zs.getD i 0) (by rw [List.getD_eq_getElem?_getD, List.getElem?_eq_getElem hi']; simp)
 rw [e]
 simp only [UInt8.toNat_ofNat', Option.some.injEq, Value.int.injEq, true_and]
 omega
def Three (w : World) (b : Nat) (l0 l1 l2 : List UInt8) : Prop := ∃ a0 c0 a1 c1 a2 c2, Cel w b 28 [.slice a0 l0.length c0, .slice a1 l1.length c1, .slice a2 l2.length c2] ∧ Rd w a0 l0.length c0 l0 ∧ Rd w a1 l1.length c1 l1 ∧ Rd w a2 l2.length c2 l2
theorem Three.step {w w' : World} {b : Nat} {l0 l1 l2 : List UInt8} (h : Three w b l0 l1 l2) (hb : Below w.heap.size w w') : Three w' b l0 l1 l2 := by
 obtain ⟨a0, c0, a1, c1, a2, c2, h1, h2, h3, h4⟩ := h
 exact ⟨a0, c0, a1, c1, a2, c2, h1.step hb, h2.below hb, h3.below hb, h4.below hb⟩
theorem join_three (b : Nat) (l0 l1 l2 : List UInt8) (w : World) (h : Three w b l0 l1 l2) (hl : l0.length + l1.length + l2.length ≤ 140737488355328) :
  Calls Tryz.prog 76 #[.slice (some ⟨b, 0, none⟩) 3 3, .slice none 0 0] w fun e w' => ∃ a c, e = .returned (.slice a (l0 ++ (l1 ++ l2)).length c) ∧ Rd w' a (l0 ++ (l1 ++ l2)).length c (l0 ++ (l1 ++ l2)) ∧ (a = none → c = 0) ∧ Below w.heap.size w w' := by
 obtain ⟨a0, c0, a1, c1, a2, c2, h1, h2, h3, h4⟩ := h
 refine (join_many b 0 3 3 [.slice a0 l0.length c0, .slice a1 l1.length c1, .slice a2 l2.length c2] [l0, l1, l2] (.slice none 0 0) [] w rfl (by decide) ⟨rfl, ?_, ?_⟩ (Nat.le_refl _) ⟨none, 0, rfl, fun _ => rfl, fun _ h => by cases h⟩ (by decide) (by simp [Lib.lens]; omega)).mono ?_
 ·intro i v hv
  have hadd : (⟨b, 0, none⟩ : Addr).add i = ⟨b, i, none⟩ := by unfold Addr.add; split <;> simp_all
  rw [hadd]; exact h1.at i v hv
 ·intro i v l hv hl
  match i with
  | 0 => cases hv; cases hl; exact h2.holds
  | 1 => cases hv; cases hl; exact h3.holds
  | 2 => cases hv; cases hl; exact h4.holds
  | n + 3 => cases hv
 ·rintro e w' ⟨v', rfl, hf, hb⟩
  have hj : Lib.join [l0, l1, l2] [] = l0 ++ (l1 ++ l2) := by simp [Lib.join, List.intercalate]
  rw [hj] at hf
  obtain ⟨a, c, rfl, hr, hac⟩ := Rd.of_fresh hf
  exact ⟨a, c, rfl, hr, hac, hb⟩
end Go.Proofs.YtofadpodlaakbaaGreat
