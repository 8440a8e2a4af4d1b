/- The chapter's examples: the Go function awake of the statements on sha. -/
import Derived.Test.YtcjkgegahfligaaShaSum
import Derived.Lib.SlBytesConst
namespace Go.Proofs.Ytcjkgegahfligaa
open Go.ChangeShapes Go.WideShapes Go.ChangeAt Go.RowKit
set_option linter.unusedVariables false

/-- An id's cells. -/
def idC (l : List UInt8) : List Value := (idOf l).map (Value.int .u8)
theorem idC_length (l : List UInt8) : (idC l).length = 32 := by simp [idC, idOf, Q8.bytes, fourL]
theorem idC_one (l : List UInt8) : ∀ v ∈ idC l, v.oneCell' = true := by intro v hv; obtain ⟨x, _, rfl⟩ := List.mem_map.1 hv; rfl
theorem idC_at (l : List UInt8) (i : Nat) (h : i < 32) : (idC l)[i]? = some (.int .u8 ((idOf l).getD i 0)) := by
  have hl : (idOf l).length = 32 := by simpa [idC] using idC_length l
  rw [idC, List.getElem?_map, List.getD_eq_getElem?_getD, List.getElem?_eq_getElem (by omega)]; rfl
theorem take_get {L : List Int} {xs : List Int} (h : L.take 4 = xs) (i : Nat) (hi : i < 4) : L.getD i 0 = xs.getD i 0 := by
  rw [← h, List.getD_eq_getElem?_getD, List.getD_eq_getElem?_getD, List.getElem?_take, if_pos hi]
theorem Rd.marked (w : World) (l : List UInt8) (e : TypeId) (fr : Nat × Nat) (h : l.length ≤ 140737488351232) :
    Rd (w.alloc (.cells (l.map fun c => Value.int .u8 (c.toNat : Int)).toArray e fr)) (some ⟨w.heap.size, 0, none⟩) l.length l.length l := by
  refine ⟨rfl, Nat.le_refl _, by omega, .inr ⟨w.heap.size, 0, rfl, by simp, fun i hi => ?_⟩⟩
  rw [cell_of_row _ w.heap.size (0 + i) _ e fr (heap_alloc_new w _)]
  simp [hi]
/-- The sum of a text that is known by its first four bytes. -/
theorem sum_known (l : List UInt8) (x0 x1 x2 x3 : Int) (h : (idOf l).take 4 = [x0, x1, x2, x3]) (hl : l.length ≤ 1000) : ∃ L : List Value, (L.length = 32 ∧ (∀ v ∈ L, v.oneCell' = true) ∧ L[0]? = some (.int .u8 x0) ∧ L[1]? = some (.int .u8 x1) ∧ L[2]? = some (.int .u8 x2) ∧ L[3]? = some (.int .u8 x3)) ∧
    ∀ (w : World) (a : Option Addr) (n c : Nat), n ≤ 1000 → Rd w a n c l → Calls Try.prog 14 #[.slice a n c] w fun e w' => e = .returned (.agg L.toArray) ∧ Below w.heap.size w w' := by
  have h0 := take_get h 0 (by decide)
  have h1 := take_get h 1 (by decide)
  have h2 := take_get h 2 (by decide)
  have h3 := take_get h 3 (by decide)
  refine ⟨idC l, ⟨idC_length l, idC_one l, ?_, ?_, ?_, ?_⟩, fun w a n c hn hr => sum_any a n c l w hr hn⟩
  · rw [idC_at l 0 (by decide), h0]; rfl
  · rw [idC_at l 1 (by decide), h1]; rfl
  · rw [idC_at l 2 (by decide), h2]; rfl
  · rw [idC_at l 3 (by decide), h3]; rfl
theorem pad_nil (w : World) : Calls Try.prog 13 #[.slice none 0 0] w fun e w' => (∃ a c, e = .returned (.slice a 64 c)) ∧ Below w.heap.size w w' := by
  have hpl : (padL []).length = 64 := by rw [padL_length]; rfl
  refine (pad_any none 0 0 [] w (Rd.nil w) (by decide)).mono ?_
  rintro e w' ⟨v, rfl, hown, hb⟩
  rw [hpl] at hown
  obtain ⟨a, c, rfl, _⟩ := Rd.of_own hown
  exact ⟨⟨a, c, rfl⟩, hb⟩
theorem new_idx (w : World) (L : List Value) (hl : L.length = 32) : ∃ wx, wx = w.alloc (.cells zeros32.toArray 33) ∧ wx.there w.heap.size 0 32 ∧
    (wx.setCells w.heap.size 0 L).rangeAt w.heap.size 0 L ∧ Below w.heap.size w (wx.setCells w.heap.size 0 L) ∧ w.heap.size < (wx.setCells w.heap.size 0 L).heap.size := by
  have ht := there_new w zeros32 33
  refine ⟨_, rfl, ht, World.rangeAt_setCells_same _ _ _ _ (by rw [hl]; exact ht), below_cells (Nat.le_refl _) _ _ _ _ ((Below.refl _ _).alloc (Nat.le_refl _) _), by rw [size_setCells]; simp⟩
theorem cell_in {w : World} {b i : Nat} {L : List Value} {v : Value} (h : w.rangeAt b 0 L) (hv : L[i]? = some v) : w.cell? ⟨b, i, none⟩ = some v := by
  have := h i v hv; rwa [Nat.zero_add] at this
set_option maxRecDepth 100000 in
set_option maxHeartbeats 2000000 in
theorem awake_any (w : World) : Calls Try.prog 8 #[] w fun e w' => e = .returned (.bool true) ∧ Below w.heap.size w w' := by
  obtain ⟨LA, HLA, hga⟩ := sum_known [97, 98, 99] 186 120 22 191 id_abc (by decide)
  obtain ⟨LN, HLN, hgn⟩ := sum_known [] 227 176 196 66 id_nil (by decide)
  have HA := Lib.hid hga
  have HN := Lib.hid hgn
  have HL := Lib.hid HLA
  have HM := Lib.hid HLN
  clear hga hgn HLA HLN
  have hcv := Lib.run_convert_bytes_const (P := Try.prog) w 24 5 #[.int .u8 97, .int .u8 98, .int .u8 99] 3 3 Try.underlying24 Try.underlying5
  have hr0 : Rd (w.alloc (.cells #[.int .u8 97, .int .u8 98, .int .u8 99] 5 (3, 4))) (some ⟨w.heap.size, 0, none⟩) 3 3 [97, 98, 99] := by simpa using Rd.marked w [97, 98, 99] 5 (3, 4) (by simp)
  have HR := Lib.hid hr0
  clear hr0
  go_enter Try.func8, Try.ntmps8
  go_wp2_with fail
  clear hcv
  refine (HA.out _ _ 3 3 (by decide) HR.out).mono ?_
  rintro e w1 ⟨rfl, hb1⟩
  rename_i K1 hK1
  refine hK1 _ _ ?_
  refine wpList_alloc rfl 33 rfl zeros32.toArray (by kernel_rfl) ?_
  simp only [Act.put, List.setIfInBounds_toArray, List.set_cons_zero, List.set_cons_succ]
  obtain ⟨w3x, hx, ht, hm⟩ := new_idx w1 LA HL.out.1
  rw [← hx]
  refine wpList_store_mid rfl 33 (.tmp 1) (.tmp 5) rfl w1.heap.size 0 LA.toArray rfl rfl ?h1 ?h2 ?h3 ?_
  case h1 => rw [show LA.toArray.size = 32 from List.size_toArray.trans HL.out.1]; exact ht
  case h2 => rw [show LA.toArray.size = 32 from List.size_toArray.trans HL.out.1]; exact info_id
  case h3 => exact all_oneCell_toArray HL.out.2.1
  obtain ⟨w3, hy⟩ : ∃ v, v = w3x.setCells w1.heap.size 0 LA := ⟨_, rfl⟩
  rw [List.toList_toArray, ← hy]
  rw [← hy] at hm
  have HA4 := Lib.hid hm
  clear hx hy ht hm
  go_wp2_with fail
  refine (HN.out _ none 0 0 (by decide) (Rd.nil _)).mono ?_
  rintro e w2 ⟨rfl, hb2⟩
  rename_i K2 hK2
  refine hK2 _ _ ?_
  refine wpList_alloc rfl 33 rfl zeros32.toArray (by kernel_rfl) ?_
  simp only [Act.put, List.setIfInBounds_toArray, List.set_cons_zero, List.set_cons_succ]
  obtain ⟨w4x, hx, ht, hm⟩ := new_idx w2 LN HM.out.1
  rw [← hx]
  refine wpList_store_mid rfl 33 (.tmp 2) (.tmp 6) rfl w2.heap.size 0 LN.toArray rfl rfl ?h1 ?h2 ?h3 ?_
  case h1 => rw [show LN.toArray.size = 32 from List.size_toArray.trans HM.out.1]; exact ht
  case h2 => rw [show LN.toArray.size = 32 from List.size_toArray.trans HM.out.1]; exact info_id
  case h3 => exact all_oneCell_toArray HM.out.2.1
  obtain ⟨w4, hy⟩ : ∃ v, v = w4x.setCells w2.heap.size 0 LN := ⟨_, rfl⟩
  rw [List.toList_toArray, ← hy]
  rw [← hy] at hm
  have HN4 := Lib.hid hm
  clear hx hy ht hm
  have a0 : w4.cell? ⟨w1.heap.size, 0, none⟩ = some (.int .u8 186) := cell_in (rangeAt_below HA4.out.1 (Below.step hb2 HN4.out.2.1) HA4.out.2.2) HL.out.2.2.1
  have a1 : w4.cell? ⟨w1.heap.size, 1, none⟩ = some (.int .u8 120) := cell_in (rangeAt_below HA4.out.1 (Below.step hb2 HN4.out.2.1) HA4.out.2.2) HL.out.2.2.2.1
  have a2 : w4.cell? ⟨w1.heap.size, 2, none⟩ = some (.int .u8 22) := cell_in (rangeAt_below HA4.out.1 (Below.step hb2 HN4.out.2.1) HA4.out.2.2) HL.out.2.2.2.2.1
  have a3 : w4.cell? ⟨w1.heap.size, 3, none⟩ = some (.int .u8 191) := cell_in (rangeAt_below HA4.out.1 (Below.step hb2 HN4.out.2.1) HA4.out.2.2) HL.out.2.2.2.2.2
  have d0 : w4.cell? ⟨w2.heap.size, 0, none⟩ = some (.int .u8 227) := cell_in HN4.out.1 HM.out.2.2.1
  have d1 : w4.cell? ⟨w2.heap.size, 1, none⟩ = some (.int .u8 176) := cell_in HN4.out.1 HM.out.2.2.2.1
  have d2 : w4.cell? ⟨w2.heap.size, 2, none⟩ = some (.int .u8 196) := cell_in HN4.out.1 HM.out.2.2.2.2.1
  have d3 : w4.cell? ⟨w2.heap.size, 3, none⟩ = some (.int .u8 66) := cell_in HN4.out.1 HM.out.2.2.2.2.2
  go_wp2_with fail
  refine (pad_nil _).mono ?_
  rintro e w5 ⟨⟨a3, c3, rfl⟩, hb5⟩
  go_wp2
  go_ret
  exact ⟨rfl, (((((Below.refl _ _).alloc (Nat.le_refl _) _).step hb1).step HA4.out.2.1).step hb2).step (HN4.out.2.1.step hb5)⟩
end Go.Proofs.Ytcjkgegahfligaa
