/- An id's cells, and a variable that takes them. -/
import Derived.Test.YtofadpodlaakbaaGreatShaSum
namespace Go.Proofs.YtofadpodlaakbaaGreat
open Go.ChangeShapes Go.WideShapes Go.ChangeAt Go.RowKit
set_option linter.unusedVariables false

/-- An id's cells. -/
def idC (l : List UInt8) : List Value := (idOf l).map (Value.int .u8)
theorem idC_length (l : List UInt8) : (idC l).length = 32 := by simp [idC, idOf, Q8.bytes, fourL]
theorem idC_one (l : List UInt8) : ∀ v ∈ idC l, v.oneCell' = true := by intro v hv; obtain ⟨x, _, rfl⟩ := List.mem_map.1 hv; rfl
theorem idC_at (l : List UInt8) (i : Nat) (h : i < 32) : (idC l)[i]? = some (.int .u8 ((idOf l).getD i 0)) := by
  have hl : (idOf l).length = 32 := by simpa [idC] using idC_length l
  rw [idC, List.getElem?_map, List.getD_eq_getElem?_getD, List.getElem?_eq_getElem (by omega)]; rfl
theorem take_get {L : List Int} {xs : List Int} (h : L.take 4 = xs) (i : Nat) (hi : i < 4) : L.getD i 0 = xs.getD i 0 := by
  rw [← h, List.getD_eq_getElem?_getD, List.getD_eq_getElem?_getD, List.getElem?_take, if_pos hi]
theorem new_idx (w : World) (L : List Value) (hl : L.length = 32) : ∃ wx, wx = w.alloc (.cells zeros32.toArray 48) ∧ wx.there w.heap.size 0 32 ∧
    (wx.setCells w.heap.size 0 L).rangeAt w.heap.size 0 L ∧ Below w.heap.size w (wx.setCells w.heap.size 0 L) ∧ w.heap.size < (wx.setCells w.heap.size 0 L).heap.size := by
  have ht := there_new w zeros32 48
  refine ⟨_, rfl, ht, World.rangeAt_setCells_same _ _ _ _ (by rw [hl]; exact ht), below_cells (Nat.le_refl _) _ _ _ _ ((Below.refl _ _).alloc (Nat.le_refl _) _), by rw [size_setCells]; simp⟩
theorem cell_in {w : World} {b i : Nat} {L : List Value} {v : Value} (h : w.rangeAt b 0 L) (hv : L[i]? = some v) : w.cell? ⟨b, i, none⟩ = some v := by
  have := h i v hv; rwa [Nat.zero_add] at this
/-- The sum of a text that is known by its first four bytes. -/
theorem sum_known (l : List UInt8) (x0 x1 x2 x3 : Int) (h : (idOf l).take 4 = [x0, x1, x2, x3]) (hl : l.length ≤ 5000) : ∃ L : List Value, (L.length = 32 ∧ (∀ v ∈ L, v.oneCell' = true) ∧ L[0]? = some (.int .u8 x0) ∧ L[1]? = some (.int .u8 x1) ∧ L[2]? = some (.int .u8 x2) ∧ L[3]? = some (.int .u8 x3)) ∧
    ∀ (w : World) (a : Option Addr) (n c : Nat), n ≤ 5000 → Rd w a n c l → Calls Tryz.prog 50 #[.slice a n c] w fun e w' => e = .returned (.agg L.toArray) ∧ Below w.heap.size w w' := by
  have h0 := take_get h 0 (by decide)
  have h1 := take_get h 1 (by decide)
  have h2 := take_get h 2 (by decide)
  have h3 := take_get h 3 (by decide)
  refine ⟨idC l, ⟨idC_length l, idC_one l, ?_, ?_, ?_, ?_⟩, fun w a n c hn hr => sum_any a n c l w hr hn⟩
  · rw [idC_at l 0 (by decide), h0]; rfl
  · rw [idC_at l 1 (by decide), h1]; rfl
  · rw [idC_at l 2 (by decide), h2]; rfl
  · rw [idC_at l 3 (by decide), h3]; rfl
theorem pad_nil (w : World) : Calls Tryz.prog 73 #[.slice none 0 0] w fun e w' => (∃ a c, e = .returned (.slice a 64 c)) ∧ Below w.heap.size w w' := by
  have hpl : (padL []).length = 64 := by rw [padL_length]; rfl
  refine (pad_any none 0 0 [] w (Rd.nil w) (by decide)).mono ?_
  rintro e w' ⟨v, rfl, hown, hb⟩
  rw [hpl] at hown
  obtain ⟨a, c, rfl, _⟩ := Rd.of_own hown
  exact ⟨⟨a, c, rfl⟩, hb⟩
end Go.Proofs.YtofadpodlaakbaaGreat
