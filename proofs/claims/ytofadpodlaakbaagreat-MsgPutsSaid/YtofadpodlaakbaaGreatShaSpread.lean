/- The walk of the words of a block: sha.spread. -/
import Derived.Test.YtofadpodlaakbaaGreatShaWalks
import Derived.Deep.RegionHeld3
import Derived.Deep.Cut
import Derived.Deep.RegionWith
namespace Go.Proofs.YtofadpodlaakbaaGreat
open Go.ChangeShapes Go.WideShapes Go.ChangeAt Go.RowKit
set_option linter.unusedVariables false

/-- The cells of the words so far, and noughts behind them. -/
def wsV (l : List UInt8) (k : Nat) : List Value := (wordsTo l k ++ List.replicate (64 - k) 0).map (Value.int .u32)
theorem wsV_length (l : List UInt8) (k : Nat) (h : k ≤ 64) : (wsV l k).length = 64 := by
  simp only [wsV, List.length_map, List.length_append, wordsTo_length, List.length_replicate]; omega
theorem wsV_zero (l : List UInt8) : wsV l 0 = zeros64 := by simp [wsV, wordsTo, zeros64]
theorem wsV_full (l : List UInt8) : wsV l 64 = (wordsTo l 64).map (Value.int .u32) := by simp [wsV]
theorem wsV_succ (l : List UInt8) (k : Nat) (h : k < 64) : wsV l (k + 1) = (wsV l k).set k (.int .u32 (nextW l (wordsTo l k) k)) := by
  have hr : List.replicate (64 - k) (0 : Int) = 0 :: List.replicate (64 - (k + 1)) 0 := by
    rw [show 64 - k = (64 - (k + 1)) + 1 by omega, List.replicate_succ]
  unfold wsV
  rw [wordsTo, hr, ← List.map_set]
  congr 1
  rw [List.set_append, if_neg (by rw [wordsTo_length]; omega), wordsTo_length]
  simp
theorem wsV_get (l : List UInt8) (k j : Nat) (h : j < k) : (wsV l k)[j]? = some (.int .u32 ((wordsTo l k).getD j 0)) := by
  unfold wsV
  rw [List.getElem?_map, List.getElem?_append_left (by rw [wordsTo_length]; exact h), List.getD_eq_getElem?_getD, List.getElem?_eq_getElem (by rw [wordsTo_length]; exact h)]
  rfl
theorem wordsTo_isW (l : List UInt8) (k j : Nat) : isW ((wordsTo l k).getD j 0) := by
  rw [List.getD_eq_getElem?_getD]
  cases h : (wordsTo l k)[j]? with
  | none => exact ⟨by decide, by decide⟩
  | some x => exact wordsTo_ok l k x (List.mem_of_getElem? h)
theorem rangeAt_set {w : World} {b : Nat} {cs : List Value} (h : w.rangeAt b 0 cs) (k : Nat) (v : Value) (hk : k < cs.length) : (w.setCell ⟨b, k, none⟩ v).rangeAt b 0 (cs.set k v) := fun j x hj => by
  rw [Nat.zero_add]
  by_cases e : j = k
  · subst e
    rw [List.getElem?_set_self hk] at hj
    cases hj
    have := h j cs[j] (List.getElem?_eq_getElem hk)
    rw [Nat.zero_add] at this
    exact World.cell?_setCell_same _ _ _ this
  · rw [List.getElem?_set_ne (by omega)] at hj
    rw [World.cell?_setCell_other _ _ _ _ (by intro h; cases h; exact e rfl)]
    have := h j x hj
    rwa [Nat.zero_add] at this
theorem rangeAt_below {w v : World} {b o : Nat} {cs : List Value} {B : Nat} (h : w.rangeAt b o cs) (hb : Below B w v) (hB : b < B) : v.rangeAt b o cs := fun j x hj => by
  rw [hb.cell hB]; exact h j x hj

theorem there_below {w v : World} {b o n : Nat} {B : Nat} (h : w.there b o n) (hb : Below B w v) (hB : b < B) : v.there b o n := fun j hj => by
  obtain ⟨h1, h2⟩ := h j hj
  exact ⟨by rw [hb.cell hB]; exact h1, by rw [hb.frozen hB]; exact h2⟩
theorem there_set {w : World} {b o n : Nat} (h : w.there b o n) (p : Addr) (v : Value) : (w.setCell p v).there b o n := fun j hj => by
  obtain ⟨h1, h2⟩ := h j hj
  obtain ⟨u, hu⟩ := Option.isSome_iff_exists.1 h1
  refine ⟨?_, by rw [World.frozen?_setCell]; exact h2⟩
  by_cases e : p = ⟨b, o + j, none⟩
  · subst e; rw [World.cell?_setCell_same _ _ _ hu]; rfl
  · rw [World.cell?_setCell_other _ _ _ _ e, hu]; rfl
theorem there_at {w : World} {b n : Nat} (h : w.there b 0 n) (k : Nat) (hk : k < n) : ∃ u, w.cell? ⟨b, k, none⟩ = some u ∧ w.frozen? ⟨b, k, none⟩ = false := by
  obtain ⟨h1, h2⟩ := h k hk
  rw [Nat.zero_add] at h1 h2
  obtain ⟨u, hu⟩ := Option.isSome_iff_exists.1 h1
  exact ⟨u, hu, h2⟩
theorem wsV_size (l : List UInt8) : (wsV l 64).toArray.size = 64 := by rw [List.size_toArray, wsV_length l 64 (Nat.le_refl _)]
theorem wsV_one (l : List UInt8) (k : Nat) : ∀ v ∈ wsV l k, v.oneCell' = true := by intro v hv; obtain ⟨x, _, rfl⟩ := List.mem_map.1 hv; rfl
theorem sub_wrap (k j : Nat) (m : Int) (h : (k : Int) - m = (j : Int)) (hk : k < 64) (hm : 0 ≤ m) : IntKind.i64.wrap ((k : Int) - m) = (j : Int) := by
  rw [IntWalk.i64_in _ ⟨by omega, by omega⟩]; exact h
theorem small_3 (x : Int) (w : World) (h : isW x) : Calls Tryz.prog 115 #[.int .u32 x, .int .i64 7, .int .i64 18, .int .i64 3] w fun e w' => e = .returned (.int .u32 (smallP x 7 18 3)) ∧ ∃ m, w' = w.drewN m := small_q x 7 18 3 w h (by decide)
theorem small_10 (x : Int) (w : World) (h : isW x) : Calls Tryz.prog 115 #[.int .u32 x, .int .i64 17, .int .i64 19, .int .i64 10] w fun e w' => e = .returned (.int .u32 (smallP x 17 19 10)) ∧ ∃ m, w' = w.drewN m := small_q x 17 19 10 w h (by decide)
theorem wsV_cell {l : List UInt8} {k : Nat} {wr : World} {b : Nat} (h : wr.rangeAt b 0 (wsV l k)) (j : Nat) (hj : j < k) : wr.cell? ⟨b, j, none⟩ = some (.int .u32 ((wordsTo l k).getD j 0)) := by
  have := h j _ (wsV_get l k j hj)
  rwa [Nat.zero_add] at this
set_option maxRecDepth 100000 in
set_option maxHeartbeats 1000000 in
theorem spread_any (a : Option Addr) (c : Nat) (l : List UInt8) (w : World) (hr : Rd w a 64 c l) : Calls Tryz.prog 91 #[.slice a 64 c] w fun e w' => e = .returned (.agg (wsV l 64).toArray) ∧ Below w.heap.size w w' := by
  go_enter Tryz.func91, Tryz.ntmps91
  iterate 3 go_step
  refine wpList_alloc rfl 119 rfl zeros64.toArray (by kernel_rfl) ?_
  simp only [Act.put, List.setIfInBounds_toArray, List.set_cons_zero, List.set_cons_succ]
  go_step
  rename_i K hK
  refine hK _ _ ?_
  have H0 := Lib.hid (there_new w zeros64 119)
  obtain ⟨w1, hw1⟩ : ∃ w1, w1 = w.alloc (.cells zeros64.toArray 119) := ⟨_, rfl⟩
  rw [← hw1]
  have HB1 : Below w.heap.size w w1 := by rw [hw1]; exact (Below.refl _ _).alloc (Nat.le_refl _) _
  have HR1 : w1.rangeAt w.heap.size 0 (wsV l 0) := by
    rw [wsV_zero, hw1]
    intro j v hj
    exact new_cell (cs := zeros64.toArray) (by rw [Nat.zero_add]; simpa using hj)
  rw [← hw1] at H0
  clear hw1
  go_wp2_with fail
  go_loopw [3, 4] (fun iv kv wr => ∃ k : Nat, k ≤ 64 ∧ kv = .int .i64 (k : Int) ∧ Hid (wr.rangeAt w.heap.size 0 (wsV l k)) ∧ Hid (wr.there w.heap.size 0 64) ∧ Below w.heap.size w wr)
    (fun _ kv _ => 64 - (intOf kv).toNat)
  case atStart => exact ⟨0, by omega, rfl, HR1, H0.out, HB1⟩
  case round =>
    obtain ⟨k, hk, rfl, hR, hT, hB⟩ := hrel
    by_cases hlt : k < 64
    · have hlt' : (k : Int) < 64 := by omega
      by_cases h16 : k < 16
      · have h16' : (k : Int) < 16 := by omega
        have HN := Lib.hid (show nextW l (wordsTo l k) k = wordAt l ((k : Int) * 4) by unfold nextW; rw [if_pos h16, Int.mul_comm])
        go_wp2_with fail
        refine (word_any wr a 64 c l ((k : Int) * 4) (hr.below hB) (by omega) (by omega) (by omega)).mono ?_
        rintro e v2 ⟨rfl, hb2⟩
        obtain ⟨u0, hu0, _⟩ := there_at hT.out k hlt
        have hRlt := World.block_lt_of_cell? _ _ hu0
        have hT2 := Lib.hid (there_below hT.out hb2 hRlt)
        have hR2 := Lib.hid (rangeAt_below hR.out hb2 hRlt)
        obtain ⟨u1, hu1, hf1⟩ := there_at hT2.out k hlt
        have hk0 : (0 : Int) ≤ (k : Int) := by omega
        go_wp2
        go_roundw
        case rel => exact ⟨k + 1, by omega, by go_num, by rw [wsV_succ l k hlt, HN.out]; exact rangeAt_set hR2.out k _ (by rw [wsV_length l k hk]; exact hlt), there_set hT2.out _ _, (hB.trans (hb2.mono hB.size)).setCell (p := ⟨w.heap.size, k, none⟩) (Nat.le_refl _) _⟩
        case measure => simp [intOf]; omega
      · have h16' : ¬ (k : Int) < 16 := by omega
        have hk0 : (0 : Int) ≤ (k : Int) := by omega
        have HN := Lib.hid (show nextW l (wordsTo l k) k = addW (addW (addW ((wordsTo l k).getD (k - 16) 0) ((wordsTo l k).getD (k - 7) 0)) (smallP ((wordsTo l k).getD (k - 15) 0) 7 18 3)) (smallP ((wordsTo l k).getD (k - 2) 0) 17 19 10) by unfold nextW; rw [if_neg h16])
        obtain ⟨j16, e16⟩ : ∃ j, j = k - 16 := ⟨_, rfl⟩
        obtain ⟨j7, e7⟩ : ∃ j, j = k - 7 := ⟨_, rfl⟩
        obtain ⟨j15, e15⟩ : ∃ j, j = k - 15 := ⟨_, rfl⟩
        obtain ⟨j2, e2⟩ : ∃ j, j = k - 2 := ⟨_, rfl⟩
        rw [← e16, ← e7, ← e15, ← e2] at HN
        have c16 := wsV_cell hR.out j16 (by omega)
        have c7 := wsV_cell hR.out j7 (by omega)
        have c15 := wsV_cell hR.out j15 (by omega)
        have c2 := wsV_cell hR.out j2 (by omega)
        have o15 := wordsTo_isW l k j15
        have o2 := wordsTo_isW l k j2
        generalize (wordsTo l k).getD j16 0 = x16 at *
        generalize (wordsTo l k).getD j7 0 = x7 at *
        generalize (wordsTo l k).getD j15 0 = x15 at *
        generalize (wordsTo l k).getD j2 0 = x2 at *
        obtain ⟨u1, hu1, hf1⟩ := there_at hT.out k hlt
        have hRlt := World.block_lt_of_cell? _ _ hu1
        have j16' : (k : Int) - 16 = (j16 : Int) := by omega
        have q16 : IntKind.i64.wrap ((k : Int) - 16) = (j16 : Int) := sub_wrap k _ _ j16' hlt (by decide)
        have j7' : (k : Int) - 7 = (j7 : Int) := by omega
        have q7 : IntKind.i64.wrap ((k : Int) - 7) = (j7 : Int) := sub_wrap k _ _ j7' hlt (by decide)
        have j15' : (k : Int) - 15 = (j15 : Int) := by omega
        have q15 : IntKind.i64.wrap ((k : Int) - 15) = (j15 : Int) := sub_wrap k _ _ j15' hlt (by decide)
        have j2' : (k : Int) - 2 = (j2 : Int) := by omega
        have q2 : IntKind.i64.wrap ((k : Int) - 2) = (j2 : Int) := sub_wrap k _ _ j2' hlt (by decide)
        have b16 : (j16 : Int) < 64 := by omega
        have z16 : (0 : Int) ≤ (j16 : Int) := by omega
        have b7 : (j7 : Int) < 64 := by omega
        have z7 : (0 : Int) ≤ (j7 : Int) := by omega
        have b15 : (j15 : Int) < 64 := by omega
        have z15 : (0 : Int) ≤ (j15 : Int) := by omega
        have b2 : (j2 : Int) < 64 := by omega
        have z2 : (0 : Int) ≤ (j2 : Int) := by omega
        have N4 := Lib.hid (show j16 < k ∧ j7 < k ∧ j15 < k ∧ j2 < k from ⟨by omega, by omega, by omega, by omega⟩)
        clear e16 e7 e15 e2 j16' j7' j15' j2'
        go_wp2_with fail
        clear hr h16' hk
        go_region_held3 (fun w' => w'.cell? ⟨w.heap.size, j16, none⟩ = some (.int .u32 x16) ∧ w'.cell? ⟨w.heap.size, j7, none⟩ = some (.int .u32 x7) ∧ w'.cell? ⟨w.heap.size, j15, none⟩ = some (.int .u32 x15) ∧ w'.cell? ⟨w.heap.size, j2, none⟩ = some (.int .u32 x2))
          (first | exact ⟨c16, c7, c15, c2⟩ | assumption | (have N5 := N4.out; go_split_ands; refine ⟨?_, ?_, ?_, ?_⟩ <;> (rw [World.cell?_setCell_other _ _ _ _ (by intro h; cases h; omega)]; assumption)))
          (first
            | (go_at_call_of 115 (Value.int .i64 7); refine (small_3 _ _ o15).mono ?_; rintro e v1 ⟨rfl, m1, rfl⟩)
            | (go_at_call_of 115 (Value.int .i64 17); refine (small_10 _ _ o2).mono ?_; rintro e v2 ⟨rfl, m2, rfl⟩))
        go_wp2
        have HS := Lib.hid (rangeAt_set (rangeAt_below hR.out (below_drewN (Below.refl _ wr) (1 + m1 + m2)) hRlt) k (.int .u32 (nextW l (wordsTo l k) k)) (by rw [wsV_length l k (Nat.le_of_lt hlt)]; exact hlt))
        go_roundw
        case rel => exact ⟨k + 1, by omega, by go_num, by rw [wsV_succ l k hlt]; have h := HS.out; rw [HN.out] at h ⊢; exact h, there_set (there_below hT.out (below_drewN (Below.refl _ wr) (1 + m1 + m2)) hRlt) _ _, (below_drewN hB (1 + m1 + m2)).setCell (p := ⟨w.heap.size, k, none⟩) (Nat.le_refl _) _⟩
        case measure => simp [intOf]; omega
    · have hlt' : ¬ (k : Int) < 64 := by omega
      obtain rfl : k = 64 := by omega
      go_upto_region 8 with fail
      go_step
      refine wpList_load_mid rfl 119 (.tmp 2) rfl w.heap.size 0 rfl (wsV l 64) _ hR.out under_w64 rfl (info_w64.trans (congrArg some (wsV_length l 64 (Nat.le_refl _)).symm)) ?_
      simp only [Act.put, List.setIfInBounds_toArray, List.set_cons_zero, List.set_cons_succ]
      refine wpList_store_mid rfl 119 (.tmp 2) (.tmp 42) rfl w.heap.size 0 (wsV l 64).toArray rfl rfl ?h1 ?h2 ?h3 ?_
      case h1 => rw [wsV_size]; exact hT.out
      case h2 => rw [wsV_size]; exact info_w64
      case h3 => exact all_oneCell_toArray (wsV_one l 64)
      go_step
      rename_i K2 hK2
      refine hK2 _ _ ?_
      go_step
      refine bodyPost_ret (v := .agg (wsV l 64).toArray) ?_ rfl ⟨rfl, ?_⟩
      · rw [List.toList_toArray]
        have hl := run_loadVar_mid (P := Tryz.prog) _ w.heap.size 0 119 (wsV l 64) _ (World.rangeAt_setCells_same wr w.heap.size 0 (wsV l 64) (by rw [wsV_length l 64 (Nat.le_refl _)]; exact hT.out)) under_w64 rfl (info_w64.trans (congrArg some (wsV_length l 64 (Nat.le_refl _)).symm))
        simp [results, Tryz.results91, Act.put, asAddr, hl]
      · rw [List.toList_toArray]
        exact below_cells (Nat.le_refl _) _ _ _ _ hB
end Go.Proofs.YtofadpodlaakbaaGreat
