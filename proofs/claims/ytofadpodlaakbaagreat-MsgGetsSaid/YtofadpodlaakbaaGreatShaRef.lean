/- The walks of the reference's words of a block, and of its block. -/
import Derived.Test.YtofadpodlaakbaaGreatShaId
namespace Go.Proofs.YtofadpodlaakbaaGreat
open Go.ChangeShapes Go.WideShapes Go.ChangeAt Go.RowKit
set_option linter.unusedVariables false
theorem right_r (x n : Int) (w : World) (h : isW x) : Calls Tryz.prog 107 #[.int .u32 x, .int .i64 n] w fun e w' => e = .returned (.int .u32 (right x n)) ∧ w' = w :=
 (right_ref x n w h.1 h.2).mono fun _ _ ⟨a, b⟩ => ⟨a, b.symm⟩
theorem pick_r (x y z : Int) (w : World) : Calls Tryz.prog 108 #[.int .u32 x, .int .u32 y, .int .u32 z] w fun e w' => e = .returned (.int .u32 (pick x y z)) ∧ w' = w :=
 (pick_ref_any x y z w).mono fun _ _ ⟨a, b⟩ => ⟨a, b.symm⟩
theorem most_r (x y z : Int) (w : World) : Calls Tryz.prog 109 #[.int .u32 x, .int .u32 y, .int .u32 z] w fun e w' => e = .returned (.int .u32 (most x y z)) ∧ w' = w :=
 (most_ref_any x y z w).mono fun _ _ ⟨a, b⟩ => ⟨a, b.symm⟩
theorem twist_r (x y z : Int) (w : World) : Calls Tryz.prog 106 #[.int .u32 x, .int .u32 y, .int .u32 z] w fun e w' => e = .returned (.int .u32 (bits .xor .u32 (bits .xor .u32 x y) z)) ∧ w' = w := by
 go_enter Tryz.func106, Tryz.ntmps106
 go_wp2
 go_ret
 exact ⟨rfl, rfl⟩
theorem start_ref (w : World) : Calls Tryz.prog 79 #[] w fun e w' => e = .returned startQ.val ∧ Below w.heap.size w w' := by
 go_enter Tryz.func79, Tryz.ntmps79
 go_wp2
 exact bodyPost_ret (v := startQ.val) (by simp [results, Tryz.results79, go_sem, Q8.val, startQ]) rfl ⟨rfl, by go_grown⟩
set_option maxRecDepth 100000 in
theorem constants_ref (w : World) : Calls Tryz.prog 104 #[] w fun e w' => e = .returned (.agg kV.toArray) ∧ Below w.heap.size w w' := by
 have hkr : (World.setCells (w.alloc (.cells zeros64.toArray 119)) w.heap.size 0 kV).rangeAt w.heap.size 0 kV := World.rangeAt_setCells_same _ _ _ _ (by rw [kV_length]; exact there_new w zeros64 _)
 go_enter Tryz.func104, Tryz.ntmps104
 iterate 3 go_step
 refine wpList_alloc rfl 119 rfl zeros64.toArray (by kernel_rfl) ?_
 simp only [Act.put, List.setIfInBounds_toArray, List.set_cons_zero]
 go_step
 rename_i K hK
 refine hK _ _ ?_
 iterate 2 go_step
 refine wpList_build rfl 119 _ rfl (.agg kV.toArray) (by kernel_rfl) ?_
 simp only [Act.put, List.setIfInBounds_toArray, List.set_cons_zero, List.set_cons_succ]
 refine wpList_store_mid rfl 119 (.tmp 0) (.tmp 1) rfl w.heap.size 0 kV.toArray rfl rfl ?h1 ?h2 ?h3 ?_
 case h1 => exact (there_new w zeros64 _)
 case h2 => exact info_w64.trans (congrArg some (by rw [List.size_toArray, kV_length]))
 case h3 => exact all_oneCell_toArray kV_one
 go_step
 rename_i K2 hK2
 refine hK2 _ _ ?_
 go_step
 refine bodyPost_ret (v := .agg kV.toArray) ?_ rfl ⟨rfl, ?_⟩
 ·rw [List.toList_toArray]
  have hl := run_loadVar_mid (P := Tryz.prog) _ w.heap.size 0 119 kV _ hkr under_w64 rfl (info_w64.trans (congrArg some kV_length.symm))
  simp [results, Tryz.results104, Act.put, asAddr, hl]
 ·rw [List.toList_toArray]
  exact below_cells (Nat.le_refl _) _ _ _ _ ((Below.refl _ _).alloc (Nat.le_refl _) _)
theorem quo_shr (x : Int) (c : Nat) (h : isW x) : x.tdiv (2 ^ c) % 4294967296 = x / 2 ^ c := by
 have h1 : (0 : Int) ≤ x / 2 ^ c := Int.ediv_nonneg h.1 (Int.pow_nonneg (by decide))
 have h2 : x / 2 ^ c ≤ x := Int.ediv_le_self _ h.1
 have := h.2
 rw [Int.tdiv_eq_ediv_of_nonneg h.1]
 omega
theorem zeros64_one : ∀ v ∈ zeros64, v.oneCell' = true := by intro v hv; rw [List.eq_of_mem_replicate hv]; rfl
set_option maxRecDepth 100000 in
set_option maxHeartbeats 2000000 in
theorem words_ref (a : Option Addr) (c : Nat) (l : List UInt8) (w : World) (hr : Rd w a 64 c l) : Calls Tryz.prog 105 #[.slice a 64 c] w fun e w' => e = .returned (.agg (wsV l 64).toArray) ∧ Below w.heap.size w w' := by
 go_enter Tryz.func105, Tryz.ntmps105
 iterate 3 go_step
 refine wpList_alloc rfl 119 rfl zeros64.toArray (by kernel_rfl) ?_
 simp only [Act.put, List.setIfInBounds_toArray, List.set_cons_zero, List.set_cons_succ]
 go_step
 rename_i K hK
 refine hK _ _ ?_
 have H0 := Lib.hid (there_new w zeros64 119)
 obtain ⟨w1, hw1⟩ : ∃ w1, w1 = w.alloc (.cells zeros64.toArray 119) := ⟨_, rfl⟩
 rw [← hw1]
 have HB1 : Below w.heap.size w w1 := by rw [hw1]; exact (Below.refl _ _).alloc (Nat.le_refl _) _
 have hs1 : w1.heap.size = w.heap.size + 1 := by rw [hw1]; simp
 rw [← hw1] at H0
 clear hw1
 iterate 2 go_step
 refine wpList_build rfl 119 _ rfl (.agg zeros64.toArray) (by kernel_rfl) ?_
 simp only [Act.put, List.setIfInBounds_toArray, List.set_cons_zero, List.set_cons_succ]
 refine wpList_alloc rfl 119 rfl zeros64.toArray (by kernel_rfl) ?_
 simp only [Act.put, List.setIfInBounds_toArray, List.set_cons_zero, List.set_cons_succ]
 have hT2 := there_new w1 zeros64 119
 refine wpList_store_mid rfl 119 (.tmp 3) (.tmp 11) rfl w1.heap.size 0 zeros64.toArray rfl rfl ?h1 ?h2 ?h3 ?_
 case h1 => exact hT2
 case h2 => exact info_w64
 case h3 => exact all_oneCell_toArray zeros64_one
 go_step
 rename_i K2 hK2
 refine hK2 _ _ ?_
 rw [List.toList_toArray]
 obtain ⟨b, hb⟩ : ∃ b, b = w1.heap.size := ⟨_, rfl⟩
 rw [← hb] at hT2 ⊢
 obtain ⟨w2, hw2⟩ : ∃ w2, w2 = (w1.alloc (.cells zeros64.toArray 119)).setCells b 0 zeros64 := ⟨_, rfl⟩
 rw [← hw2]
 have HR1 : w2.rangeAt b 0 (wsV l 0) := by rw [wsV_zero, hw2]; exact World.rangeAt_setCells_same _ _ _ _ hT2
 have HT1 : w2.there b 0 64 := by rw [hw2]; exact World.there_setCells hT2 _ _ _
 have hbw : w.heap.size < b := by omega
 have HB2 : Below w.heap.size w w2 := by rw [hw2]; exact below_cells (Nat.le_of_lt hbw) _ _ _ _ (HB1.alloc (by omega) _)
 have HT0 : w2.there w.heap.size 0 64 := by
  rw [hw2]; exact World.there_setCells (there_below H0.out ((Below.refl _ _).alloc (Nat.le_refl _) _) (by omega)) _ _ _
 clear hT2 hw2 hb hs1 HB1 H0
 have HBW := Lib.hid hbw
 clear hbw
 go_wp2_with fail
 go_loopw [4] (fun kv wr => ∃ k : Nat, k ≤ 64 ∧ kv = .int .i64 (k : Int) ∧ Hid (wr.rangeAt b 0 (wsV l k)) ∧ Hid (wr.there b 0 64) ∧ Hid (wr.there w.heap.size 0 64) ∧ Below w.heap.size w wr)
  (fun kv _ => 64 - (intOf kv).toNat)
 case atStart => exact ⟨0, by omega, rfl, HR1, HT1, HT0, HB2⟩
 case round =>
  obtain ⟨k, hk, rfl, hR, hT, hT0, hB⟩ := hrel
  by_cases hlt : k < 64
  ·have hlt' : (k : Int) < 64 := by omega
   by_cases h16 : k < 16
   ·have h16' : (k : Int) < 16 := by omega
    have HN := Lib.hid (show nextW l (wordsTo l k) k = wordAt l (4 * (k : Int)) by unfold nextW; rw [if_pos h16])
    go_wp2_with fail
    refine (word_ref wr a 64 c l (4 * (k : Int)) (hr.below hB) (by omega) (by omega) (by omega)).mono ?_
    rintro e v2 ⟨rfl, hb2⟩
    obtain ⟨u0, hu0, _⟩ := there_at hT.out k hlt
    have hRlt := World.block_lt_of_cell? _ _ hu0
    have hHlt := Nat.lt_trans HBW.out hRlt
    have hT2 := Lib.hid (there_below hT.out hb2 hRlt)
    have hT3 := Lib.hid (there_below hT0.out hb2 hHlt)
    have hR2 := Lib.hid (rangeAt_below hR.out hb2 hRlt)
    obtain ⟨u1, hu1, hf1⟩ := there_at hT2.out k hlt
    have hk0 : (0 : Int) ≤ (k : Int) := by omega
    clear hHlt
    go_wp2
    go_roundw
    case rel => exact ⟨k + 1, by omega, by go_num, by rw [wsV_succ l k hlt, HN.out]; exact rangeAt_set hR2.out k _ (by rw [wsV_length l k hk]; exact hlt), there_set hT2.out _ _, there_set hT3.out _ _, (hB.trans (hb2.mono hB.size)).setCell (p := ⟨b, k, none⟩) (Nat.le_of_lt HBW.out) _⟩
    case measure => simp [intOf]; omega
   ·have h16' : ¬ (k : Int) < 16 := by omega
    have hk0 : (0 : Int) ≤ (k : Int) := by omega
    have HN := Lib.hid (show nextW l (wordsTo l k) k = addW (addW (addW ((wordsTo l k).getD (k - 16) 0) ((wordsTo l k).getD (k - 7) 0)) (smallP ((wordsTo l k).getD (k - 15) 0) 7 18 3)) (smallP ((wordsTo l k).getD (k - 2) 0) 17 19 10) by unfold nextW; rw [if_neg h16])
    obtain ⟨j16, e16⟩ : ∃ j, j = k - 16 := ⟨_, rfl⟩
    obtain ⟨j7, e7⟩ : ∃ j, j = k - 7 := ⟨_, rfl⟩
    obtain ⟨j15, e15⟩ : ∃ j, j = k - 15 := ⟨_, rfl⟩
    obtain ⟨j2, e2⟩ : ∃ j, j = k - 2 := ⟨_, rfl⟩
    rw [← e16, ← e7, ← e15, ← e2] at HN
    have c16 := wsV_cell hR.out j16 (by omega)
    have c7 := wsV_cell hR.out j7 (by omega)
    have c15 := wsV_cell hR.out j15 (by omega)
    have c2 := wsV_cell hR.out j2 (by omega)
    have o15 := wordsTo_isW l k j15
    have o2 := wordsTo_isW l k j2
    generalize (wordsTo l k).getD j16 0 = x16 at *
    generalize (wordsTo l k).getD j7 0 = x7 at *
    generalize (wordsTo l k).getD j15 0 = x15 at *
    generalize (wordsTo l k).getD j2 0 = x2 at *
    obtain ⟨u1, hu1, hf1⟩ := there_at hT.out k hlt
    have hRlt := World.block_lt_of_cell? _ _ hu1
    have j16' : (k : Int) - 16 = (j16 : Int) := by omega
    have q16 : IntKind.i64.wrap ((k : Int) - 16) = (j16 : Int) := sub_wrap k _ _ j16' hlt (by decide)
    have j7' : (k : Int) - 7 = (j7 : Int) := by omega
    have q7 : IntKind.i64.wrap ((k : Int) - 7) = (j7 : Int) := sub_wrap k _ _ j7' hlt (by decide)
    have j15' : (k : Int) - 15 = (j15 : Int) := by omega
    have q15 : IntKind.i64.wrap ((k : Int) - 15) = (j15 : Int) := sub_wrap k _ _ j15' hlt (by decide)
    have j2' : (k : Int) - 2 = (j2 : Int) := by omega
    have q2 : IntKind.i64.wrap ((k : Int) - 2) = (j2 : Int) := sub_wrap k _ _ j2' hlt (by decide)
    have b16 : (j16 : Int) < 64 := by omega
    have z16 : (0 : Int) ≤ (j16 : Int) := by omega
    have b7 : (j7 : Int) < 64 := by omega
    have z7 : (0 : Int) ≤ (j7 : Int) := by omega
    have b15 : (j15 : Int) < 64 := by omega
    have z15 : (0 : Int) ≤ (j15 : Int) := by omega
    have b2 : (j2 : Int) < 64 := by omega
    have z2 : (0 : Int) ≤ (j2 : Int) := by omega
    have s15 : ¬ (x15 : Int) < 0 := by have := o15.1; omega
    have s2 : ¬ (x2 : Int) < 0 := by have := o2.1; omega
    clear e16 e7 e15 e2 j16' j7' j15' j2'
    go_wp2_with (first
     | (go_at_call 107; refine (right_r _ _ _ (by first | exact o15 | exact o2)).mono ?_; rintro e vv ⟨rfl, rfl⟩)
     | (go_at_call 106; refine (twist_r _ _ _ _).mono ?_; rintro e vv ⟨rfl, rfl⟩))
    generalize hp9 : bits .xor .u32 (bits .xor .u32 (right x15 7) (right x15 18)) (x15.tdiv 8 % 4294967296) = p9
    generalize hp10 : bits .xor .u32 (bits .xor .u32 (right x2 17) (right x2 19)) (x2.tdiv 1024 % 4294967296) = p10
    have HV := Lib.hid (show (x16 + x7 + p9 + p10) % 4294967296 = nextW l (wordsTo l k) k by
     have e1 : p9 = smallP x15 7 18 3 := by rw [← hp9, show (8 : Int) = 2 ^ 3 from rfl, quo_shr x15 3 o15]; rfl
     have e2 : p10 = smallP x2 17 19 10 := by rw [← hp10, show (1024 : Int) = 2 ^ 10 from rfl, quo_shr x2 10 o2]; rfl
     rw [HN.out, ← e1, ← e2]; unfold addW; rw [wrap_u32, wrap_u32, wrap_u32]; omega)
    clear hp9 hp10
    go_region
    go_wp2_with fail
    go_roundw
    case rel => exact ⟨k + 1, by omega, by go_num, by rw [wsV_succ l k hlt, ← HV.out]; exact rangeAt_set hR.out k _ (by rw [wsV_length l k (Nat.le_of_lt hlt)]; exact hlt), there_set hT.out _ _, there_set hT0.out _ _, (hB.setCell (p := ⟨b, k, none⟩) (Nat.le_of_lt HBW.out) _).drew⟩
    case measure => simp [intOf]; omega
  ·have hlt' : ¬ (k : Int) < 64 := by omega
   obtain rfl : k = 64 := by omega
   obtain ⟨W, hW⟩ : ∃ W, W = wsV l 64 := ⟨_, rfl⟩
   have hWl : W.length = 64 := by rw [hW]; exact wsV_length l 64 (Nat.le_refl _)
   have hW1 : ∀ v ∈ W, v.oneCell' = true := by rw [hW]; exact wsV_one l 64
   have HRW := Lib.hid (show wr.rangeAt b 0 W by rw [hW]; exact hR.out)
   have HWW := Lib.hid (show wsV l 64 = W from hW.symm)
   have HWL := Lib.hid (show W.length = 64 ∧ (∀ v ∈ W, v.oneCell' = true) from ⟨hWl, hW1⟩)
   clear hW hWl hW1
   go_upto_region 13 with fail
   rename_i K3 hK3
   go_step
   refine wpList_load_mid rfl 119 (.tmp 3) rfl b 0 rfl W _ HRW.out under_w64 rfl (info_w64.trans (congrArg some HWL.out.1.symm)) ?_
   simp only [Act.put, List.setIfInBounds_toArray, List.set_cons_zero, List.set_cons_succ]
   refine wpList_store_mid rfl 119 (.tmp 2) (.tmp 65) rfl w.heap.size 0 W.toArray rfl rfl ?h1 ?h2 ?h3 ?_
   case h1 => rw [show W.toArray.size = 64 from List.size_toArray.trans HWL.out.1]; exact hT0.out
   case h2 => rw [show W.toArray.size = 64 from List.size_toArray.trans HWL.out.1]; exact info_w64
   case h3 => exact all_oneCell_toArray HWL.out.2
   go_step
   refine hK3 _ _ ?_
   go_step
   refine bodyPost_ret (v := .agg W.toArray) ?_ rfl ⟨by rw [HWW.out], ?_⟩
   ·have hl := run_loadVar_mid (P := Tryz.prog) _ w.heap.size 0 119 W _ (World.rangeAt_setCells_same wr w.heap.size 0 W (by rw [HWL.out.1]; exact hT0.out)) under_w64 rfl (info_w64.trans (congrArg some HWL.out.1.symm))
    simp [results, Tryz.results105, Act.put, asAddr, hl]
   ·exact below_cells (Nat.le_refl _) _ _ _ _ hB
theorem new_arr (w : World) (zs L : List Value) (t : TypeId) (hz : zs.length = L.length) : ∃ wx, wx = w.alloc (.cells zs.toArray t) ∧ wx.there w.heap.size 0 L.length ∧
  ((wx.setCells w.heap.size 0 L).rangeAt w.heap.size 0 L ∧ Below w.heap.size w (wx.setCells w.heap.size 0 L) ∧ w.heap.size < (wx.setCells w.heap.size 0 L).heap.size ∧ (wx.setCells w.heap.size 0 L).there w.heap.size 0 L.length) := by
 have ht := there_new w zs t
 rw [hz] at ht
 exact ⟨_, rfl, ht, World.rangeAt_setCells_same _ _ _ _ ht, below_cells (Nat.le_refl _) _ _ _ _ ((Below.refl _ _).alloc (Nat.le_refl _) _), by rw [size_setCells]; simp, World.there_setCells ht _ _ _⟩
set_option maxRecDepth 100000 in
set_option maxHeartbeats 4000000 in
theorem block_ref (a : Option Addr) (c : Nat) (l : List UInt8) (h : Q8) (w : World) (ho : h.Ok) (hr : Rd w a 64 c l) : Calls Tryz.prog 80 #[h.val, .slice a 64 c] w fun e w' => e = .returned (.tuple #[(blockQ h l).val, .bool true]) ∧ Below w.heap.size w w' := by
 unfold Q8.val
 go_enter Tryz.func80, Tryz.ntmps80
 go_upto_region 3 with fail
 obtain ⟨w2, hw2⟩ : ∃ w2, w2 = (w.alloc (.cells #[.int .u32 h.a, .int .u32 h.b, .int .u32 h.c, .int .u32 h.d, .int .u32 h.e, .int .u32 h.f, .int .u32 h.g, .int .u32 h.h] 101)).alloc (.cells #[.int .u32 0, .int .u32 0, .int .u32 0, .int .u32 0, .int .u32 0, .int .u32 0, .int .u32 0, .int .u32 0] 101) := ⟨_, rfl⟩
 rw [← hw2]
 have hHlt : w.heap.size < w2.heap.size := by rw [hw2]; simp; omega
 have hBw : Below w.heap.size w w2 := by rw [hw2]; exact ((Below.refl _ _).alloc (Nat.le_refl _) _).alloc (by simp) _
 have hH : w2.rangeAt w.heap.size 0 h.cells := by
  rw [hw2]; exact World.rangeAt_alloc (fun j v hj => new_cell (cs := h.cells.toArray) (by rw [Nat.zero_add]; simpa using hj)) _
 have HH := Lib.hid (show w2.there w.heap.size 0 8 ∧ w2.there (w.heap.size + 1) 0 8 ∧ w.heap.size + 1 < w2.heap.size by
  rw [hw2]
  refine ⟨there_below (there_new w h.cells 101) ((Below.refl _ _).alloc (Nat.le_refl _) _) (by simp [Q8.cells]), ?_, by simp⟩
  have := there_new (w.alloc (.cells h.cells.toArray 101)) zeros8 101
  rw [show (w.alloc (.cells h.cells.toArray 101)).heap.size = w.heap.size + 1 by simp] at this
  exact this)
 obtain ⟨W, hW⟩ : ∃ W, W = wsV l 64 := ⟨_, rfl⟩
 have hWl : W.length = 64 := by rw [hW]; exact wsV_length l 64 (Nat.le_refl _)
 have hW1 : ∀ v ∈ W, v.oneCell' = true := by rw [hW]; exact wsV_one l 64
 have HWL := Lib.hid (show W.length = 64 ∧ (∀ v ∈ W, v.oneCell' = true) from ⟨hWl, hW1⟩)
 have CS := Lib.hid (fun w' (h : Rd w' a 64 c l) => words_ref a c l w' h)
 rw [← hW] at CS
 have HWW := Lib.hid hW
 have HR0 := Lib.hid hr
 have HBW := Lib.hid hBw
 have HRH := Lib.hid hH
 clear hw2 hWl hW1 hW hr hH hBw
 go_wp2_with fail
 refine (constants_ref _).mono ?_
 rintro e w3 ⟨rfl, hb3⟩
 rename_i K1 hK1
 refine hK1 _ _ ?_
 refine wpList_alloc rfl 119 rfl zeros64.toArray (by kernel_rfl) ?_
 simp only [Act.put, List.setIfInBounds_toArray, List.set_cons_zero, List.set_cons_succ]
 obtain ⟨w4x, hx, ht, hm⟩ := new_arr w3 zeros64 kV 119 (by rw [kV_length]; rfl)
 rw [← hx]
 refine wpList_store_mid rfl 119 (.tmp 6) (.tmp 19) rfl w3.heap.size 0 kV.toArray rfl rfl ?h1 ?h2 ?h3 ?_
 case h1 => rw [List.size_toArray]; exact ht
 case h2 => rw [List.size_toArray]; exact (info_w64.trans (congrArg some kV_length.symm))
 case h3 => exact all_oneCell_toArray kV_one
 have Gw4 := Lib.hid hm.2.1
 obtain ⟨w4, hy⟩ : ∃ v, v = w4x.setCells w3.heap.size 0 kV := ⟨_, rfl⟩
 rw [List.toList_toArray, ← hy]
 rw [← hy] at hm Gw4
 have H4 := Lib.hid hm
 obtain ⟨b6, eb6⟩ : ∃ b, b = w3.heap.size := ⟨_, rfl⟩
 rw [← eb6] at H4 ⊢
 have Eb6 := Lib.hid eb6
 clear hx hy ht hm eb6
 go_wp2_with fail
 refine (CS.out _ (HR0.out.below (HBW.out.step (hb3.step Gw4.out)))).mono ?_
 rintro e w5 ⟨rfl, hb5⟩
 rename_i K2 hK2
 refine hK2 _ _ ?_
 refine wpList_alloc rfl 119 rfl zeros64.toArray (by kernel_rfl) ?_
 simp only [Act.put, List.setIfInBounds_toArray, List.set_cons_zero, List.set_cons_succ]
 obtain ⟨w6x, hx, ht, hm⟩ := new_arr w5 zeros64 W 119 (by rw [HWL.out.1]; rfl)
 rw [← hx]
 refine wpList_store_mid rfl 119 (.tmp 7) (.tmp 21) rfl w5.heap.size 0 W.toArray rfl rfl ?h1 ?h2 ?h3 ?_
 case h1 => rw [List.size_toArray]; exact ht
 case h2 => rw [List.size_toArray]; exact (info_w64.trans (congrArg some HWL.out.1.symm))
 case h3 => exact all_oneCell_toArray HWL.out.2
 have Gw6 := Lib.hid hm.2.1
 obtain ⟨w6, hy⟩ : ∃ v, v = w6x.setCells w5.heap.size 0 W := ⟨_, rfl⟩
 rw [List.toList_toArray, ← hy]
 rw [← hy] at hm Gw6
 have H6 := Lib.hid hm
 obtain ⟨b7, eb7⟩ : ∃ b, b = w5.heap.size := ⟨_, rfl⟩
 rw [← eb7] at H6 ⊢
 have Eb7 := Lib.hid eb7
 clear hx hy ht hm eb7
 have B26 := Lib.hid (hb3.step (Gw4.out.step (hb5.step Gw6.out)))
 have HRH6 := Lib.hid (rangeAt_below HRH.out B26.out hHlt)
 have B46 := Lib.hid (hb5.step Gw6.out)
 have HL4 := Lib.hid (show w2.heap.size ≤ b6 ∧ b6 < b7 by
  have h1 := hb3.size; have h2 := hb5.size; have h3 := H4.out.2.2.1; rw [Eb6.out] at h3 ⊢; rw [Eb7.out]; omega)
 have R46 := Lib.hid (rangeAt_below H4.out.1 B46.out H4.out.2.2.1)
 clear hb3 hb5
 go_upto_region 5 with fail
 rename_i K3 hK3
 go_step
 refine wpList_load_mid rfl 101 (.tmp 2) rfl w.heap.size 0 rfl h.cells _ HRH6.out under_w8 rfl info_w8 ?_
 simp only [Act.put, List.setIfInBounds_toArray, List.set_cons_zero, List.set_cons_succ]
 refine wpList_alloc rfl 101 rfl zeros8.toArray (by kernel_rfl) ?_
 simp only [Act.put, List.setIfInBounds_toArray, List.set_cons_zero, List.set_cons_succ]
 obtain ⟨w7x, hx, ht, hm⟩ := new_arr w6 zeros8 h.cells 101 rfl
 rw [← hx]
 refine wpList_store_mid rfl 101 (.tmp 8) (.tmp 22) rfl w6.heap.size 0 h.cells.toArray rfl rfl ?h1 ?h2 ?h3 ?_
 case h1 => exact ht
 case h2 => exact info_w8
 case h3 => exact all_oneCell_toArray (cells_one h)
 obtain ⟨w7, hy⟩ : ∃ v, v = w7x.setCells w6.heap.size 0 h.cells := ⟨_, rfl⟩
 rw [show h.cells.toArray.toList = h.cells from rfl, ← hy]
 rw [← hy] at hm
 obtain ⟨hr7, hb7, hl7, ht7⟩ := hm
 obtain ⟨b8, e8⟩ : ∃ b, b = w6.heap.size := ⟨_, rfl⟩
 have HB7 := Lib.hid hb7
 have HK := Lib.hid (fun i (hi : i < 64) => cell_of (L := kL) (rangeAt_below R46.out hb7 (by have := HL4.out.2; have := H6.out.2.2.1; omega)) i (by have := kV_length; rw [kV, List.length_map] at this; omega))
 have HW := Lib.hid (fun i (hi : i < 64) => cell_of (L := wordsTo l 64) (by have := rangeAt_below H6.out.1 hb7 H6.out.2.2.1; rw [HWW.out, wsV_full] at this; exact this) i (by rw [wordsTo_length]; exact hi))
 rw [← e8] at hr7 hl7 ht7 ⊢
 have NE := Lib.hid (show b6 ≠ b8 ∧ b7 ≠ b8 ∧ b6 < w7.heap.size ∧ b7 < w7.heap.size ∧ w2.heap.size ≤ b8 ∧ b8 < w7.heap.size by
  have h1 := HL4.out.1; have h2 := HL4.out.2; have h3 := H6.out.2.2.1; omega)
 have R8 := Lib.hid hr7
 have T8 := Lib.hid ht7
 have HB3 := Lib.hid (B26.out.step HB7.out)
 clear hx hy ht hr7 hb7 hl7 ht7 e8 Gw4 Gw6
 go_step
 refine hK3 _ _ ?_
 clear hK3 K3
 go_wp2_with fail
 go_loopw [9] (fun iv wr => ∃ i : Nat, i ≤ 64 ∧ iv = .int .i64 (i : Int) ∧ Hid (wr.rangeAt b8 0 (roundsTo (wordsTo l 64) h i).cells) ∧ Hid (wr.there b8 0 8) ∧ Hid (∀ p : Addr, p.block ≠ b8 → p.block < w7.heap.size → wr.cell? p = w7.cell? p ∧ wr.frozen? p = w7.frozen? p) ∧ Hid (w7.heap.size ≤ wr.heap.size) ∧ Hid (Below w2.heap.size w2 wr))
  (fun iv _ => 64 - (intOf iv).toNat)
 case atStart => exact ⟨0, by omega, rfl, R8.out, T8.out, fun _ _ _ => ⟨rfl, rfl⟩, Nat.le_refl _, HB3.out⟩
 case round =>
  obtain ⟨i, hi, rfl, hR, hT, hA, hS, hB⟩ := hrel
  by_cases hlt : i < 64
  ·have hlt' : (i : Int) < 64 := by omega
   have hi0 : (0 : Int) ≤ (i : Int) := by omega
   obtain ⟨c0, c1, c2, c3, c4, c5, c6, c7⟩ := cells_of hR.out
   have hok := roundsTo_ok (wordsTo l 64) h ho i
   have ck := HK.out i hlt
   have cw := HW.out i hlt
   rw [← (hA.out ⟨b6, i, none⟩ NE.out.1 NE.out.2.2.1).1] at ck
   rw [← (hA.out ⟨b7, i, none⟩ NE.out.2.1 NE.out.2.2.2.1).1] at cw
   obtain ⟨s, hs⟩ : ∃ s, s = roundsTo (wordsTo l 64) h i := ⟨_, rfl⟩
   rw [← hs] at c0 c1 c2 c3 c4 c5 c6 c7 hok
   have HS := Lib.hid hs
   clear hs
   obtain ⟨o0, o1, o2, o3, o4, o5, o6, o7⟩ := hok
   obtain ⟨ki, hki⟩ : ∃ x, x = kL.getD i 0 := ⟨_, rfl⟩
   obtain ⟨wi, hwi⟩ : ∃ x, x = (wordsTo l 64).getD i 0 := ⟨_, rfl⟩
   rw [← hki] at ck
   rw [← hwi] at cw
   have HKW := Lib.hid (show roundsTo (wordsTo l 64) h (i + 1) = rnd ki wi s by rw [hki, hwi, HS.out]; rfl)
   clear hki hwi
   go_wp2_with fail
   go_quiet (first
    | (go_at_call 107; refine Calls.quiet_of_same (right_r _ _ _ ?_); exact o4)
    | (go_at_call 106; exact Calls.quiet_of_same (twist_r _ _ _ _)))
   generalize hge : bits .xor .u32 (bits .xor .u32 (right s.e 6) (right s.e 11)) (right s.e 25) = ge
   go_wp2_with fail
   obtain ⟨wq, hwq⟩ : ∃ wq, wq = wr.drewN nq := ⟨_, rfl⟩
   rw [← hwq]
   have HQ : Hid (∀ q : Addr, wq.cell? q = wr.cell? q ∧ wq.frozen? q = wr.frozen? q) := Lib.hid (by intro q; rw [hwq]; exact ⟨rfl, rfl⟩)
   have HQB : Hid (Below w2.heap.size w2 wq ∧ w7.heap.size ≤ wq.heap.size) := Lib.hid (by rw [hwq]; exact ⟨below_drewN hB.out _, hS.out⟩)
   clear hwq
   rw [← (HQ.out _).1] at c0 c1 c2 c3 c4 c5 c6 c7 ck cw
   go_quiet (first
    | (go_at_call 107; refine Calls.quiet_of_same (right_r _ _ _ ?_); exact o0)
    | (go_at_call 106; exact Calls.quiet_of_same (twist_r _ _ _ _)))
   generalize hga : bits .xor .u32 (bits .xor .u32 (right s.a 2) (right s.a 13)) (right s.a 22) = ga
   go_wp2_with fail
   obtain ⟨wp, hwp⟩ : ∃ wp, wp = wq.drewN nq := ⟨_, rfl⟩
   rw [← hwp]
   have HP : Hid (∀ q : Addr, wp.cell? q = wr.cell? q ∧ wp.frozen? q = wr.frozen? q) := Lib.hid (by intro q; rw [hwp]; exact HQ.out q)
   have HPB : Hid (Below w2.heap.size w2 wp ∧ w7.heap.size ≤ wp.heap.size) := Lib.hid (by rw [hwp]; exact ⟨below_drewN HQB.out.1 _, HQB.out.2⟩)
   have hpq : ∀ q : Addr, wp.cell? q = wq.cell? q := fun q => (HP.out q).1.trans (HQ.out q).1.symm
   clear hwp
   rw [← hpq] at c0 c1 c2 c3 c4 c5 c6 c7 ck cw
   clear hpq
   go_quiet ((go_at_call 108; exact Calls.quiet_of_same (pick_r _ _ _ _)))
   generalize hone : (((s.h + ge + pick s.e s.f s.g + ki) % 4294967296 + wi) % 4294967296) = one
   obtain ⟨wo, hwo⟩ : ∃ wo, wo = wp.drewN nq := ⟨_, rfl⟩
   rw [← hwo]
   have HO : Hid ((∀ q : Addr, wo.cell? q = wr.cell? q ∧ wo.frozen? q = wr.frozen? q) ∧ Below w2.heap.size w2 wo ∧ w7.heap.size ≤ wo.heap.size) := Lib.hid (by rw [hwo]; exact ⟨HP.out, below_drewN HPB.out.1 _, HPB.out.2⟩)
   have hoq : ∀ q : Addr, wo.cell? q = wp.cell? q := fun q => (HO.out.1 q).1.trans (HP.out q).1.symm
   clear hwo
   rw [← hoq] at c0 c1 c2 c3 c4 c5 c6 c7
   clear hoq ck cw
   go_upto_region 13 with (go_at_call 109; refine (most_r _ _ _ _).mono ?_; rintro e vv ⟨rfl, rfl⟩)
   generalize htwo : (ga + most s.a s.b s.c) % 4294967296 = two
   have HSUM := Lib.hid (show one = oneP ki wi s ∧ two = twoP s from ⟨by rw [← hone, ← hge]; exact one_is ki wi s, by rw [← htwo, ← hga]; exact two_is s⟩)
   clear hone htwo hge hga
   have HTv : Hid (vv.there b8 0 8) := Lib.hid (fun j hj => by obtain ⟨h1, h2⟩ := hT.out j hj; have := HO.out.1 ⟨b8, 0 + j, none⟩; exact ⟨by rw [this.1]; exact h1, by rw [this.2]; exact h2⟩)
   have f0 : vv.frozen? ⟨b8, 0, none⟩ = false := by have := (HTv.out 0 (by decide)).2; rwa [Nat.zero_add] at this
   have f1 : vv.frozen? ⟨b8, 1, none⟩ = false := by have := (HTv.out 1 (by decide)).2; rwa [Nat.zero_add] at this
   have f2 : vv.frozen? ⟨b8, 2, none⟩ = false := by have := (HTv.out 2 (by decide)).2; rwa [Nat.zero_add] at this
   have f3 : vv.frozen? ⟨b8, 3, none⟩ = false := by have := (HTv.out 3 (by decide)).2; rwa [Nat.zero_add] at this
   have f4 : vv.frozen? ⟨b8, 4, none⟩ = false := by have := (HTv.out 4 (by decide)).2; rwa [Nat.zero_add] at this
   have f5 : vv.frozen? ⟨b8, 5, none⟩ = false := by have := (HTv.out 5 (by decide)).2; rwa [Nat.zero_add] at this
   have f6 : vv.frozen? ⟨b8, 6, none⟩ = false := by have := (HTv.out 6 (by decide)).2; rwa [Nat.zero_add] at this
   have f7 : vv.frozen? ⟨b8, 7, none⟩ = false := by have := (HTv.out 7 (by decide)).2; rwa [Nat.zero_add] at this
   go_wp2_with fail
   obtain ⟨e1, e2⟩ := HSUM.out
   have e3 : (s.d + one) % 4294967296 = addW s.d (oneP ki wi s) := by rw [e1]; exact (wrap_u32 _).symm
   have e4 : (one + two) % 4294967296 = addW (oneP ki wi s) (twoP s) := by rw [e1, e2]; exact (wrap_u32 _).symm
   rw [e3, e4]
   have key : Hid (∀ wx, wx = vv.setCells b8 0 (rnd ki wi s).cells → (wx.rangeAt b8 0 (rnd ki wi s).cells ∧ wx.there b8 0 8 ∧ (∀ p : Addr, p.block ≠ b8 → p.block < w7.heap.size → wx.cell? p = w7.cell? p ∧ wx.frozen? p = w7.frozen? p) ∧ w7.heap.size ≤ wx.heap.size ∧ Below w2.heap.size w2 wx)) := by
    refine Lib.hid ?_
    rintro wx rfl
    refine ⟨set_same HTv.out, World.there_setCells HTv.out _ _ _, fun p hp hl => ?_, ?_, below_cells NE.out.2.2.2.2.1 _ _ _ _ HO.out.2.1⟩
    ·rw [World.cell?_setCells_out _ _ _ _ _ (fun h _ => absurd h hp), World.frozen?_setCells, (HO.out.1 p).1, (HO.out.1 p).2]
     exact hA.out p hp hl
    ·rw [size_setCells]; exact HO.out.2.2
   refine ⟨⟨i + 1, by omega, rfl, ?_, Lib.hid (key.out _ rfl).2.1, Lib.hid (key.out _ rfl).2.2.1, Lib.hid (key.out _ rfl).2.2.2.1, Lib.hid (key.out _ rfl).2.2.2.2⟩, ?_⟩
   ·rw [HKW.out]; exact Lib.hid (key.out _ rfl).1
   ·simp [intOf]; omega
  ·have hlt' : ¬ (i : Int) < 64 := by omega
   obtain rfl : i = 64 := by omega
   obtain ⟨s, hs⟩ : ∃ s, s = roundsTo (wordsTo l 64) h 64 := ⟨_, rfl⟩
   rw [← hs] at hR
   have HS := Lib.hid hs
   have hBQ : blockQ h l = h.add s := by rw [hs]; rfl
   clear hs
   have hSo : s.Ok := by rw [HS.out]; exact roundsTo_ok _ _ ho _
   have HH2 := Lib.hid (show wr.there w.heap.size 0 8 ∧ wr.there (w.heap.size + 1) 0 8 ∧ w.heap.size + 1 < w2.heap.size from ⟨there_below HH.out.1 hB.out hHlt, there_below HH.out.2.1 hB.out HH.out.2.2, HH.out.2.2⟩)
   have HRH2 := Lib.hid (rangeAt_below HRH.out hB.out hHlt)
   have HBW2 := Lib.hid (HBW.out.trans (hB.out.mono (Nat.le_of_lt hHlt)))
   have HNE := Lib.hid (show b8 ≠ w.heap.size ∧ b8 ≠ w.heap.size + 1 from ⟨by have := NE.out.2.2.2.2.1; omega, by have := NE.out.2.2.2.2.1; have := HH.out.2.2; omega⟩)
   have HBQ := Lib.hid hBQ
   clear hBQ HK HW hA HWW
   go_wp2_with fail
   go_loopw [14] (fun kv wx => ∃ j : Nat, j ≤ 8 ∧ kv = .int .i64 (j : Int) ∧ Hid (wx.rangeAt w.heap.size 0 (mix h s j)) ∧ Hid (wx.there w.heap.size 0 8) ∧ Hid (wx.there (w.heap.size + 1) 0 8) ∧ Hid (wx.rangeAt b8 0 s.cells) ∧ Hid (Below w.heap.size w wx))
    (fun kv _ => 8 - (intOf kv).toNat)
   case atStart => exact ⟨0, by omega, rfl, HRH2.out, HH2.out.1, HH2.out.2.1, hR.out, HBW2.out⟩
   case round =>
    obtain ⟨j, hj, rfl, hRj, hTj, hUj, hSj, hBj⟩ := hrel
    by_cases hlt : j < 8
    ·have hlt' : (j : Int) < 8 := by omega
     have hj0 : (0 : Int) ≤ (j : Int) := by omega
     have cj := mix_cell hRj.out hlt
     have sj := q8_cell hSj.out hlt
     have fj := (hTj.out j hlt).2
     rw [Nat.zero_add] at fj
     have HMS := Lib.hid (mix_succ h s j hlt)
     have HML := Lib.hid (mix_length h s j)
     generalize h.get j = hj' at *
     generalize s.get j = sj' at *
     go_wp2_with fail
     go_region
     go_wp2_with fail
     go_roundw
     case rel => exact ⟨j + 1, by omega, by go_num, by rw [HMS.out, addW, wrap_u32]; exact rangeAt_set hRj.out j _ (by rw [HML.out]; exact hlt), there_set hTj.out _ _, there_set hUj.out _ _, range_other hSj.out (by have := HNE.out; omega), (hBj.out.setCell (p := ⟨w.heap.size, j, none⟩) (Nat.le_refl _) _).drew⟩
     case measure => simp [intOf]; omega
    ·have hlt' : ¬ (j : Int) < 8 := by omega
     obtain rfl : j = 8 := by omega
     go_upto_region 18 with fail
     rename_i K1 hK1
     have hM8 : mix h s 8 = (h.add s).cells := rfl
     rw [hM8] at hRj
     go_step
     refine wpList_load_mid rfl 101 (.tmp 2) rfl w.heap.size 0 rfl (h.add s).cells _ hRj.out under_w8 rfl info_w8 ?_
     simp only [Act.put, List.setIfInBounds_toArray, List.set_cons_zero, List.set_cons_succ]
     refine wpList_store_mid rfl 101 (.tmp 4) (.tmp 109) rfl (w.heap.size + 1) 0 (h.add s).cells.toArray rfl rfl ?h1 ?h2 ?h3 ?_
     case h1 => exact hUj.out
     case h2 => exact info_w8
     case h3 => exact all_oneCell_toArray (cells_one _)
     iterate 2 go_step
     rename_i K2 hK2
     refine hK2 _ _ ?_
     go_step
     refine hK1 _ _ ?_
     go_step
     refine bodyPost_ret (v := .tuple #[(h.add s).val, .bool true]) ?_ rfl ⟨?_, ?_⟩
     ·have hl := run_loadVar_mid (P := Tryz.prog) _ (w.heap.size + 1) 0 101 (h.add s).cells _ (World.rangeAt_setCells_same wr (w.heap.size + 1) 0 (h.add s).cells hUj.out) under_w8 rfl info_w8
      simp [results, Tryz.results80, asAddr, hl]
      rfl
     ·rw [HBQ.out]; rfl
     ·exact below_cells (Nat.le_succ _) _ _ _ _ hBj.out
end Go.Proofs.YtofadpodlaakbaaGreat
