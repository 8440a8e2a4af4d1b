/- The walk of the reference's Hash, of the layer commit. -/
import Derived.Test.YtofadpodlaakbaaGreatCmRefPut
import Derived.Test.YtofadpodlaakbaaGreatCmHash
import Derived.Test.YtofadpodlaakbaaGreatShaRefSum
namespace Go.Proofs.YtofadpodlaakbaaGreat
open Go.ChangeShapes Go.WideShapes Go.ChangeAt Go.RowKit
set_option linter.unusedVariables false
set_option linter.unusedSimpArgs false
set_option maxRecDepth 100000 in
set_option maxHeartbeats 4000000 in
theorem chash_ref (c : Cmt) (a : Option Addr) (cap : Nat) (w : World) (hr : CmR w c a cap) (h32 : all32 c.par) : Calls Tryz.prog 24 #[c.val a cap] w (CHashP c w) := by
 have HPUT := Lib.hid (fun w' h => cput_ref c a cap w' h)
 unfold CPutP at HPUT
 have HRC := Lib.hid hr
 obtain ⟨m, hm⟩ : ∃ m, m = mayC c := ⟨_, rfl⟩
 have HEND := Lib.hid (show ∀ e w', (if m = true then e = .returned (.tuple #[arr (hashL (putC c)), .int .i64 0]) ∧ Below w.heap.size w w' else e = .returned (.tuple #[arr zero32, .int .i64 1]) ∧ Below w.heap.size w w') → CHashP c w e w' from fun e w' h => by
  unfold CHashP
  rwa [← hm])
 have HLEN := Lib.hid (show m = true → (putC c).length ≤ 400 from fun h => putC_len (by rw [← hm, h]) h32)
 rw [← hm] at HPUT
 obtain ⟨n, hn⟩ : ∃ n, n = c.par.length := ⟨_, rfl⟩
 unfold Cmt.val Cmt.cs at HPUT ⊢
 rw [← hn] at HPUT ⊢
 obtain ⟨node, hnode⟩ : ∃ x, x = c.node := ⟨_, rfl⟩
 obtain ⟨seq, hseq⟩ : ∃ x, x = c.seq := ⟨_, rfl⟩
 obtain ⟨gen, hgen⟩ : ∃ x, x = c.gen := ⟨_, rfl⟩
 obtain ⟨kind, hkind⟩ : ∃ x, x = c.op.kind := ⟨_, rfl⟩
 obtain ⟨num, hnum⟩ : ∃ x, x = c.op.num := ⟨_, rfl⟩
 obtain ⟨s1, hs1⟩ : ∃ s : ByteArray, s = ⟨c.op.key.toArray⟩ := ⟨_, rfl⟩
 obtain ⟨s2, hs2⟩ : ∃ s : ByteArray, s = ⟨c.op.elem.toArray⟩ := ⟨_, rfl⟩
 rw [← hnode, ← hseq, ← hgen, ← hkind, ← hnum, ← hs1, ← hs2] at HPUT ⊢
 obtain ⟨X, hX⟩ : ∃ X, X = putC c := ⟨_, rfl⟩
 rw [← hX] at HPUT HEND HLEN
 obtain ⟨lx, hlx⟩ : ∃ l, l = X.length := ⟨_, rfl⟩
 rw [← hlx] at HPUT HLEN
 obtain ⟨Y, hY⟩ : ∃ Y, Y = hashL X := ⟨_, rfl⟩
 rw [← hY] at HEND
 have HSUM := Lib.hid (fun w' a' c' (hl : lx ≤ 400) (h : Rd w' a' lx c' X) (hz : a' = none → c' = 0) => show Calls Tryz.prog 53 #[.slice a' lx c'] w' fun e w'' => e = .returned (.agg (Bs Y).toArray) ∧ Below w'.heap.size w' w'' from (sum_ref a' lx c' X w' h hz (by omega)).mono fun e w'' h => by rw [hY]; exact ⟨by rw [h.1, idV_arr]; rfl, h.2⟩)
 have HY := Lib.hid (show Y.length = 32 by rw [hY]; exact hashL_length X)
 unfold arr at HEND
 clear hr hm hn hnode hseq hgen hkind hnum hs1 hs2 hX hlx hY
 go_enter Tryz.func24, Tryz.ntmps24
 iterate 4 go_step
 rename_i K1 hK1
 refine hK1 _ _ ?_
 clear hK1 K1
 refine wpList_alloc rfl 48 rfl (Bs zero32).toArray (by kernel_rfl) ?_
 simp only [Act.put, List.setIfInBounds_toArray, List.set_cons_zero, List.set_cons_succ]
 obtain ⟨b1, hb1⟩ : ∃ b1, b1 = w.heap.size := ⟨_, rfl⟩
 have hC0 := Cel.new w 41 [.int .i64 node, .int .i64 seq, .int .i64 gen, .slice a n cap, .int .i64 kind, .string s1, .string s2, .int .i64 num]
 rw [← hb1] at hC0 ⊢
 generalize hw1 : w.alloc (.cells #[.int .i64 node, .int .i64 seq, .int .i64 gen, .slice a n cap, .int .i64 kind, .string s1, .string s2, .int .i64 num] _) = w1
 have hC1 : Cel w1 b1 41 [.int .i64 node, .int .i64 seq, .int .i64 gen, .slice a n cap, .int .i64 kind, .string s1, .string s2, .int .i64 num] := by rw [← hw1]; exact hC0
 have hB1 : Below w.heap.size w w1 := by rw [← hw1]; exact (Below.refl _ _).alloc (Nat.le_refl _) _
 have hD0 := Cel.new w1 48 (Bs zero32)
 obtain ⟨b2, hb2⟩ : ∃ b2, b2 = w1.heap.size := ⟨_, rfl⟩
 rw [← hb2] at hD0 ⊢
 generalize hw2 : w1.alloc (.cells (Bs zero32).toArray _) = w2
 have HD2 := Lib.hid (show Cel w2 b2 48 (Bs zero32) by rw [← hw2]; exact hD0)
 have hb12 : Below w1.heap.size w1 w2 := by rw [← hw2]; exact (Below.refl _ _).alloc (Nat.le_refl _) _
 have HC2 := Lib.hid (hC1.step hb12)
 have HB2 := Lib.hid (hB1.step hb12)
 have HLO := Lib.hid (show w.heap.size ≤ b2 by rw [hb2]; exact hB1.size)
 clear hC0 hw1 hC1 hB1 hD0 hb2 hw2 hb12 hb1
 have p0 : w2.cell? ⟨b1, 0, none⟩ = some (.int .i64 node) := HC2.out.at 0 _ rfl
 have p1 : w2.cell? ⟨b1, 1, none⟩ = some (.int .i64 seq) := HC2.out.at 1 _ rfl
 have p2 : w2.cell? ⟨b1, 2, none⟩ = some (.int .i64 gen) := HC2.out.at 2 _ rfl
 have p3 : w2.cell? ⟨b1, 3, none⟩ = some (.slice a n cap) := HC2.out.at 3 _ rfl
 have p4 : w2.cell? ⟨b1, 4, none⟩ = some (.int .i64 kind) := HC2.out.at 4 _ rfl
 have p5 : w2.cell? ⟨b1, 5, none⟩ = some (.string s1) := HC2.out.at 5 _ rfl
 have p6 : w2.cell? ⟨b1, 6, none⟩ = some (.string s2) := HC2.out.at 6 _ rfl
 have p7 : w2.cell? ⟨b1, 7, none⟩ = some (.int .i64 num) := HC2.out.at 7 _ rfl
 go_wp2_with fail
 refine (HPUT.out _ (HRC.out.below HB2.out)).mono ?_
 intro e w3 h
 cases m with
 | false =>
  rw [if_neg (by decide)] at h
  obtain ⟨rfl, hb⟩ := h
  have HB3 := Lib.hid (HB2.out.step hb)
  have HD3 := Lib.hid (HD2.out.step hb)
  clear hb p0 p1 p2 p3 p4 p5 p6 p7
  go_upto_region 3 with fail
  go_step
  refine wpList_build rfl 48 _ rfl (.agg (Bs zero32).toArray) (by kernel_rfl) ?_
  simp only [Act.put, List.setIfInBounds_toArray, List.set_cons_zero, List.set_cons_succ]
  iterate 2 go_step
  rename_i K2 hK2
  refine hK2 _ _ ?_
  clear hK2 K2
  refine wpList_store_mid rfl 48 (.tmp 2) (.tmp 13) rfl b2 0 (Bs zero32).toArray rfl rfl ?h1 ?h2 ?h3 ?_
  case h1 => rw [List.size_toArray]; exact HD3.out.there
  case h2 => rw [List.size_toArray]; exact info_x zero32_length
  case h3 => exact all_oneCell_toArray (Bs_one zero32)
  rw [List.toList_toArray]
  generalize hwF : World.setCells w3 _ _ _ = wF
  have HOF := Lib.hid (show Only w3 wF b2 by rw [← hwF]; exact only_sets _ _ _ _)
  have HCF := Lib.hid (show Cel wF b2 48 (Bs zero32) by rw [← hwF]; exact Cel.sets b2 _ (Bs zero32) [] (Bs zero32) w3 rfl HD3.out)
  clear hwF
  go_wp2_with fail
  refine bodyPost_ret (v := .tuple #[.agg (Bs zero32).toArray, .int .i64 1]) ?_ rfl (HEND.out _ _ (by rw [if_neg (by decide)]; exact ⟨rfl, HOF.out.below HB3.out HLO.out⟩))
  have hl := run_loadVar_mid (P := Tryz.prog) wF b2 0 48 _ _ HCF.out.range under_ids rfl (info_x zero32_length)
  simp [results, Tryz.results24, asAddr, hl, Result.andThen]
 | true =>
  rw [if_pos rfl] at h
  obtain ⟨a3, c3, rfl, hr3, hz3, hb⟩ := h
  have HB3 := Lib.hid (HB2.out.step hb)
  have HD3 := Lib.hid (HD2.out.step hb)
  have HR3 := Lib.hid (And.intro hr3 hz3)
  clear hb hr3 hz3 p0 p1 p2 p3 p4 p5 p6 p7
  go_wp2_with fail
  refine (HSUM.out _ _ _ (HLEN.out trivial) HR3.out.1 HR3.out.2).mono ?_
  rintro e w4 ⟨rfl, hb⟩
  have HB4 := Lib.hid (HB3.out.step hb)
  have HD4 := Lib.hid (HD3.out.step hb)
  clear hb
  rename_i K2 hK2
  refine hK2 _ _ ?_
  clear hK2 K2
  refine wpList_store_mid rfl 48 (.tmp 2) (.tmp 16) rfl b2 0 (Bs Y).toArray rfl rfl ?h1 ?h2 ?h3 ?_
  case h1 => rw [List.size_toArray, Bs_length, HY.out, ← zero32_length, ← Bs_length]; exact HD4.out.there
  case h2 => rw [List.size_toArray]; exact info_x HY.out
  case h3 => exact all_oneCell_toArray (Bs_one Y)
  rw [List.toList_toArray]
  generalize hwF : World.setCells w4 _ _ _ = wF
  have HOF := Lib.hid (show Only w4 wF b2 by rw [← hwF]; exact only_sets _ _ _ _)
  have HCF := Lib.hid (show Cel wF b2 48 (Bs Y) by rw [← hwF]; exact Cel.sets b2 _ (Bs Y) [] (Bs zero32) w4 (by rw [Bs_length, Bs_length, HY.out, zero32_length]) HD4.out)
  clear hwF
  go_wp2_with fail
  refine bodyPost_ret (v := .tuple #[.agg (Bs Y).toArray, .int .i64 0]) ?_ rfl (HEND.out _ _ (by rw [if_pos trivial]; exact ⟨rfl, HOF.out.below HB4.out HLO.out⟩))
  have hl := run_loadVar_mid (P := Tryz.prog) wF b2 0 48 _ _ HCF.out.range under_ids rfl (info_x HY.out)
  simp [results, Tryz.results24, asAddr, hl, Result.andThen]
end Go.Proofs.YtofadpodlaakbaaGreat
