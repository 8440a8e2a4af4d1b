/- The walks of the reference's Pad and Sum. -/
import Derived.Test.YtofadpodlaakbaaGreatShaRef
namespace Go.Proofs.YtofadpodlaakbaaGreat
open Go.ChangeShapes Go.WideShapes Go.ChangeAt Go.RowKit
set_option linter.unusedVariables false
set_option maxRecDepth 100000 in
set_option maxHeartbeats 2000000 in
theorem pad_ref (a : Option Addr) (n c : Nat) (l : List UInt8) (w : World) (hr : Rd w a n c l) (hac : a = none → c = 0) (hn : n ≤ 5000) : Calls Tryz.prog 78 #[.slice a n c] w (OwnB (padL l) w) := by
 obtain ⟨i0, hi, hz0, hz1, hz2⟩ := info_parts info_u8
 have HI := Lib.hid (show True ∧ i0.size = 1 ∧ i0.bytes = 1 from ⟨trivial, hz1, hz2⟩)
 have hl := hr.len
 have hnil : w.ownsRow w.heap.size 5 1 (.slice none 0 0) 0 [] := ⟨rfl, .inl ⟨rfl, rfl⟩⟩
 obtain ⟨v2, w2, hrun2, hown2, hg2⟩ := run_app (P := Tryz.prog) (ty := 28) Tryz.underlying28 hi hz0 hz1 hz2 rfl hnil hr hac (by omega) (Nat.le_refl _)
 have hb := below_own (Below.refl w.heap.size w) hnil hg2 (Nat.le_refl _)
 have hown : w2.ownsRow w.heap.size 5 1 v2 n (l.map B) := by simpa using hown2
 obtain ⟨a2, c2, rfl, _⟩ := Rd.of_own hown
 have HRUN2 := Lib.hid hrun2
 clear hrun2 hown2 hg2 hnil
 have hb2a : Below w2.heap.size w2 (w2.alloc (.cells #[.int .u8 128] 5)) := (Below.refl _ _).alloc (Nat.le_refl _) _
 have hr3 : Rd (w2.alloc (.cells #[.int .u8 128] 5)) (some ⟨w2.heap.size, 0, none⟩) 1 1 [128] := Rd.made w2 [128] 5 (by decide)
 obtain ⟨v3, w3, hrun3, hown3, hg3⟩ := run_app (P := Tryz.prog) (ty := 28) Tryz.underlying28 hi hz0 hz1 hz2 rfl (ownsRow_below hown hb2a) hr3 (by intro h; cases h) (by omega) (Nat.le_trans hb.size hb2a.size)
 have hb3 := below_own (Below.step hb hb2a) (ownsRow_below hown hb2a) hg3 (Nat.le_trans hb.size hb2a.size)
 have HRUN := Lib.hid hrun3
 have HB3 := Lib.hid hb3
 have HR := Lib.hid hr
 have HOWN3 := Lib.hid hown3
 have HN := Lib.hid hn
 clear hr hown hb hb2a hr3 hrun3 hg3 hb3
 go_enter Tryz.func78, Tryz.ntmps78
 have tok1 : True := trivial
 go_wp2_with (first
  | (at_builtin; have _t := tok1; refine Lib.wpList_append_run _ rfl _ _ _ _ rfl _ _ rfl rfl _ _ HRUN2.out ?_; clear tok1)
  | (at_builtin; refine Lib.wpList_append_run _ rfl _ _ _ _ rfl _ _ rfl rfl _ _ HRUN.out ?_))
 clear HRUN HRUN2
 go_loopw [3] (fun vv wr => ∃ j : Nat, j ≤ padN n ∧ Hid (wr.ownsRow w.heap.size 5 1 vv (n + 1 + j) ((l ++ [128] ++ List.replicate j 0).map B)) ∧ Hid (Below w.heap.size w wr))
  (fun vv _ => match vv with | .slice _ m _ => 8000 - m | _ => 0)
 case atStart => exact ⟨0, Nat.zero_le _, Lib.hid (by have := HOWN3.out; simpa using this), HB3.out⟩
 case round =>
  obtain ⟨j, hj, hO, hB⟩ := hrel
  obtain ⟨a3, c3, rfl, hr3⟩ := Rd.of_own hO.out
  by_cases hlt : j < padN n
  ·have hm := padN_min n j hlt
   obtain ⟨m, hmm⟩ : ∃ m, m = n + 1 + j := ⟨_, rfl⟩
   rw [← hmm] at hm hO hr3 ⊢
   have hm' : ¬ (m : Int) % 64 = 56 := by omega
   have hbr : Below wr.heap.size wr (wr.alloc (.cells #[.int .u8 0] 5)) := (Below.refl _ _).alloc (Nat.le_refl _) _
   have hr4 : Rd (wr.alloc (.cells #[.int .u8 0] 5)) (some ⟨wr.heap.size, 0, none⟩) 1 1 [0] := Rd.made wr [0] 5 (by decide)
   obtain ⟨v4, w4, hrun4, hown4, hg4⟩ := run_app (P := Tryz.prog) (ty := 28) Tryz.underlying28 hi hz0 hz1 hz2 rfl (ownsRow_below hO.out hbr) hr4 (by intro h; cases h) (by have := HN.out; unfold padN at hj; omega) (Nat.le_trans hB.out.size hbr.size)
   have hb4 := below_own (Below.step hB.out hbr) (ownsRow_below hO.out hbr) hg4 (Nat.le_trans hB.out.size hbr.size)
   obtain ⟨a4, c4, rfl, _⟩ := Rd.of_own (l := l ++ [128] ++ List.replicate j 0 ++ [0]) (by rw [List.map_append]; exact hown4)
   have HRUN := Lib.hid hrun4
   have HO4 := Lib.hid hown4
   have HB4 := Lib.hid hb4
   have HMM := Lib.hid hmm
   clear hrun4 hown4 hb4 hg4 hr4 hbr hr3 hm hmm
   go_wp2_with (at_builtin; refine Lib.wpList_append_run _ rfl _ _ _ _ rfl _ _ rfl rfl _ _ HRUN.out ?_)
   have hn' := HN.out
   have hp' : padN n < 64 := by unfold padN; omega
   refine ⟨⟨j + 1, by omega, Lib.hid ?_, HB4.out⟩, ?_⟩
   ·have := HO4.out
    rw [show n + 1 + (j + 1) = m + 1 by have := HMM.out; omega, List.replicate_succ', ← List.append_assoc, List.map_append]
    exact this
   ·have := HMM.out
    show 8000 - (m + 1) < 8000 - m
    omega
  ·obtain rfl : j = padN n := by omega
   have hm := padN_spec n
   obtain ⟨m, hmm⟩ : ∃ m, m = n + 1 + padN n := ⟨_, rfl⟩
   rw [← hmm] at hm hO hr3 ⊢
   have hm' : (m : Int) % 64 = 56 := by omega
   have hn' : (n : Int) ≤ 5000 := by have := HN.out; omega
   have HMM := Lib.hid hmm
   clear hr3 hm hmm
   go_wp2_with fail
   refine (long_ref (8 * (n : Int)) wr (by omega) (by omega)).mono ?_
   rintro e w5 ⟨rfl, hb5⟩
   have hlc := long_cells (8 * n) (by have := HN.out; omega)
   rw [show (((8 * n : Nat)) : Int) = 8 * (n : Int) by omega] at hlc
   obtain ⟨y0, q0⟩ : ∃ y : Int, y = 8 * (n : Int) / 72057594037927936 := ⟨_, rfl⟩
   obtain ⟨y1, q1⟩ : ∃ y : Int, y = 8 * (n : Int) / 281474976710656 % 256 := ⟨_, rfl⟩
   obtain ⟨y2, q2⟩ : ∃ y : Int, y = 8 * (n : Int) / 1099511627776 % 256 := ⟨_, rfl⟩
   obtain ⟨y3, q3⟩ : ∃ y : Int, y = 8 * (n : Int) / 4294967296 % 256 := ⟨_, rfl⟩
   obtain ⟨y4, q4⟩ : ∃ y : Int, y = 8 * (n : Int) / 16777216 % 256 := ⟨_, rfl⟩
   obtain ⟨y5, q5⟩ : ∃ y : Int, y = 8 * (n : Int) / 65536 % 256 := ⟨_, rfl⟩
   obtain ⟨y6, q6⟩ : ∃ y : Int, y = 8 * (n : Int) / 256 % 256 := ⟨_, rfl⟩
   obtain ⟨y7, q7⟩ : ∃ y : Int, y = 8 * (n : Int) % 256 := ⟨_, rfl⟩
   rw [show longV (8 * (n : Int)) = .agg #[.int .u8 y0, .int .u8 y1, .int .u8 y2, .int .u8 y3, .int .u8 y4, .int .u8 y5, .int .u8 y6, .int .u8 y7] by rw [q0, q1, q2, q3, q4, q5, q6, q7]] 
   rw [← q0, ← q1, ← q2, ← q3, ← q4, ← q5, ← q6, ← q7] at hlc
   clear q0 q1 q2 q3 q4 q5 q6 q7
   have HLC := Lib.hid hlc
   clear hlc
   go_upto_region 6 with fail
   generalize hw6 : w5.alloc (.cells _ 117) = w6
   have hb6 : Below w5.heap.size w5 w6 := by rw [← hw6]; exact (Below.refl _ _).alloc (Nat.le_refl _) _
   have c0 : w6.cell? ⟨w5.heap.size, 0, none⟩ = some (.int .u8 y0) := by rw [← hw6]; exact new_cell (t := 117) (i := 0) rfl
   have c1 : w6.cell? ⟨w5.heap.size, 1, none⟩ = some (.int .u8 y1) := by rw [← hw6]; exact new_cell (t := 117) (i := 1) rfl
   have c2 : w6.cell? ⟨w5.heap.size, 2, none⟩ = some (.int .u8 y2) := by rw [← hw6]; exact new_cell (t := 117) (i := 2) rfl
   have c3 : w6.cell? ⟨w5.heap.size, 3, none⟩ = some (.int .u8 y3) := by rw [← hw6]; exact new_cell (t := 117) (i := 3) rfl
   have c4 : w6.cell? ⟨w5.heap.size, 4, none⟩ = some (.int .u8 y4) := by rw [← hw6]; exact new_cell (t := 117) (i := 4) rfl
   have c5 : w6.cell? ⟨w5.heap.size, 5, none⟩ = some (.int .u8 y5) := by rw [← hw6]; exact new_cell (t := 117) (i := 5) rfl
   have c6 : w6.cell? ⟨w5.heap.size, 6, none⟩ = some (.int .u8 y6) := by rw [← hw6]; exact new_cell (t := 117) (i := 6) rfl
   have c7 : w6.cell? ⟨w5.heap.size, 7, none⟩ = some (.int .u8 y7) := by rw [← hw6]; exact new_cell (t := 117) (i := 7) rfl
   clear hw6
   have hr7 : Rd (w6.alloc (.cells ((longL (8 * n)).map B).toArray 5)) (some ⟨w6.heap.size, 0, none⟩) 8 8 (longL (8 * n)) := Rd.made w6 (longL (8 * n)) 5 (by simp [longL])
   rw [HLC.out] at hr7
   have hb7' : Below w6.heap.size w6 (w6.alloc (.cells ([.int .u8 y0, .int .u8 y1, .int .u8 y2, .int .u8 y3, .int .u8 y4, .int .u8 y5, .int .u8 y6, .int .u8 y7] : List Value).toArray 5)) := (Below.refl _ _).alloc (Nat.le_refl _) _
   have hb57 := Below.step hb5 (Below.step hb6 hb7')
   have hO7 := ownsRow_below hO.out hb57
   obtain ⟨v7, w7, hrun7, hown7, hg7⟩ := run_app (P := Tryz.prog) (ty := 28) Tryz.underlying28 hi hz0 hz1 hz2 rfl hO7 hr7 (by intro h; cases h) (by have := HN.out; have := HMM.out; unfold padN at this; omega) (Nat.le_trans hB.out.size hb57.size)
   have hb7 := below_own (Below.step hB.out hb57) hO7 hg7 (Nat.le_trans hB.out.size hb57.size)
   have HRUN := Lib.hid hrun7
   have HO7 := Lib.hid hown7
   have HB7 := Lib.hid hb7
   clear hrun7 hown7 hg7 hb7 hr7 hO7 hb57 hb7' hb6 hb5
   go_wp2_with (at_builtin; refine Lib.wpList_append_run _ rfl _ _ _ _ rfl _ _ rfl rfl _ _ HRUN.out ?_)
   go_ret
   refine ⟨v7, rfl, ?_, HB7.out⟩
   have h7 := HO7.out
   rw [padL_length, hl, show n + 9 + padN n = m + 8 by have := HMM.out; omega]
   unfold padL
   rw [hl, List.map_append]
   exact h7
def PutT (wx : World) (b : Nat) (q : Q8) (p : Nat) : Prop := ∀ i, i < p → wx.cell? ⟨b, i, none⟩ = some (.int .u8 (q.bytes.getD i 0))
theorem zeros32_one : ∀ v ∈ zeros32, v.oneCell' = true := by intro v hv; rw [List.eq_of_mem_replicate hv]; rfl
set_option maxRecDepth 100000 in
set_option maxHeartbeats 4000000 in
theorem sum_ref (a : Option Addr) (n c : Nat) (l : List UInt8) (w : World) (hr : Rd w a n c l) (hac : a = none → c = 0) (hn : n ≤ 5000) : Calls Tryz.prog 53 #[.slice a n c] w fun e w' => e = .returned (idV l) ∧ Below w.heap.size w w' := by
 have hq : startQ.val = .agg #[.int .u32 startQ.a, .int .u32 startQ.b, .int .u32 startQ.c, .int .u32 startQ.d, .int .u32 startQ.e, .int .u32 startQ.f, .int .u32 startQ.g, .int .u32 startQ.h] := rfl
 have hlen := hr.len
 go_enter Tryz.func53, Tryz.ntmps53
 go_upto_region 1 with fail
 generalize hw1 : w.alloc (.cells _ 48) = w1
 have hB1 : Below w.heap.size w w1 := by rw [← hw1]; exact (Below.refl _ _).alloc (Nat.le_refl _) _
 have hT1 : w1.there w.heap.size 0 32 := by rw [← hw1]; exact there_new w zeros32 48
 have hs1 : w1.heap.size = w.heap.size + 1 := by rw [← hw1]; simp
 clear hw1
 go_wp2_with fail
 refine (pad_ref a n c l w1 (hr.below hB1) hac hn).mono ?_
 rintro e w2 ⟨v4, rfl, hown, hb2⟩
 obtain ⟨N, hN⟩ : ∃ N, (padL l).length = 64 * N := ⟨(padL l).length / 64, by have := padL_mod l; omega⟩
 have hN6 : (padL l).length ≤ 5200 := by rw [padL_length, hlen]; unfold padN; omega
 rw [hN] at hown hN6
 obtain ⟨b5, c5, rfl, hb5⟩ : ∃ b5 c5, v4 = .slice (some ⟨b5, 0, none⟩) (64 * N) c5 ∧ w1.heap.size ≤ b5 ∧ b5 < w2.heap.size := by
  rcases hown.2 with ⟨_, h0⟩ | ⟨g, cap, cur, e, hg, hh, _⟩
  ·rw [padL_length] at hN; omega
  ·exact ⟨g, cap, e, hg, (Array.getElem?_eq_some_iff.1 hh).1⟩
 obtain ⟨a5', c5', e5, hr4⟩ := Rd.of_own hown
 cases e5
 obtain ⟨m, hm⟩ : ∃ m, m = 64 * N := ⟨_, rfl⟩
 rw [← hm] at hr4 hown ⊢
 have HM := Lib.hid hm
 have hm6 : m ≤ 5200 := by omega
 clear hm
 go_wp2_with fail
 refine (start_ref _).mono ?_
 rintro e w3 ⟨rfl, hb3⟩
 rw [hq]
 go_upto_region 3 with fail
 generalize hw4 : w3.alloc (.cells _ 101) = w4
 have hB4 : Below w3.heap.size w3 w4 := by rw [← hw4]; exact (Below.refl _ _).alloc (Nat.le_refl _) _
 have hR4 : w4.rangeAt w3.heap.size 0 startQ.cells := by rw [← hw4]; exact q8_cells_new w3 startQ 101
 have hT4 : w4.there w3.heap.size 0 8 := by rw [← hw4]; exact there_new w3 startQ.cells 101
 have hs4 : w4.heap.size = w3.heap.size + 1 := by rw [← hw4]; simp
 clear hw4
 have HR5 := Lib.hid (hr4.below (hb3.step hB4))
 have HN := Lib.hid (show sumQ l = blocksQ N startQ (padL l) by unfold sumQ; rw [hN, Nat.mul_div_cancel_left _ (by decide)])
 have HNB := Lib.hid (show b5 ≠ w3.heap.size ∧ w.heap.size ≠ w3.heap.size ∧ w.heap.size ≤ w3.heap.size by have := hb2.size; have := hb3.size; omega)
 have HRR := Lib.hid hR4
 have HTT := Lib.hid hT4
 have HBB := Lib.hid (hB1.step (hb2.step (hb3.step hB4)))
 have HTR := Lib.hid (there_below hT1 (hb2.step (hb3.step hB4)) (by omega))
 have HLT := Lib.hid (show w3.heap.size < w4.heap.size ∧ w.heap.size < w4.heap.size by have := hb2.size; have := hb3.size; omega)
 clear hr hac hR4 hT4 hT1 hB1 hB4 hb2 hb3 hown hr4 hN hs1 hs4 hN6 hb5 hlen
 generalize w3.heap.size = bh at *
 go_wp2_with fail
 go_loopw [5] (fun iv wr => ∃ (j : Nat) (q : Q8), j ≤ N ∧ iv = .int .i64 ((64 * j : Nat) : Int) ∧ q.Ok ∧ Hid (blocksQ (N - j) q ((padL l).drop (64 * j)) = sumQ l) ∧ Hid (wr.rangeAt bh 0 q.cells) ∧ Hid (wr.there bh 0 8) ∧ Hid (bh < wr.heap.size) ∧ Hid (But w bh w4 wr))
  (fun iv _ => 8000 - (intOf iv).toNat)
 case atStart => exact ⟨0, startQ, by omega, rfl, startQ_ok, Lib.hid HN.out.symm, HRR.out, HTT.out, HLT.out.1, Lib.hid ⟨fun _ _ _ => ⟨rfl, rfl⟩, Nat.le_refl _, HBB.out⟩⟩
 case round =>
  obtain ⟨j, q, hj, rfl, hok, hV, hR, hT, hL, hB⟩ := hrel
  obtain ⟨i, hi⟩ : ∃ i, i = 64 * j := ⟨_, rfl⟩
  rw [← hi]
  by_cases hlt : j < N
  ·have him : (i : Int) < (m : Int) := by have := HM.out; omega
   have hiN : i + 64 ≤ m := by have := HM.out; omega
   have HI := Lib.hid hi
   clear hi
   have hrw : Rd wr (some ⟨b5, 0, none⟩) m c5 (padL l) := hB.out.rd HR5.out HNB.out.1
   have hr64 := hrw.part i (i + 64) (by omega) hiN
   rw [Nat.add_sub_cancel_left, Nat.zero_add] at hr64
   have hcm : m ≤ c5 := hrw.le
   obtain ⟨B6, hB6⟩ : ∃ B6, B6 = ((padL l).take (i + 64)).drop i := ⟨_, rfl⟩
   rw [← hB6] at hr64
   obtain ⟨q', hq'⟩ : ∃ q', q' = blockQ q B6 := ⟨_, rfl⟩
   have HBLK := Lib.hid (fun (w' : World) (h : Rd w' (some ⟨b5, i, none⟩) 64 (c5 - i) B6) => block_ref (some ⟨b5, i, none⟩) (c5 - i) B6 q w' hok h)
   rw [← hq'] at HBLK
   have HQ' := Lib.hid hq'
   have HB6 := Lib.hid hB6
   have HWI := Lib.hid (show IntKind.i64.wrap ((i : Int) + 64) = (i : Int) + 64 from IntWalk.i64_in _ ⟨by omega, by omega⟩)
   clear hq' hB6
   go_upto_region 6 with fail
   have HR64 : Hid (Rd w4 (some ⟨b5, i, none⟩) 64 (c5 - i) B6) := Lib.hid (by
    have h := HR5.out.part i (i + 64) (by omega) hiN
    rw [Nat.add_sub_cancel_left, Nat.zero_add, ← HB6.out] at h
    exact h)
   refine region_inv (by kernel_rfl) (by kernel_rfl) (fun f act wx => ∃ v19 v20 v21 v22 v23 v24 v25 v26 v27 v28, act = ⟨#[.slice a n c, undef, .pointer (some ⟨w.heap.size, 0, none⟩), .slice (some ⟨b5, 0, none⟩) m c5, .pointer (some ⟨bh, 0, none⟩), .int .i64 (i : Int), undef, undef, undef, undef, .slice a n c, .slice (some ⟨b5, 0, none⟩) m c5, .agg #[.int .u32 startQ.a, .int .u32 startQ.b, .int .u32 startQ.c, .int .u32 startQ.d, .int .u32 startQ.e, .int .u32 startQ.f, .int .u32 startQ.g, .int .u32 startQ.h], .int .i64 (i : Int), .slice (some ⟨b5, 0, none⟩) m c5, .int .i64 (m : Int), .bool true, u17, u18, v19, v20, v21, v22, v23, v24, v25, v26, v27, v28, undef, undef, undef, undef, undef, undef, undef, undef, undef, undef, undef, undef, undef, undef, undef, undef, undef, undef, undef, undef, undef, undef], []⟩ ∧ (On f 0 → v20 = .agg q.cells.toArray) ∧ (On f 1 → v21 = .slice (some ⟨b5, 0, none⟩) m c5) ∧ (On f 2 → v22 = .int .i64 (i : Int)) ∧ (On f 3 → v23 = .int .i64 (i : Int)) ∧ (On f 4 → v24 = .int .i64 ((i : Int) + 64)) ∧ (On f 5 → v25 = .slice (some ⟨b5, i, none⟩) 64 (c5 - i)) ∧ (On f 6 → v26 = .tuple #[.agg q'.cells.toArray, .bool true]) ∧ (On f 7 → v19 = .tuple #[.agg q'.cells.toArray, .bool true]) ∧ (On f 8 → v27 = .agg q'.cells.toArray) ∧ (On f 9 → v28 = .bool true) ∧ (On f 10 → On f 0) ∧ (¬ On f 10 → wx.rangeAt bh 0 q.cells) ∧ (On f 10 → wx.rangeAt bh 0 q'.cells) ∧ wx.there bh 0 8 ∧ bh < wx.heap.size ∧ But w bh w4 wx) ?_ ?_ ?_
   ·have hoff : ∀ j, ¬ On (Array.replicate 11 false) j := by
     intro j hj; simp only [On, Array.getD_eq_getD_getElem?, Array.getElem?_replicate] at hj; split at hj <;> simp at hj
    exact ⟨_, _, _, _, _, _, _, _, _, _, rfl, fun x => absurd x (hoff _), fun x => absurd x (hoff _), fun x => absurd x (hoff _), fun x => absurd x (hoff _), fun x => absurd x (hoff _), fun x => absurd x (hoff _), fun x => absurd x (hoff _), fun x => absurd x (hoff _), fun x => absurd x (hoff _), fun x => absurd x (hoff _), fun x => absurd x (hoff _), fun _ => hR.out, fun x => absurd x (hoff _), hT.out, hL.out, hB.out.below (Below.refl _ wr).drew⟩
   ·rintro i' o f act wm hio hs hn he hI K hK
    have hi' : i' < 11 := (Array.getElem?_eq_some_iff.1 hio).1
    replace hs : f.size = 11 := hs
    obtain ⟨v19, v20, v21, v22, v23, v24, v25, v26, v27, v28, rfl, p0, p1, p2, p3, p4, p5, p6, p7, p8, p9, cc, r0, r1, ht, hb3, hBx⟩ := hI
    match i', hi' with
    | 0, _ =>
     cases hio
     have k : ∀ j, j ≠ 0 → On (f.setIfInBounds 0 true) j → On f j := fun j hj x => on_back (by omega) x hj
     have k' : ∀ j, On f j → On (f.setIfInBounds 0 true) j := fun j x => (on_put (by omega)).2 (.inr x)
     have n10 : ¬ On f 10 := fun x => on_off (by omega) hn (cc x)
     refine wanted_load (by rfl) 20 rfl 101 (.tmp 4) rfl bh rfl q.cells _ (r0 n10) under_w8 rfl info_w8 ?_
     simp only [List.setIfInBounds_toArray, List.set_cons_zero, List.set_cons_succ]
     exact hK _ _ ⟨_, _, _, _, _, _, _, _, _, _, rfl, fun _ => rfl, fun x => p1 (k _ (by decide) x), fun x => p2 (k _ (by decide) x), fun x => p3 (k _ (by decide) x), fun x => p4 (k _ (by decide) x), fun x => p5 (k _ (by decide) x), fun x => p6 (k _ (by decide) x), fun x => p7 (k _ (by decide) x), fun x => p8 (k _ (by decide) x), fun x => p9 (k _ (by decide) x), fun x => k' _ (cc (k _ (by decide) x)), fun x => r0 (fun y => x (k' _ y)), fun x => r1 (k _ (by decide) x), ht, hb3, hBx⟩
    | 1, _ =>
     cases hio
     have k : ∀ j, j ≠ 1 → On (f.setIfInBounds 1 true) j → On f j := fun j hj x => on_back (by omega) x hj
     have k' : ∀ j, On f j → On (f.setIfInBounds 1 true) j := fun j x => (on_put (by omega)).2 (.inr x)
     go_simp
     exact hK _ _ ⟨_, _, _, _, _, _, _, _, _, _, rfl, fun x => p0 (k _ (by decide) x), fun _ => rfl, fun x => p2 (k _ (by decide) x), fun x => p3 (k _ (by decide) x), fun x => p4 (k _ (by decide) x), fun x => p5 (k _ (by decide) x), fun x => p6 (k _ (by decide) x), fun x => p7 (k _ (by decide) x), fun x => p8 (k _ (by decide) x), fun x => p9 (k _ (by decide) x), fun x => k' _ (cc (k _ (by decide) x)), fun x => r0 (fun y => x (k' _ y)), fun x => r1 (k _ (by decide) x), ht, hb3, hBx⟩
    | 2, _ =>
     cases hio
     have k : ∀ j, j ≠ 2 → On (f.setIfInBounds 2 true) j → On f j := fun j hj x => on_back (by omega) x hj
     have k' : ∀ j, On f j → On (f.setIfInBounds 2 true) j := fun j x => (on_put (by omega)).2 (.inr x)
     go_simp
     exact hK _ _ ⟨_, _, _, _, _, _, _, _, _, _, rfl, fun x => p0 (k _ (by decide) x), fun x => p1 (k _ (by decide) x), fun _ => rfl, fun x => p3 (k _ (by decide) x), fun x => p4 (k _ (by decide) x), fun x => p5 (k _ (by decide) x), fun x => p6 (k _ (by decide) x), fun x => p7 (k _ (by decide) x), fun x => p8 (k _ (by decide) x), fun x => p9 (k _ (by decide) x), fun x => k' _ (cc (k _ (by decide) x)), fun x => r0 (fun y => x (k' _ y)), fun x => r1 (k _ (by decide) x), ht, hb3, hBx⟩
    | 3, _ =>
     cases hio
     have k : ∀ j, j ≠ 3 → On (f.setIfInBounds 3 true) j → On f j := fun j hj x => on_back (by omega) x hj
     have k' : ∀ j, On f j → On (f.setIfInBounds 3 true) j := fun j x => (on_put (by omega)).2 (.inr x)
     go_simp
     exact hK _ _ ⟨_, _, _, _, _, _, _, _, _, _, rfl, fun x => p0 (k _ (by decide) x), fun x => p1 (k _ (by decide) x), fun x => p2 (k _ (by decide) x), fun _ => rfl, fun x => p4 (k _ (by decide) x), fun x => p5 (k _ (by decide) x), fun x => p6 (k _ (by decide) x), fun x => p7 (k _ (by decide) x), fun x => p8 (k _ (by decide) x), fun x => p9 (k _ (by decide) x), fun x => k' _ (cc (k _ (by decide) x)), fun x => r0 (fun y => x (k' _ y)), fun x => r1 (k _ (by decide) x), ht, hb3, hBx⟩
    | 4, _ =>
     cases hio
     have k : ∀ j, j ≠ 4 → On (f.setIfInBounds 4 true) j → On f j := fun j hj x => on_back (by omega) x hj
     have k' : ∀ j, On f j → On (f.setIfInBounds 4 true) j := fun j x => (on_put (by omega)).2 (.inr x)
     have h3 : On f 3 := he ⟨3, .data⟩ (by simp) rfl
     obtain rfl := p3 h3
     go_simp
     rw [HWI.out]
     exact hK _ _ ⟨_, _, _, _, _, _, _, _, _, _, rfl, fun x => p0 (k _ (by decide) x), fun x => p1 (k _ (by decide) x), fun x => p2 (k _ (by decide) x), fun x => p3 (k _ (by decide) x), fun _ => rfl, fun x => p5 (k _ (by decide) x), fun x => p6 (k _ (by decide) x), fun x => p7 (k _ (by decide) x), fun x => p8 (k _ (by decide) x), fun x => p9 (k _ (by decide) x), fun x => k' _ (cc (k _ (by decide) x)), fun x => r0 (fun y => x (k' _ y)), fun x => r1 (k _ (by decide) x), ht, hb3, hBx⟩
    | 5, _ =>
     cases hio
     have k : ∀ j, j ≠ 5 → On (f.setIfInBounds 5 true) j → On f j := fun j hj x => on_back (by omega) x hj
     have k' : ∀ j, On f j → On (f.setIfInBounds 5 true) j := fun j x => (on_put (by omega)).2 (.inr x)
     have h1 : On f 1 := he ⟨1, .data⟩ (by simp) rfl
     have h2 : On f 2 := he ⟨2, .data⟩ (by simp) rfl
     have h4 : On f 4 := he ⟨4, .data⟩ (by simp) rfl
     obtain rfl := p1 h1
     obtain rfl := p2 h2
     obtain rfl := p4 h4
     go_simp
     rw [if_pos (by omega), if_pos (by omega), if_neg (by omega), show ((i : Int) + 64).toNat - i = 64 by omega]
     go_simp
     exact hK _ _ ⟨_, _, _, _, _, _, _, _, _, _, rfl, fun x => p0 (k _ (by decide) x), fun x => p1 (k _ (by decide) x), fun x => p2 (k _ (by decide) x), fun x => p3 (k _ (by decide) x), fun x => p4 (k _ (by decide) x), fun _ => rfl, fun x => p6 (k _ (by decide) x), fun x => p7 (k _ (by decide) x), fun x => p8 (k _ (by decide) x), fun x => p9 (k _ (by decide) x), fun x => k' _ (cc (k _ (by decide) x)), fun x => r0 (fun y => x (k' _ y)), fun x => r1 (k _ (by decide) x), ht, hb3, hBx⟩
    | 6, _ =>
     cases hio
     have k : ∀ j, j ≠ 6 → On (f.setIfInBounds 6 true) j → On f j := fun j hj x => on_back (by omega) x hj
     have k' : ∀ j, On f j → On (f.setIfInBounds 6 true) j := fun j x => (on_put (by omega)).2 (.inr x)
     have h0 : On f 0 := he ⟨0, .data⟩ (by simp) rfl
     have h5 : On f 5 := he ⟨5, .data⟩ (by simp) rfl
     obtain rfl := p0 h0
     obtain rfl := p5 h5
     go_simp
     refine (HBLK.out _ (hBx.rd HR64.out HNB.out.1)).mono ?_
     rintro e w6 ⟨rfl, hb⟩
     exact hK _ _ ⟨_, _, _, _, _, _, _, _, _, _, rfl, fun x => p0 (k _ (by decide) x), fun x => p1 (k _ (by decide) x), fun x => p2 (k _ (by decide) x), fun x => p3 (k _ (by decide) x), fun x => p4 (k _ (by decide) x), fun x => p5 (k _ (by decide) x), fun _ => rfl, fun x => p7 (k _ (by decide) x), fun x => p8 (k _ (by decide) x), fun x => p9 (k _ (by decide) x), fun x => k' _ (cc (k _ (by decide) x)), fun x => rangeAt_below (r0 (fun y => x (k' _ y))) hb hb3, fun x => rangeAt_below (r1 (k _ (by decide) x)) hb hb3, there_below ht hb hb3, Nat.lt_of_lt_of_le hb3 hb.size, hBx.below hb⟩
    | 7, _ =>
     cases hio
     have k : ∀ j, j ≠ 7 → On (f.setIfInBounds 7 true) j → On f j := fun j hj x => on_back (by omega) x hj
     have k' : ∀ j, On f j → On (f.setIfInBounds 7 true) j := fun j x => (on_put (by omega)).2 (.inr x)
     have h6 : On f 6 := he ⟨6, .data⟩ (by simp) rfl
     obtain rfl := p6 h6
     go_simp
     exact hK _ _ ⟨_, _, _, _, _, _, _, _, _, _, rfl, fun x => p0 (k _ (by decide) x), fun x => p1 (k _ (by decide) x), fun x => p2 (k _ (by decide) x), fun x => p3 (k _ (by decide) x), fun x => p4 (k _ (by decide) x), fun x => p5 (k _ (by decide) x), fun x => p6 (k _ (by decide) x), fun _ => rfl, fun x => p8 (k _ (by decide) x), fun x => p9 (k _ (by decide) x), fun x => k' _ (cc (k _ (by decide) x)), fun x => r0 (fun y => x (k' _ y)), fun x => r1 (k _ (by decide) x), ht, hb3, hBx⟩
    | 8, _ =>
     cases hio
     have k : ∀ j, j ≠ 8 → On (f.setIfInBounds 8 true) j → On f j := fun j hj x => on_back (by omega) x hj
     have k' : ∀ j, On f j → On (f.setIfInBounds 8 true) j := fun j x => (on_put (by omega)).2 (.inr x)
     have h7 : On f 7 := he ⟨7, .data⟩ (by simp) rfl
     obtain rfl := p7 h7
     go_simp
     exact hK _ _ ⟨_, _, _, _, _, _, _, _, _, _, rfl, fun x => p0 (k _ (by decide) x), fun x => p1 (k _ (by decide) x), fun x => p2 (k _ (by decide) x), fun x => p3 (k _ (by decide) x), fun x => p4 (k _ (by decide) x), fun x => p5 (k _ (by decide) x), fun x => p6 (k _ (by decide) x), fun x => p7 (k _ (by decide) x), fun _ => rfl, fun x => p9 (k _ (by decide) x), fun x => k' _ (cc (k _ (by decide) x)), fun x => r0 (fun y => x (k' _ y)), fun x => r1 (k _ (by decide) x), ht, hb3, hBx⟩
    | 9, _ =>
     cases hio
     have k : ∀ j, j ≠ 9 → On (f.setIfInBounds 9 true) j → On f j := fun j hj x => on_back (by omega) x hj
     have k' : ∀ j, On f j → On (f.setIfInBounds 9 true) j := fun j x => (on_put (by omega)).2 (.inr x)
     have h7 : On f 7 := he ⟨7, .data⟩ (by simp) rfl
     obtain rfl := p7 h7
     go_simp
     exact hK _ _ ⟨_, _, _, _, _, _, _, _, _, _, rfl, fun x => p0 (k _ (by decide) x), fun x => p1 (k _ (by decide) x), fun x => p2 (k _ (by decide) x), fun x => p3 (k _ (by decide) x), fun x => p4 (k _ (by decide) x), fun x => p5 (k _ (by decide) x), fun x => p6 (k _ (by decide) x), fun x => p7 (k _ (by decide) x), fun x => p8 (k _ (by decide) x), fun _ => rfl, fun x => k' _ (cc (k _ (by decide) x)), fun x => r0 (fun y => x (k' _ y)), fun x => r1 (k _ (by decide) x), ht, hb3, hBx⟩
    | 10, _ =>
     cases hio
     have k : ∀ j, j ≠ 10 → On (f.setIfInBounds 10 true) j → On f j := fun j hj x => on_back (by omega) x hj
     have k' : ∀ j, On f j → On (f.setIfInBounds 10 true) j := fun j x => (on_put (by omega)).2 (.inr x)
     have h8 : On f 8 := he ⟨8, .data⟩ (by simp) rfl
     have h0 : On f 0 := he ⟨0, .phase⟩ (by simp) rfl
     obtain rfl := p8 h8
     refine wanted_store (by rfl) rfl 101 (.tmp 4) (.tmp 27) rfl bh q'.cells rfl rfl ht info_w8 (cells_one q') ?_
     exact hK _ _ ⟨_, _, _, _, _, _, _, _, _, _, rfl, fun x => p0 (k _ (by decide) x), fun x => p1 (k _ (by decide) x), fun x => p2 (k _ (by decide) x), fun x => p3 (k _ (by decide) x), fun x => p4 (k _ (by decide) x), fun x => p5 (k _ (by decide) x), fun x => p6 (k _ (by decide) x), fun x => p7 (k _ (by decide) x), fun x => p8 (k _ (by decide) x), fun x => p9 (k _ (by decide) x), fun _ => k' _ h0, fun x => absurd ((on_put (by omega)).2 (.inl rfl)) x, fun _ => set_same ht, World.there_setCells ht bh 0 _, by rw [size_setCells]; exact hb3, hBx.set HNB.out.2.2 _⟩
   ·rintro f act w5 hall hs ⟨v19, v20, v21, v22, v23, v24, v25, v26, v27, v28, rfl, p0, p1, p2, p3, p4, p5, p6, p7, p8, p9, cc, r0, r1, ht, hb3, hBx⟩
    replace hs : f.size = 11 := hs
    have HE := Lib.hid (show w5.rangeAt bh 0 q'.cells ∧ w5.there bh 0 8 ∧ bh < w5.heap.size ∧ But w bh w4 w5 from ⟨r1 (on_all hall hs 10 (by decide)), ht, hb3, hBx⟩)
    clear cc r0 r1 p0 p1 p2 p3 p4 p5 p6 p7 p8 p9 ht hb3 hBx hall hs
    go_wp2_with fail
    refine ⟨⟨j + 1, q', by omega, ?_, ?_, Lib.hid ?_, HE.out.1, HE.out.2.1, HE.out.2.2.1, HE.out.2.2.2⟩, ?_⟩
    ·rw [show ((64 * (j + 1) : Nat) : Int) = (i : Int) + 64 by have := HI.out; omega]
    ·rw [HQ'.out]; exact blockQ_ok _ _
    ·have hv := hV.out
     rw [show N - j = (N - (j + 1)) + 1 by omega, blocksQ, List.drop_drop] at hv
     rw [HQ'.out, HB6.out, List.drop_take, show i + 64 - i = 64 by omega, HI.out]
     exact hv
    ·simp [intOf]; omega
  ·have him : ¬ (i : Int) < (m : Int) := by have := HM.out; omega
   have hi6 : (i : Int) ≤ 6000 := by have := HM.out; omega
   have hqv : q = sumQ l := by
    have hjN : j = N := by omega
    have := hV.out; rw [hjN, Nat.sub_self] at this; exact this
   have HI := Lib.hid hi
   have HQV := Lib.hid hqv
   clear hi hqv hV
   go_upto_region 7 with fail
   rename_i K1 hK1
   have HTR2 := Lib.hid (hB.out.there HTR.out HNB.out.2.1 HLT.out.2)
   have HLW := Lib.hid (show w.heap.size < wr.heap.size from Nat.lt_of_lt_of_le HLT.out.2 hB.out.size)
   have HBE := Lib.hid hB.out.bel
   go_step
   refine wpList_build rfl 48 _ rfl (.agg zeros32.toArray) (by kernel_rfl) ?_
   simp only [Act.put, List.setIfInBounds_toArray, List.set_cons_zero, List.set_cons_succ]
   refine wpList_alloc rfl 48 rfl zeros32.toArray (by kernel_rfl) ?_
   simp only [Act.put, List.setIfInBounds_toArray, List.set_cons_zero, List.set_cons_succ]
   have hT2 := there_new wr zeros32 48
   refine wpList_store_mid rfl 48 (.tmp 6) (.tmp 29) rfl wr.heap.size 0 zeros32.toArray rfl rfl ?h1 ?h2 ?h3 ?_
   case h1 => exact hT2
   case h2 => exact info_id
   case h3 => exact all_oneCell_toArray zeros32_one
   obtain ⟨b6, hb6⟩ : ∃ b, b = wr.heap.size := ⟨_, rfl⟩
   rw [List.toList_toArray, ← hb6]
   rw [← hb6] at hT2
   obtain ⟨w6, hw6⟩ : ∃ w6, w6 = (wr.alloc (.cells zeros32.toArray 48)).setCells b6 0 zeros32 := ⟨_, rfl⟩
   rw [← hw6]
   have hbA : Below wr.heap.size wr w6 := by rw [hw6]; exact below_cells (by omega) _ _ _ _ ((Below.refl _ _).alloc (Nat.le_refl _) _)
   have HN6 := Lib.hid (show bh ≠ b6 ∧ w.heap.size ≠ b6 ∧ w.heap.size ≤ b6 by have := hL.out; have := HLW.out; omega)
   have H6 := Lib.hid (show w6.there b6 0 32 ∧ w6.there w.heap.size 0 32 ∧ w6.rangeAt bh 0 q.cells ∧ (b6 < w6.heap.size ∧ bh < w6.heap.size) ∧ Below w.heap.size w w6 from
    ⟨by rw [hw6]; exact World.there_setCells hT2 _ _ _, there_below HTR2.out hbA HLW.out, rangeAt_below hR.out hbA hL.out, ⟨by rw [hw6, size_setCells]; simp; omega, Nat.lt_of_lt_of_le hL.out hbA.size⟩, HBE.out.step hbA⟩)
   clear hw6 hbA hT2 hb6 hR hT hL hB HTR2 HLW HBE
   go_step
   refine hK1 _ _ ?_
   clear hK1 K1
   go_wp2_with fail
   go_loopw [7] (fun kv wx => ∃ j : Nat, j ≤ 8 ∧ kv = .int .i64 (j : Int) ∧ Hid (PutT wx b6 q (4 * j)) ∧ Hid (wx.there b6 0 32) ∧ Hid (wx.there w.heap.size 0 32) ∧ Hid (wx.rangeAt bh 0 q.cells) ∧ Hid (b6 < wx.heap.size ∧ bh < wx.heap.size) ∧ Hid (Below w.heap.size w wx))
    (fun kv _ => 8 - (intOf kv).toNat)
   case atStart => exact ⟨0, by omega, rfl, Lib.hid (fun i hi => absurd hi (by omega)), H6.out.1, H6.out.2.1, H6.out.2.2.1, H6.out.2.2.2.1, H6.out.2.2.2.2⟩
   case round =>
    obtain ⟨j, hj, rfl, hP, hT, hT0, hR, hL, hB⟩ := hrel
    by_cases hlt : j < 8
    ·have hj8 : (j : Int) < 8 := by omega
     have hj0 : (0 : Int) ≤ (j : Int) := by omega
     obtain ⟨hx0, hx1⟩ := q8_ok hok j
     have ck := q8_cell hR.out hlt
     obtain ⟨x, hx⟩ : ∃ x, x = q.get j := ⟨_, rfl⟩
     rw [← hx] at hx0 hx1 ck
     have HX := Lib.hid hx
     clear hx
     go_wp2_with fail
     refine (four_ref x _ hx0 hx1).mono ?_
     rintro e w7 ⟨rfl, hb7⟩
     clear ck
     go_upto_region 12 with fail
     generalize hw8 : w7.alloc (.cells _ 105) = w8
     have hb8 : Below w7.heap.size w7 w8 := by rw [← hw8]; exact (Below.refl _ _).alloc (Nat.le_refl _) _
     have hF : ∀ t, t < 4 → w8.cell? ⟨w7.heap.size, t, none⟩ = some (.int .u8 (q.bytes.getD (4 * j + t) 0)) := fun t ht => by
      rw [← hw8]
      refine new_cell (cs := (fourC x).toArray) (t := 105) ?_
      have := bytes_get q j t hlt ht
      rw [← HX.out] at this
      simpa using this
     have hl8 : w7.heap.size < w8.heap.size := by rw [← hw8]; simp
     have hb78 := hb7.step hb8
     have H8 := Lib.hid (show PutT w8 b6 q (4 * j) ∧ w8.there b6 0 32 ∧ w8.there w.heap.size 0 32 ∧ w8.rangeAt bh 0 q.cells ∧ (b6 < w8.heap.size ∧ bh < w8.heap.size) ∧ Below w.heap.size w w8 from
      ⟨fun i hi => (hb78.cell (p := ⟨b6, i, none⟩) hL.out.1).trans (hP.out i hi), there_below hT.out hb78 hL.out.1, there_below hT0.out hb78 (Nat.lt_of_le_of_lt HN6.out.2.2 hL.out.1), rangeAt_below hR.out hb78 hL.out.2, ⟨Nat.lt_of_lt_of_le hL.out.1 hb78.size, Nat.lt_of_lt_of_le hL.out.2 hb78.size⟩, hB.out.step hb78⟩)
     have HN8 := Lib.hid (show b6 ≠ w7.heap.size by have := hL.out.1; have := hb7.size; omega)
     have HF := Lib.hid hF
     obtain ⟨b8, hb8'⟩ : ∃ b, b = w7.heap.size := ⟨_, rfl⟩
     rw [← hb8'] at hl8 HF HN8 ⊢
     clear hw8 hb8 hF hb78 hb7 hb8' hP hT hT0 hR hL hB HX hx0 hx1
     go_wp2_with fail
     go_loopw [9] (fun tv wy => ∃ t : Nat, t ≤ 4 ∧ tv = .int .i64 (t : Int) ∧ Hid (PutT wy b6 q (4 * j + t)) ∧ Hid (wy.there b6 0 32) ∧ Hid (wy.there w.heap.size 0 32) ∧ Hid (wy.rangeAt bh 0 q.cells) ∧ Hid (b6 < wy.heap.size ∧ bh < wy.heap.size) ∧ Hid (∀ t, t < 4 → wy.cell? ⟨b8, t, none⟩ = some (.int .u8 (q.bytes.getD (4 * j + t) 0))) ∧ Hid (Below w.heap.size w wy))
      (fun tv _ => 4 - (intOf tv).toNat)
     case atStart => exact ⟨0, by omega, rfl, H8.out.1, H8.out.2.1, H8.out.2.2.1, H8.out.2.2.2.1, H8.out.2.2.2.2.1, HF.out, H8.out.2.2.2.2.2⟩
     case round =>
      obtain ⟨t, ht, rfl, hP, hT, hT0, hR, hL, hC, hB⟩ := hrel
      by_cases ht4 : t < 4
      ·have ht4' : (t : Int) < 4 := by omega
       have ht0 : (0 : Int) ≤ (t : Int) := by omega
       have cy := hC.out t ht4
       obtain ⟨y, hy⟩ : ∃ y, y = q.bytes.getD (4 * j + t) 0 := ⟨_, rfl⟩
       rw [← hy] at cy
       have HY := Lib.hid hy
       obtain ⟨u, hu, hf⟩ := there_at hT.out (4 * j + t) (by omega)
       clear hy
       go_wp2_with fail
       refine ⟨⟨t + 1, by omega, rfl, Lib.hid ?_, there_set hT.out _ _, there_set hT0.out _ _, range_other hR.out (fun e => HN6.out.1 e.symm), Lib.hid (by simpa [World.setCell] using hL.out), Lib.hid ?_, hB.out.setCell (p := ⟨b6, 4 * j + t, none⟩) HN6.out.2.2 _⟩, ?_⟩
       ·intro i hi
        by_cases he : i = 4 * j + t
        ·subst he; rw [World.cell?_setCell_same _ _ _ hu, HY.out]
        ·rw [World.cell?_setCell_other _ _ _ _ (by intro e; cases e; exact he rfl)]; exact hP.out i (by omega)
       ·intro t' ht'
        rw [World.cell?_setCell_other _ _ _ _ (by intro e; cases e; exact HN8.out rfl)]; exact hC.out t' ht'
       ·simp [intOf]; omega
      ·obtain rfl : t = 4 := by omega
       have ht4' : ¬ ((4 : Nat) : Int) < 4 := by omega
       go_wp2_with fail
       refine ⟨⟨j + 1, by omega, rfl, Lib.hid ?_, hT.out, hT0.out, hR.out, hL.out, hB.out⟩, ?_⟩
       ·rw [show 4 * (j + 1) = 4 * j + 4 by omega]; exact hP.out
       ·simp [intOf]; omega
    ·have hj8 : ¬ (j : Int) < 8 := by omega
     obtain rfl : j = 8 := by omega
     have hRI : Hid (wr.rangeAt b6 0 (q.bytes.map (Value.int .u8))) := Lib.hid (fun i v hi => by
      have hl : i < 32 := by have := (List.getElem?_eq_some_iff.1 hi).1; simpa [Q8.bytes, fourL] using this
      rw [Nat.zero_add, hP.out i (by omega), ← hi, List.getElem?_map, List.getD_eq_getElem?_getD, List.getElem?_eq_getElem (by simpa [Q8.bytes, fourL] using hl)]
      rfl)
     go_upto_region 16 with fail
     rename_i K3 hK3
     go_step
     refine wpList_load_mid rfl 48 (.tmp 6) rfl b6 0 rfl (q.bytes.map (Value.int .u8)) _ hRI.out under_id rfl info_id ?_
     simp only [Act.put, List.setIfInBounds_toArray, List.set_cons_zero, List.set_cons_succ]
     refine wpList_store_mid rfl 48 (.tmp 2) (.tmp 50) rfl w.heap.size 0 (q.bytes.map (Value.int .u8)).toArray rfl rfl ?h1 ?h2 ?h3 ?_
     case h1 => exact hT0.out
     case h2 => exact info_id
     case h3 => exact all_oneCell_toArray (by intro v hv; obtain ⟨x, _, rfl⟩ := List.mem_map.1 hv; rfl)
     go_step
     refine hK3 _ _ ?_
     go_step
     refine bodyPost_ret (v := idV l) ?_ rfl ⟨rfl, ?_⟩
     ·have hl := run_loadVar_mid (P := Tryz.prog) _ w.heap.size 0 48 (q.bytes.map (Value.int .u8)) _ (World.rangeAt_setCells_same wr w.heap.size 0 (q.bytes.map (Value.int .u8)) hT0.out) under_id rfl info_id
      simp [results, Tryz.results53, Act.put, asAddr, hl]
      unfold idV idOf
      rw [HQV.out]
     ·exact below_cells (Nat.le_refl _) _ _ _ _ hB.out
end Go.Proofs.YtofadpodlaakbaaGreat
