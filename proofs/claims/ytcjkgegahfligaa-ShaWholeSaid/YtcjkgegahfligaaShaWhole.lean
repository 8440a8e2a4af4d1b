/- The statement ShaWhole, walked out of the contracts of what it calls. -/
import Derived.Test.YtcjkgegahfligaaShaLaws
namespace Go.Proofs.Ytcjkgegahfligaa
open Go.ChangeShapes Go.WideShapes Go.ChangeAt Go.RowKit
set_option linter.unusedVariables false

set_option maxRecDepth 100000 in
set_option maxHeartbeats 4000000 in
theorem shaWhole_walk (a : Option Addr) (n c : Nat) (l : List UInt8) (w : World) (hr : Rd w a n c l) :
    Calls Try.prog 5 #[.slice a n c] w fun e w' => e = .returned (.bool true) ∧ Below w.heap.size w w' := by
  by_cases hl : n ≤ 200
  case neg =>
    have hl2 : 200 < (n : Int) := by omega
    have hl3 : n ≤ 9223372036854775807 := Nat.le_trans hr.le hr.cap
    clear hr
    go_enter Try.func5, Try.ntmps5
    go_wp2_with fail
    refine (awake_any _).mono ?_
    rintro e v1 ⟨rfl, hb1⟩
    go_wp2_with fail
    go_ret
    exact ⟨rfl, hb1⟩
  have hlen := hr.len
  have hl2 : ¬ 200 < (n : Int) := by omega
  have hq : startQ.val = .agg #[.int .u32 startQ.a, .int .u32 startQ.b, .int .u32 startQ.c, .int .u32 startQ.d, .int .u32 startQ.e, .int .u32 startQ.f, .int .u32 startQ.g, .int .u32 startQ.h] := rfl
  go_enter Try.func5, Try.ntmps5
  go_wp2_with fail
  refine (awake_any _).mono ?_
  rintro e v1 ⟨rfl, hb1⟩
  go_wp2_with fail
  refine (start_any _).mono ?_
  rintro e w2 ⟨rfl, hb2⟩
  rw [hq]
  go_wp2_with fail
  generalize hw3 : w2.alloc (.cells _ 23) = w3
  have hB3 : Below w2.heap.size w2 w3 := by rw [← hw3]; exact (Below.refl _ _).alloc (Nat.le_refl _) _
  have hR3 : w3.rangeAt w2.heap.size 0 startQ.cells := by rw [← hw3]; exact q8_cells_new w2 startQ 23
  have hT3 : w3.there w2.heap.size 0 8 := by rw [← hw3]; exact there_new w2 startQ.cells 23
  have hs3 : w3.heap.size = w2.heap.size + 1 := by rw [← hw3]; simp
  clear hw3
  have hBw3 : Below w.heap.size w w3 := hb1.step (hb2.step hB3)
  have hlo : w.heap.size ≤ w2.heap.size := by have := hb1.size; have := hb2.size; omega
  refine (pad_any a n c l w3 (hr.below hBw3) (by omega)).mono ?_
  rintro e w4 ⟨v4, rfl, hown, hb4⟩
  obtain ⟨N, hN⟩ : ∃ N, (padL l).length = 64 * N := ⟨(padL l).length / 64, by have := padL_mod l; omega⟩
  have hN400 : (padL l).length ≤ 400 := by rw [padL_length, hlen]; unfold padN; omega
  rw [hN] at hown hN400
  obtain ⟨b5, c5, rfl, hb5⟩ : ∃ b5 c5, v4 = .slice (some ⟨b5, 0, none⟩) (64 * N) c5 ∧ w3.heap.size ≤ b5 := by
    rcases hown.2 with ⟨_, h0⟩ | ⟨g, cap, cur, e, hg, _⟩
    · rw [padL_length] at hN; omega
    · exact ⟨g, cap, e, hg⟩
  obtain ⟨a5', c5', e5, hr4⟩ := Rd.of_own hown
  cases e5
  obtain ⟨m, hm⟩ : ∃ m, m = 64 * N := ⟨_, rfl⟩
  rw [← hm] at hr4 hown ⊢
  have HRO := Lib.hid hr
  have HR5 := Lib.hid hr4
  have HNB := Lib.hid (show b5 ≠ w2.heap.size by omega)
  have HM := Lib.hid hm
  have HN := Lib.hid (show sumQ l = blocksQ N startQ (padL l) by unfold sumQ; rw [hN, Nat.mul_div_cancel_left _ (by decide)])
  have HRR := Lib.hid (rangeAt_below hR3 hb4 (by omega))
  have HTT := Lib.hid (there_below hT3 hb4 (by omega))
  have HBB := Lib.hid (hBw3.step hb4)
  have HLT := Lib.hid (show w2.heap.size < w4.heap.size by have := hb4.size; omega)
  have HLO := Lib.hid hlo
  have hm400 : m ≤ 400 := by omega
  clear hb5 hr hR3 hT3 hB3 hb1 hb2 hb4 hBw3 hown hr4 hm hN hs3 hlo hN400
  generalize w2.heap.size = bh at *
  go_wp2_with fail
  go_loopw [6] (fun iv wr => ∃ (j : Nat) (q : Q8), j ≤ N ∧ iv = .int .i64 ((64 * j : Nat) : Int) ∧ q.Ok ∧ Hid (blocksQ (N - j) q ((padL l).drop (64 * j)) = sumQ l) ∧ Hid (wr.rangeAt bh 0 q.cells) ∧ Hid (wr.there bh 0 8) ∧ Hid (bh < wr.heap.size) ∧ Hid (But w bh w4 wr))
    (fun iv _ => 1000 - (intOf iv).toNat)
  case atStart => exact ⟨0, startQ, by omega, rfl, startQ_ok, Lib.hid HN.out.symm, HRR.out, HTT.out, HLT.out, Lib.hid ⟨fun _ _ _ => ⟨rfl, rfl⟩, Nat.le_refl _, HBB.out⟩⟩
  case round =>
    obtain ⟨j, q, hj, rfl, hok, hV, hR, hT, hL, hB⟩ := hrel
    obtain ⟨i, hi⟩ : ∃ i, i = 64 * j := ⟨_, rfl⟩
    rw [← hi]
    by_cases hlt : j < N
    · have him : (i : Int) + 64 ≤ (m : Int) := by have := HM.out; omega
      have HI := Lib.hid hi
      clear hi
      have hiN : i + 64 ≤ m := by omega
      have hr5 := (HR5.out)
      have hrw : Rd wr (some ⟨b5, 0, none⟩) m c5 (padL l) := hB.out.rd hr5 HNB.out
      have hr64 := hrw.part i (i + 64) (by omega) hiN
      rw [Nat.add_sub_cancel_left, Nat.zero_add] at hr64
      have hcm : m ≤ c5 := hrw.le
      obtain ⟨B6, hB6⟩ : ∃ B6, B6 = ((padL l).take (i + 64)).drop i := ⟨_, rfl⟩
      rw [← hB6] at hr64
      obtain ⟨q', hq'⟩ : ∃ q', q' = blockQ q B6 := ⟨_, rfl⟩
      have HBLK := Lib.hid (fun (w' : World) (h : Rd w' (some ⟨b5, i, none⟩) 64 (c5 - i) B6) => block_any (some ⟨b5, i, none⟩) (c5 - i) B6 q w' hok h)
      rw [← hq'] at HBLK
      have HQ' := Lib.hid hq'
      have HWI := Lib.hid (show IntKind.i64.wrap ((i : Int) + 64) = (i : Int) + 64 from IntWalk.i64_in _ ⟨by omega, by omega⟩)
      have HB6 := Lib.hid hB6
      clear hq' hB6 hr5
      go_wp2_with fail
      refine region_inv (by kernel_rfl) (by kernel_rfl) (fun f act wx => ∃ v7 v8 v31 v32 v33 v34 v35 v36 v37 v38 v39 v40 b7, act = ⟨#[.slice a n c, undef, u2, .bool true, .pointer (some ⟨bh, 0, none⟩), .slice (some ⟨b5, 0, none⟩) m c5, .int .i64 (i : Int), v7, v8, undef, undef, undef, .bool true, .bool true, .bool false, .bool false, .slice a n c, .int .i64 (n : Int), .bool (decide (200 < (n : Int))), .bool (decide (200 < (n : Int))), undef, .agg #[.int .u32 startQ.a, .int .u32 startQ.b, .int .u32 startQ.c, .int .u32 startQ.d, .int .u32 startQ.e, .int .u32 startQ.f, .int .u32 startQ.g, .int .u32 startQ.h], .slice a n c, .slice (some ⟨b5, 0, none⟩) m c5, .int .i64 (i : Int), .int .i64 ((i : Int) + 64), .slice (some ⟨b5, 0, none⟩) m c5, .int .i64 (m : Int), .bool true, u29, u30, v31, v32, v33, v34, v35, v36, v37, v38, v39, v40, u41, u42, u43, undef, undef, undef, undef, undef, undef, undef, undef, undef, undef, undef, undef, undef, undef, undef, undef, undef, undef, undef, undef, undef, undef, undef, undef, undef, undef, undef, undef, undef, undef, undef, undef, undef, undef, undef, undef, undef, undef, undef, undef], []⟩ ∧ (On f 0 → v32 = .agg q.cells.toArray) ∧ (On f 1 → v33 = .slice (some ⟨b5, 0, none⟩) m c5) ∧ (On f 2 → v34 = .int .i64 (i : Int)) ∧ (On f 3 → v35 = .int .i64 (i : Int)) ∧ (On f 4 → v36 = .int .i64 ((i : Int) + 64)) ∧ (On f 5 → v37 = .slice (some ⟨b5, i, none⟩) 64 (c5 - i)) ∧ (On f 6 → v38 = .tuple #[.agg q'.cells.toArray, .bool true]) ∧ (On f 7 → v31 = .tuple #[.agg q'.cells.toArray, .bool true]) ∧ (On f 8 → v39 = .agg q'.cells.toArray) ∧ (On f 9 → v40 = .bool true) ∧ (On f 10 → v7 = .pointer (some ⟨b7, 0, none⟩)) ∧ (On f 12 → v8 = .bool true) ∧ (On f 10 → Vr wr wx 8 b7) ∧ (On f 11 → On f 10 ∧ wx.rangeAt b7 0 q'.cells) ∧ Below wr.heap.size wr wx) ?_ ?_ ?_
      · have hoff : ∀ j, ¬ On (Array.replicate 13 false) j := by
          intro j hj; simp only [On, Array.getD_eq_getD_getElem?, Array.getElem?_replicate] at hj; split at hj <;> simp at hj
        exact ⟨_, _, _, _, _, _, _, _, _, _, _, _, 0, rfl, fun x => absurd x (hoff _), fun x => absurd x (hoff _), fun x => absurd x (hoff _), fun x => absurd x (hoff _), fun x => absurd x (hoff _), fun x => absurd x (hoff _), fun x => absurd x (hoff _), fun x => absurd x (hoff _), fun x => absurd x (hoff _), fun x => absurd x (hoff _), fun x => absurd x (hoff _), fun x => absurd x (hoff _), fun x => absurd x (hoff _), fun x => absurd x (hoff _), (Below.refl _ _).drew⟩
      · rintro i' o f act wm hio hs hn he hI K hK
        have hi' : i' < 13 := (Array.getElem?_eq_some_iff.1 hio).1
        replace hs : f.size = 13 := hs
        obtain ⟨v7, v8, v31, v32, v33, v34, v35, v36, v37, v38, v39, v40, b7, rfl, p0, p1, p2, p3, p4, p5, p6, p7, p8, p9, p10, p12, hV7, hR7, hBx⟩ := hI
        match i', hi' with
        | 0, _ =>
          cases hio
          have k : ∀ j, j ≠ 0 → On (f.setIfInBounds 0 true) j → On f j := fun j hj x => on_back (by omega) x hj
          have k' : ∀ j, On f j → On (f.setIfInBounds 0 true) j := fun j x => (on_put (by omega)).2 (.inr x)
          refine wanted_load (by rfl) 32 rfl 23 (.tmp 4) rfl bh rfl q.cells _ (rangeAt_below hR.out hBx hL.out) under_w8 rfl info_w8 ?_
          simp only [List.setIfInBounds_toArray, List.set_cons_zero, List.set_cons_succ]
          exact hK _ _ ⟨_, _, _, _, _, _, _, _, _, _, _, _, b7, rfl, fun _ => rfl, fun x => p1 (k _ (by decide) x), fun x => p2 (k _ (by decide) x), fun x => p3 (k _ (by decide) x), fun x => p4 (k _ (by decide) x), fun x => p5 (k _ (by decide) x), fun x => p6 (k _ (by decide) x), fun x => p7 (k _ (by decide) x), fun x => p8 (k _ (by decide) x), fun x => p9 (k _ (by decide) x), fun x => p10 (k _ (by decide) x), fun x => p12 (k _ (by decide) x), fun x => hV7 (k _ (by decide) x), fun x => ⟨k' _ (hR7 (k _ (by decide) x)).1, (hR7 (k _ (by decide) x)).2⟩, hBx⟩
        | 1, _ =>
          cases hio
          have k : ∀ j, j ≠ 1 → On (f.setIfInBounds 1 true) j → On f j := fun j hj x => on_back (by omega) x hj
          have k' : ∀ j, On f j → On (f.setIfInBounds 1 true) j := fun j x => (on_put (by omega)).2 (.inr x)
          go_simp
          exact hK _ _ ⟨_, _, _, _, _, _, _, _, _, _, _, _, b7, rfl, fun x => p0 (k _ (by decide) x), fun _ => rfl, fun x => p2 (k _ (by decide) x), fun x => p3 (k _ (by decide) x), fun x => p4 (k _ (by decide) x), fun x => p5 (k _ (by decide) x), fun x => p6 (k _ (by decide) x), fun x => p7 (k _ (by decide) x), fun x => p8 (k _ (by decide) x), fun x => p9 (k _ (by decide) x), fun x => p10 (k _ (by decide) x), fun x => p12 (k _ (by decide) x), fun x => hV7 (k _ (by decide) x), fun x => ⟨k' _ (hR7 (k _ (by decide) x)).1, (hR7 (k _ (by decide) x)).2⟩, hBx⟩
        | 2, _ =>
          cases hio
          have k : ∀ j, j ≠ 2 → On (f.setIfInBounds 2 true) j → On f j := fun j hj x => on_back (by omega) x hj
          have k' : ∀ j, On f j → On (f.setIfInBounds 2 true) j := fun j x => (on_put (by omega)).2 (.inr x)
          go_simp
          exact hK _ _ ⟨_, _, _, _, _, _, _, _, _, _, _, _, b7, rfl, fun x => p0 (k _ (by decide) x), fun x => p1 (k _ (by decide) x), fun _ => rfl, fun x => p3 (k _ (by decide) x), fun x => p4 (k _ (by decide) x), fun x => p5 (k _ (by decide) x), fun x => p6 (k _ (by decide) x), fun x => p7 (k _ (by decide) x), fun x => p8 (k _ (by decide) x), fun x => p9 (k _ (by decide) x), fun x => p10 (k _ (by decide) x), fun x => p12 (k _ (by decide) x), fun x => hV7 (k _ (by decide) x), fun x => ⟨k' _ (hR7 (k _ (by decide) x)).1, (hR7 (k _ (by decide) x)).2⟩, hBx⟩
        | 3, _ =>
          cases hio
          have k : ∀ j, j ≠ 3 → On (f.setIfInBounds 3 true) j → On f j := fun j hj x => on_back (by omega) x hj
          have k' : ∀ j, On f j → On (f.setIfInBounds 3 true) j := fun j x => (on_put (by omega)).2 (.inr x)
          go_simp
          exact hK _ _ ⟨_, _, _, _, _, _, _, _, _, _, _, _, b7, rfl, fun x => p0 (k _ (by decide) x), fun x => p1 (k _ (by decide) x), fun x => p2 (k _ (by decide) x), fun _ => rfl, fun x => p4 (k _ (by decide) x), fun x => p5 (k _ (by decide) x), fun x => p6 (k _ (by decide) x), fun x => p7 (k _ (by decide) x), fun x => p8 (k _ (by decide) x), fun x => p9 (k _ (by decide) x), fun x => p10 (k _ (by decide) x), fun x => p12 (k _ (by decide) x), fun x => hV7 (k _ (by decide) x), fun x => ⟨k' _ (hR7 (k _ (by decide) x)).1, (hR7 (k _ (by decide) x)).2⟩, hBx⟩
        | 4, _ =>
          cases hio
          have k : ∀ j, j ≠ 4 → On (f.setIfInBounds 4 true) j → On f j := fun j hj x => on_back (by omega) x hj
          have k' : ∀ j, On f j → On (f.setIfInBounds 4 true) j := fun j x => (on_put (by omega)).2 (.inr x)
          have h3 : On f 3 := he ⟨3, .data⟩ (by simp) rfl
          obtain rfl := p3 h3
          go_simp
          rw [HWI.out]
          exact hK _ _ ⟨_, _, _, _, _, _, _, _, _, _, _, _, b7, rfl, fun x => p0 (k _ (by decide) x), fun x => p1 (k _ (by decide) x), fun x => p2 (k _ (by decide) x), fun x => p3 (k _ (by decide) x), fun _ => rfl, fun x => p5 (k _ (by decide) x), fun x => p6 (k _ (by decide) x), fun x => p7 (k _ (by decide) x), fun x => p8 (k _ (by decide) x), fun x => p9 (k _ (by decide) x), fun x => p10 (k _ (by decide) x), fun x => p12 (k _ (by decide) x), fun x => hV7 (k _ (by decide) x), fun x => ⟨k' _ (hR7 (k _ (by decide) x)).1, (hR7 (k _ (by decide) x)).2⟩, hBx⟩
        | 5, _ =>
          cases hio
          have k : ∀ j, j ≠ 5 → On (f.setIfInBounds 5 true) j → On f j := fun j hj x => on_back (by omega) x hj
          have k' : ∀ j, On f j → On (f.setIfInBounds 5 true) j := fun j x => (on_put (by omega)).2 (.inr x)
          have h1 : On f 1 := he ⟨1, .data⟩ (by simp) rfl
          have h2 : On f 2 := he ⟨2, .data⟩ (by simp) rfl
          have h4 : On f 4 := he ⟨4, .data⟩ (by simp) rfl
          obtain rfl := p1 h1
          obtain rfl := p2 h2
          obtain rfl := p4 h4
          go_simp
          rw [if_pos (by omega), if_pos (by omega), if_neg (by omega), show ((i : Int) + 64).toNat - i = 64 by omega]
          go_simp
          exact hK _ _ ⟨_, _, _, _, _, _, _, _, _, _, _, _, b7, rfl, fun x => p0 (k _ (by decide) x), fun x => p1 (k _ (by decide) x), fun x => p2 (k _ (by decide) x), fun x => p3 (k _ (by decide) x), fun x => p4 (k _ (by decide) x), fun _ => rfl, fun x => p6 (k _ (by decide) x), fun x => p7 (k _ (by decide) x), fun x => p8 (k _ (by decide) x), fun x => p9 (k _ (by decide) x), fun x => p10 (k _ (by decide) x), fun x => p12 (k _ (by decide) x), fun x => hV7 (k _ (by decide) x), fun x => ⟨k' _ (hR7 (k _ (by decide) x)).1, (hR7 (k _ (by decide) x)).2⟩, hBx⟩
        | 6, _ =>
          cases hio
          have k : ∀ j, j ≠ 6 → On (f.setIfInBounds 6 true) j → On f j := fun j hj x => on_back (by omega) x hj
          have k' : ∀ j, On f j → On (f.setIfInBounds 6 true) j := fun j x => (on_put (by omega)).2 (.inr x)
          have h0 : On f 0 := he ⟨0, .data⟩ (by simp) rfl
          have h5 : On f 5 := he ⟨5, .data⟩ (by simp) rfl
          obtain rfl := p0 h0
          obtain rfl := p5 h5
          go_simp
          refine (HBLK.out _ (hr64.below hBx)).mono ?_
          rintro e w6 ⟨rfl, hb⟩
          exact hK _ _ ⟨_, _, _, _, _, _, _, _, _, _, _, _, b7, rfl, fun x => p0 (k _ (by decide) x), fun x => p1 (k _ (by decide) x), fun x => p2 (k _ (by decide) x), fun x => p3 (k _ (by decide) x), fun x => p4 (k _ (by decide) x), fun x => p5 (k _ (by decide) x), fun _ => rfl, fun x => p7 (k _ (by decide) x), fun x => p8 (k _ (by decide) x), fun x => p9 (k _ (by decide) x), fun x => p10 (k _ (by decide) x), fun x => p12 (k _ (by decide) x), fun x => (hV7 (k _ (by decide) x)).below hb, fun x => ⟨k' _ (hR7 (k _ (by decide) x)).1, rangeAt_below (hR7 (k _ (by decide) x)).2 hb (hV7 (hR7 (k _ (by decide) x)).1).hi⟩, hBx.step hb⟩
        | 7, _ =>
          cases hio
          have k : ∀ j, j ≠ 7 → On (f.setIfInBounds 7 true) j → On f j := fun j hj x => on_back (by omega) x hj
          have k' : ∀ j, On f j → On (f.setIfInBounds 7 true) j := fun j x => (on_put (by omega)).2 (.inr x)
          have h6 : On f 6 := he ⟨6, .data⟩ (by simp) rfl
          obtain rfl := p6 h6
          go_simp
          exact hK _ _ ⟨_, _, _, _, _, _, _, _, _, _, _, _, b7, rfl, fun x => p0 (k _ (by decide) x), fun x => p1 (k _ (by decide) x), fun x => p2 (k _ (by decide) x), fun x => p3 (k _ (by decide) x), fun x => p4 (k _ (by decide) x), fun x => p5 (k _ (by decide) x), fun x => p6 (k _ (by decide) x), fun _ => rfl, fun x => p8 (k _ (by decide) x), fun x => p9 (k _ (by decide) x), fun x => p10 (k _ (by decide) x), fun x => p12 (k _ (by decide) x), fun x => hV7 (k _ (by decide) x), fun x => ⟨k' _ (hR7 (k _ (by decide) x)).1, (hR7 (k _ (by decide) x)).2⟩, hBx⟩
        | 8, _ =>
          cases hio
          have k : ∀ j, j ≠ 8 → On (f.setIfInBounds 8 true) j → On f j := fun j hj x => on_back (by omega) x hj
          have k' : ∀ j, On f j → On (f.setIfInBounds 8 true) j := fun j x => (on_put (by omega)).2 (.inr x)
          have h7 : On f 7 := he ⟨7, .data⟩ (by simp) rfl
          obtain rfl := p7 h7
          go_simp
          exact hK _ _ ⟨_, _, _, _, _, _, _, _, _, _, _, _, b7, rfl, fun x => p0 (k _ (by decide) x), fun x => p1 (k _ (by decide) x), fun x => p2 (k _ (by decide) x), fun x => p3 (k _ (by decide) x), fun x => p4 (k _ (by decide) x), fun x => p5 (k _ (by decide) x), fun x => p6 (k _ (by decide) x), fun x => p7 (k _ (by decide) x), fun _ => rfl, fun x => p9 (k _ (by decide) x), fun x => p10 (k _ (by decide) x), fun x => p12 (k _ (by decide) x), fun x => hV7 (k _ (by decide) x), fun x => ⟨k' _ (hR7 (k _ (by decide) x)).1, (hR7 (k _ (by decide) x)).2⟩, hBx⟩
        | 9, _ =>
          cases hio
          have k : ∀ j, j ≠ 9 → On (f.setIfInBounds 9 true) j → On f j := fun j hj x => on_back (by omega) x hj
          have k' : ∀ j, On f j → On (f.setIfInBounds 9 true) j := fun j x => (on_put (by omega)).2 (.inr x)
          have h7 : On f 7 := he ⟨7, .data⟩ (by simp) rfl
          obtain rfl := p7 h7
          go_simp
          exact hK _ _ ⟨_, _, _, _, _, _, _, _, _, _, _, _, b7, rfl, fun x => p0 (k _ (by decide) x), fun x => p1 (k _ (by decide) x), fun x => p2 (k _ (by decide) x), fun x => p3 (k _ (by decide) x), fun x => p4 (k _ (by decide) x), fun x => p5 (k _ (by decide) x), fun x => p6 (k _ (by decide) x), fun x => p7 (k _ (by decide) x), fun x => p8 (k _ (by decide) x), fun _ => rfl, fun x => p10 (k _ (by decide) x), fun x => p12 (k _ (by decide) x), fun x => hV7 (k _ (by decide) x), fun x => ⟨k' _ (hR7 (k _ (by decide) x)).1, (hR7 (k _ (by decide) x)).2⟩, hBx⟩
        | 10, _ =>
          cases hio
          have k : ∀ j, j ≠ 10 → On (f.setIfInBounds 10 true) j → On f j := fun j hj x => on_back (by omega) x hj
          have k' : ∀ j, On f j → On (f.setIfInBounds 10 true) j := fun j x => (on_put (by omega)).2 (.inr x)
          have hn11 : ¬ On f 11 := fun x => on_off (by omega) hn (hR7 x).1
          refine wanted_run (by rfl) 7 rfl (.pointer (some ⟨wm.heap.size, 0, none⟩)) (wm.alloc (.cells zeros8.toArray 23)) (by kernel_rfl) ?_
          simp only [List.setIfInBounds_toArray, List.set_cons_zero, List.set_cons_succ]
          exact hK _ _ ⟨_, _, _, _, _, _, _, _, _, _, _, _, wm.heap.size, rfl, fun x => p0 (k _ (by decide) x), fun x => p1 (k _ (by decide) x), fun x => p2 (k _ (by decide) x), fun x => p3 (k _ (by decide) x), fun x => p4 (k _ (by decide) x), fun x => p5 (k _ (by decide) x), fun x => p6 (k _ (by decide) x), fun x => p7 (k _ (by decide) x), fun x => p8 (k _ (by decide) x), fun x => p9 (k _ (by decide) x), fun _ => rfl, fun x => p12 (k _ (by decide) x), fun _ => Vr.new wr wm zeros8 _ hBx.size, fun x => absurd (k _ (by decide) x) hn11, hBx.alloc hBx.size _⟩
        | 11, _ =>
          cases hio
          have k : ∀ j, j ≠ 11 → On (f.setIfInBounds 11 true) j → On f j := fun j hj x => on_back (by omega) x hj
          have k' : ∀ j, On f j → On (f.setIfInBounds 11 true) j := fun j x => (on_put (by omega)).2 (.inr x)
          have h10 : On f 10 := he ⟨10, .data⟩ (by simp) rfl
          have h8 : On f 8 := he ⟨8, .data⟩ (by simp) rfl
          obtain rfl := p10 h10
          obtain rfl := p8 h8
          refine wanted_store (by rfl) rfl 23 (.tmp 7) (.tmp 39) rfl b7 q'.cells rfl rfl (hV7 h10).th info_w8 (cells_one q') ?_
          exact hK _ _ ⟨_, _, _, _, _, _, _, _, _, _, _, _, b7, rfl, fun x => p0 (k _ (by decide) x), fun x => p1 (k _ (by decide) x), fun x => p2 (k _ (by decide) x), fun x => p3 (k _ (by decide) x), fun x => p4 (k _ (by decide) x), fun x => p5 (k _ (by decide) x), fun x => p6 (k _ (by decide) x), fun x => p7 (k _ (by decide) x), fun x => p8 (k _ (by decide) x), fun x => p9 (k _ (by decide) x), fun x => p10 (k _ (by decide) x), fun x => p12 (k _ (by decide) x), fun _ => (hV7 h10).set _ _, fun _ => ⟨k' _ h10, set_same (hV7 h10).th⟩, below_cells (hV7 h10).lo _ _ _ _ hBx⟩
        | 12, _ =>
          cases hio
          have k : ∀ j, j ≠ 12 → On (f.setIfInBounds 12 true) j → On f j := fun j hj x => on_back (by omega) x hj
          have k' : ∀ j, On f j → On (f.setIfInBounds 12 true) j := fun j x => (on_put (by omega)).2 (.inr x)
          have h9 : On f 9 := he ⟨9, .data⟩ (by simp) rfl
          obtain rfl := p9 h9
          go_simp
          exact hK _ _ ⟨_, _, _, _, _, _, _, _, _, _, _, _, b7, rfl, fun x => p0 (k _ (by decide) x), fun x => p1 (k _ (by decide) x), fun x => p2 (k _ (by decide) x), fun x => p3 (k _ (by decide) x), fun x => p4 (k _ (by decide) x), fun x => p5 (k _ (by decide) x), fun x => p6 (k _ (by decide) x), fun x => p7 (k _ (by decide) x), fun x => p8 (k _ (by decide) x), fun x => p9 (k _ (by decide) x), fun x => p10 (k _ (by decide) x), fun _ => rfl, fun x => hV7 (k _ (by decide) x), fun x => ⟨k' _ (hR7 (k _ (by decide) x)).1, (hR7 (k _ (by decide) x)).2⟩, hBx⟩
      · rintro f act w5 hall hs ⟨v7, v8, v31, v32, v33, v34, v35, v36, v37, v38, v39, v40, b7, rfl, p0, p1, p2, p3, p4, p5, p6, p7, p8, p9, p10, p12, hV7, hR7, hBx⟩
        replace hs : f.size = 13 := hs
        have on : ∀ j, j < 13 → On f j := fun j hj => on_all hall hs j hj
        obtain rfl := p10 (on 10 (by decide))
        obtain rfl := p12 (on 12 (by decide))
        have R7 := Lib.hid (hR7 (on 11 (by decide))).2
        have V7 := Lib.hid (hV7 (on 10 (by decide)))
        have BX := Lib.hid hBx
        clear p0 p1 p2 p3 p4 p5 p6 p7 p8 p9 p10 p12 hV7 hR7 hBx on hall hs
        go_upto_region 12 with fail
        rename_i K1 hK1
        go_step
        refine wpList_load_mid rfl 23 (.tmp 7) rfl b7 0 rfl q'.cells _ R7.out under_w8 rfl info_w8 ?_
        simp only [Act.put, List.setIfInBounds_toArray, List.set_cons_zero, List.set_cons_succ]
        refine wpList_store_mid rfl 23 (.tmp 4) (.tmp 43) rfl bh 0 q'.cells.toArray rfl rfl ?h1 ?h2 ?h3 ?_
        case h1 => exact there_below hT.out BX.out hL.out
        case h2 => exact info_w8
        case h3 => exact all_oneCell_toArray (cells_one q')
        obtain ⟨w6, hw6⟩ : ∃ w6, w6 = w5.setCells bh 0 q'.cells := ⟨_, rfl⟩
        rw [show q'.cells.toArray.toList = q'.cells from rfl, ← hw6]
        have HE : Hid (w6.rangeAt bh 0 q'.cells ∧ w6.there bh 0 8 ∧ bh < w6.heap.size ∧ But w bh w4 w6) := Lib.hid (by
          have h1 := there_below hT.out BX.out hL.out
          have h2 := Nat.lt_of_lt_of_le hL.out BX.out.size
          rw [hw6]
          exact ⟨set_same h1, World.there_setCells h1 bh 0 _, by rw [size_setCells]; exact h2, (hB.out.below BX.out).set HLO.out _⟩)
        clear hw6
        go_wp2_with fail
        refine ⟨⟨j + 1, q', by omega, ?_, ?_, Lib.hid ?_, HE.out.1, HE.out.2.1, HE.out.2.2.1, HE.out.2.2.2⟩, ?_⟩
        · rw [show ((64 * (j + 1) : Nat) : Int) = (i : Int) + 64 by have := HI.out; omega]
        · rw [HQ'.out]; exact blockQ_ok _ _
        · have hv := hV.out
          rw [show N - j = (N - (j + 1)) + 1 by omega, blocksQ, List.drop_drop] at hv
          rw [HQ'.out, HB6.out, List.drop_take, show i + 64 - i = 64 by omega, HI.out]
          exact hv
        · simp [intOf]; omega
    · have him : ¬ (i : Int) + 64 ≤ (m : Int) := by have := HM.out; omega
      have HI := Lib.hid hi
      clear hi
      obtain rfl : j = N := by have := HM.out; have := HI.out; omega
      have hi400 : (i : Int) ≤ 400 := by have := HM.out; have := HI.out; omega
      have hqv : q = sumQ l := by have := hV.out; rw [Nat.sub_self] at this; exact this
      go_wp2_with fail
      refine (sum_any a n c l _ (HRO.out.below hB.out.bel) (by omega)).mono ?_
      rintro e w4' ⟨rfl, hb4⟩
      obtain ⟨L, hL'⟩ : ∃ L, L = idC l := ⟨_, rfl⟩
      rw [show idV l = .agg L.toArray by rw [hL']; rfl]
      have HL := Lib.hid (show L.length = 32 ∧ (∀ v ∈ L, v.oneCell' = true) from ⟨by rw [hL']; exact idC_length l, by rw [hL']; exact idC_one l⟩)
      have HLD := Lib.hid hL'
      clear hL'
      rename_i K1 hK1
      refine hK1 _ _ ?_
      refine wpList_alloc rfl 33 rfl zeros32.toArray (by kernel_rfl) ?_
      simp only [Act.put, List.setIfInBounds_toArray, List.set_cons_zero, List.set_cons_succ]
      obtain ⟨w5x, hx, ht5, hm5⟩ := new_idx w4' L HL.out.1
      rw [← hx]
      refine wpList_store_mid rfl 33 (.tmp 9) (.tmp 45) rfl w4'.heap.size 0 L.toArray rfl rfl ?h1 ?h2 ?h3 ?_
      case h1 => rw [show L.toArray.size = 32 from List.size_toArray.trans HL.out.1]; exact ht5
      case h2 => rw [show L.toArray.size = 32 from List.size_toArray.trans HL.out.1]; exact info_id
      case h3 => exact all_oneCell_toArray HL.out.2
      obtain ⟨w5, hy⟩ : ∃ v, v = w5x.setCells w4'.heap.size 0 L := ⟨_, rfl⟩
      rw [List.toList_toArray, ← hy]
      rw [← hy] at hm5
      obtain ⟨hr5, hb5, hlt5⟩ := hm5
      obtain ⟨idb, hidb⟩ : ∃ b, b = w4'.heap.size := ⟨_, rfl⟩
      rw [← hidb] at hr5 ⊢
      have HID : Hid (∀ i, i < 32 → w5.cell? ⟨idb, i, none⟩ = some (.int .u8 (q.bytes.getD i 0))) := Lib.hid fun i hi => by rw [hqv]; exact cell_in hr5 (by rw [HLD.out]; exact idC_at l i hi)
      have hb345 := Below.step hb4 hb5
      have HKN : Hid (∀ k, k < 8 → w5.cell? ⟨bh, k, none⟩ = some (.int .u32 (q.get k))) := Lib.hid fun k hk => carry_cell (q8_cell hR.out hk) hb345
      have HB5 := Lib.hid (hB.out.bel.step hb345)
      clear hx hy ht5 hr5 hb5 hlt5 hidb hqv hb345 hb4 HL HLD hV hR hT hL hB
      go_wp2_with fail
      go_loopw [10] (fun kv wr => ∃ k : Nat, k ≤ 8 ∧ kv = .int .i64 (k : Int) ∧ Hid (∀ p : Addr, wr.cell? p = w5.cell? p) ∧ Hid (Below w.heap.size w wr)) (fun kv _ => 8 - (intOf kv).toNat)
      case atStart => exact ⟨0, by omega, rfl, Lib.hid (fun _ => rfl), HB5.out⟩
      case round =>
        obtain ⟨k, hk, rfl, hC, hB⟩ := hrel
        by_cases hlt : k < 8
        · have hk8 : (k : Int) < 8 := by omega
          have hk0 : (0 : Int) ≤ (k : Int) := by omega
          obtain ⟨x, hx⟩ : ∃ x, x = q.get k := ⟨_, rfl⟩
          obtain ⟨o0, h0⟩ : ∃ o, o = 4 * k := ⟨_, rfl⟩
          obtain ⟨o1, h1⟩ : ∃ o, o = 4 * k + 1 := ⟨_, rfl⟩
          obtain ⟨o2, h2⟩ : ∃ o, o = 4 * k + 2 := ⟨_, rfl⟩
          obtain ⟨o3, h3⟩ : ∃ o, o = 4 * k + 3 := ⟨_, rfl⟩
          have ho := q8_ok hok k
          rw [← hx] at ho
          obtain ⟨x0, x1⟩ := ho
          obtain ⟨b0, c0⟩ : ∃ b, b = x / 16777216 := ⟨_, rfl⟩
          obtain ⟨b1, c1⟩ : ∃ b, b = x / 65536 % 256 := ⟨_, rfl⟩
          obtain ⟨b2, c2⟩ : ∃ b, b = x / 256 % 256 := ⟨_, rfl⟩
          obtain ⟨b3, c3⟩ : ∃ b, b = x % 256 := ⟨_, rfl⟩
          have d0 : wr.cell? ⟨idb, o0, none⟩ = some (.int .u8 b0) := by rw [hC.out, h0, ← Nat.add_zero (4 * k), HID.out _ (by omega), ← bytes_get q k 0 hlt (by decide), ← hx, c0]; rfl
          have d1 : wr.cell? ⟨idb, o1, none⟩ = some (.int .u8 b1) := by rw [hC.out, h1, HID.out _ (by omega), ← bytes_get q k 1 hlt (by decide), ← hx, c1]; rfl
          have d2 : wr.cell? ⟨idb, o2, none⟩ = some (.int .u8 b2) := by rw [hC.out, h2, HID.out _ (by omega), ← bytes_get q k 2 hlt (by decide), ← hx, c2]; rfl
          have d3 : wr.cell? ⟨idb, o3, none⟩ = some (.int .u8 b3) := by rw [hC.out, h3, HID.out _ (by omega), ← bytes_get q k 3 hlt (by decide), ← hx, c3]; rfl
          have dk : wr.cell? ⟨bh, k, none⟩ = some (.int .u32 x) := by rw [hC.out, HKN.out k hlt, hx]
          have q0 : IntKind.i64.wrap (4 * (k : Int)) = (o0 : Int) := by rw [IntWalk.i64_in _ ⟨by omega, by omega⟩]; omega
          have q1 : IntKind.i64.wrap ((o0 : Int) + 1) = (o1 : Int) := by rw [IntWalk.i64_in _ ⟨by omega, by omega⟩]; omega
          have q2 : IntKind.i64.wrap ((o0 : Int) + 2) = (o2 : Int) := by rw [IntWalk.i64_in _ ⟨by omega, by omega⟩]; omega
          have q3 : IntKind.i64.wrap ((o0 : Int) + 3) = (o3 : Int) := by rw [IntWalk.i64_in _ ⟨by omega, by omega⟩]; omega
          have l0 : (o0 : Int) < 32 := by omega
          have l1 : (o1 : Int) < 32 := by omega
          have l2 : (o2 : Int) < 32 := by omega
          have l3 : (o3 : Int) < 32 := by omega
          have z0 : (0 : Int) ≤ (o0 : Int) := by omega
          have z1 : (0 : Int) ≤ (o1 : Int) := by omega
          have z2 : (0 : Int) ≤ (o2 : Int) := by omega
          have z3 : (0 : Int) ≤ (o3 : Int) := by omega
          have HX := Lib.hid (show b0 = x / 16777216 ∧ b1 = x / 65536 % 256 ∧ b2 = x / 256 % 256 ∧ b3 = x % 256 from ⟨c0, c1, c2, c3⟩)
          clear h0 h1 h2 h3 c0 c1 c2 c3 hx
          go_wp2_with fail
          go_quiet (fail)
          have hsum : ((16777216 * (b0 % 4294967296) + 65536 * (b1 % 4294967296) + 256 * (b2 % 4294967296)) % 4294967296 + b3 % 4294967296) % 4294967296 = x := by
            obtain ⟨e0, e1, e2, e3⟩ := HX.out
            omega
          rw [hsum]
          obtain ⟨wq, hwq⟩ : ∃ wq, wq = wr.drewN nq := ⟨_, rfl⟩
          rw [← hwq]
          have dk' : wq.cell? ⟨bh, k, none⟩ = some (.int .u32 x) := by rw [hwq]; exact dk
          have HW := Lib.hid (show (∀ p : Addr, wq.cell? p = w5.cell? p) ∧ Below w.heap.size w wq by rw [hwq]; exact ⟨hC.out, below_drewN hB.out nq⟩)
          clear hsum hwq dk d0 d1 d2 d3 q0 q1 q2 q3 l0 l1 l2 l3 z0 z1 z2 z3
          go_wp2_with fail
          go_roundw
          case rel => exact ⟨k + 1, by omega, by go_num, HW.out.1, HW.out.2⟩
          case measure => simp [intOf]; omega
        · have hk8 : ¬ (k : Int) < 8 := by omega
          go_wp2_with fail
          go_ret
          exact ⟨rfl, hB.out⟩
end Go.Proofs.Ytcjkgegahfligaa
