/- The walks of the layer log. -/
import Derived.Test.YtipaldfellfkdaaLogPlain
import Derived.Test.YtipaldfellfkdaaEncText
import Derived.Deep.RegionWith
import Derived.Laws.Cover3
namespace Go.Proofs.Ytipaldfellfkdaa
open Go.ChangeShapes Go.WideShapes Go.ChangeAt Go.RowKit
set_option linter.unusedVariables false

def zeros4 : List Value := List.replicate 4 (.int .u8 0)
theorem info_4 : (Try.prog.info? 37).map (·.size) = some 4 := by kernel_rfl
theorem under_4 : Try.prog.underlying 37 = some (.array 4 5) := by kernel_rfl
/-- The first four bytes of a sum, as a value. -/
def sumV (l : List UInt8) : Value := .agg (fourC (sumQ l).a).toArray
theorem fourC_one (x : Int) : ∀ v ∈ fourC x, v.oneCell' = true := by intro y hy; simp [fourC] at hy; rcases hy with rfl | rfl | rfl | rfl <;> rfl

set_option maxRecDepth 100000 in
set_option maxHeartbeats 2000000 in
theorem logsum_any (a : Option Addr) (n c : Nat) (l : List UInt8) (w : World) (hr : Rd w a n c l) (hn : n ≤ 5000) : Calls Try.prog 17 #[.slice a n c] w fun e w' => e = .returned (sumV l) ∧ Below w.heap.size w w' := by
  go_enter Try.func17, Try.ntmps17
  go_upto_region 1 with fail
  generalize hw1 : w.alloc (.cells _ 37) = w1
  have hB1 : Below w.heap.size w w1 := by rw [← hw1]; exact (Below.refl _ _).alloc (Nat.le_refl _) _
  have hT1 : w1.there w.heap.size 0 4 := by rw [← hw1]; exact there_new w zeros4 37
  have hs1 : w.heap.size < w1.heap.size := by rw [← hw1]; simp
  clear hw1
  have HR := Lib.hid (hr.below hB1)
  go_wp2_with fail
  refine (sum_any a n c l _ HR.out hn).mono ?_
  rintro e w4 ⟨rfl, hb4⟩
  obtain ⟨L, hL⟩ : ∃ L, L = idC l := ⟨_, rfl⟩
  rw [show idV l = .agg L.toArray by rw [hL]; rfl]
  have HL := Lib.hid (show L.length = 32 ∧ (∀ v ∈ L, v.oneCell' = true) from ⟨by rw [hL]; exact idC_length l, by rw [hL]; exact idC_one l⟩)
  have HLD := Lib.hid hL
  clear hL
  rename_i K1 hK1
  refine hK1 _ _ ?_
  refine wpList_alloc rfl 42 rfl zeros32.toArray (by kernel_rfl) ?_
  simp only [Act.put, List.setIfInBounds_toArray, List.set_cons_zero, List.set_cons_succ]
  obtain ⟨w5x, hx, ht5, hm5⟩ := new_idx w4 L HL.out.1
  rw [← hx]
  refine wpList_store_mid rfl 42 (.tmp 3) (.tmp 5) rfl w4.heap.size 0 L.toArray rfl rfl ?h1 ?h2 ?h3 ?_
  case h1 => rw [show L.toArray.size = 32 from List.size_toArray.trans HL.out.1]; exact ht5
  case h2 => rw [show L.toArray.size = 32 from List.size_toArray.trans HL.out.1]; exact info_id
  case h3 => exact all_oneCell_toArray HL.out.2
  obtain ⟨w5, hy⟩ : ∃ v, v = w5x.setCells w4.heap.size 0 L := ⟨_, rfl⟩
  rw [List.toList_toArray, ← hy]
  rw [← hy] at hm5
  obtain ⟨hr5, hb5, hlt5⟩ := hm5
  have hb45 := Below.step hb4 hb5
  have HT := Lib.hid (there_below hT1 hb45 hs1)
  have HB := Lib.hid (hB1.step hb45)
  obtain ⟨x, hxx⟩ : ∃ x, x = (sumQ l).a := ⟨_, rfl⟩
  have hg : ∀ t, t < 4 → w5.cell? ⟨w4.heap.size, t, none⟩ = (fourC x)[t]? := fun t ht => by
    have h1 := cell_in hr5 (by rw [HLD.out]; exact idC_at l t (by omega))
    rw [h1, hxx]
    have := bytes_get (sumQ l) 0 t (by decide) ht
    rw [Nat.mul_zero, Nat.zero_add] at this
    exact this.symm
  have c0 : w5.cell? ⟨w4.heap.size, 0, none⟩ = some (.int .u8 (x / 16777216)) := hg 0 (by decide)
  have c1 : w5.cell? ⟨w4.heap.size, 1, none⟩ = some (.int .u8 (x / 65536 % 256)) := hg 1 (by decide)
  have c2 : w5.cell? ⟨w4.heap.size, 2, none⟩ = some (.int .u8 (x / 256 % 256)) := hg 2 (by decide)
  have c3 : w5.cell? ⟨w4.heap.size, 3, none⟩ = some (.int .u8 (x % 256)) := hg 3 (by decide)
  have HX := Lib.hid hxx
  have haa : ∀ w' : World, (Instr.arrayAt 37 (.slice (some ⟨w4.heap.size, 0, none⟩) 4 32)).run Try.prog w' = .ok (.pointer (some ⟨w4.heap.size, 0, none⟩)) w' := fun w' => run_arrayAt (P := Try.prog) (w := w') 37 5 4 _ 4 32 under_4 (Nat.le_refl _)
  obtain ⟨u0, e0, f0⟩ := there_at HT.out 0 (by decide)
  obtain ⟨u1, e1, f1⟩ := there_at HT.out 1 (by decide)
  obtain ⟨u2, e2, f2⟩ := there_at HT.out 2 (by decide)
  obtain ⟨u3, e3, f3⟩ := there_at HT.out 3 (by decide)
  clear hg hx hy ht5 hr5 hb5 hlt5 hb4 hb45 hT1 hB1 hs1 hxx
  go_wp2_with fail
  have key : Hid (∀ wx, wx = w5.setCells w.heap.size 0 (fourC x) → (wx.rangeAt w.heap.size 0 (fourC x) ∧ Below w.heap.size w wx)) := by
    refine Lib.hid ?_
    rintro wx rfl
    exact ⟨World.rangeAt_setCells_same _ _ _ _ HT.out, below_cells (Nat.le_refl _) _ _ _ _ HB.out⟩
  refine bodyPost_ret (v := .agg (fourC x).toArray) ?_ rfl ⟨by unfold sumV; rw [HX.out], (key.out _ rfl).2⟩
  have hl := run_loadVar_mid (P := Try.prog) _ w.heap.size 0 37 (fourC x) _ (key.out _ rfl).1 under_4 rfl info_4
  simp [results, Try.results17, asAddr]
  exact hl

/-- What holds of a frame that is handed back. -/
def FrameOut (l : List UInt8) (w : World) (e : Ending) (w' : World) : Prop :=
  ∃ v, e = .returned (.tuple #[v, .int .i64 0]) ∧ w'.ownsRow w.heap.size 5 1 v (frameL l).length ((frameL l).map B) ∧ Below w.heap.size w w'

set_option maxRecDepth 100000 in
set_option maxHeartbeats 2000000 in
theorem frame_any (a : Option Addr) (n c : Nat) (l : List UInt8) (w : World) (hr : Rd w a n c l) (hac : a = none → c = 0) (hn : n ≤ 4000) : Calls Try.prog 8 #[.slice a n c] w (FrameOut l w) := by
  obtain ⟨i0, hi, hz0, hz1, hz2⟩ := info_parts info_u8
  have hlen := hr.len
  have hn' : ¬ 4000 < (n : Int) := by omega
  have hnl := numL_le10 n (by omega)
  go_enter Try.func8, Try.ntmps8
  go_wp2_with fail
  refine (logsum_any a n c l w hr (by omega)).mono ?_
  rintro e w1 ⟨rfl, hb1⟩
  obtain ⟨x, hx⟩ : ∃ x, x = (sumQ l).a := ⟨_, rfl⟩
  rw [show sumV l = .agg #[.int .u8 (x / 16777216), .int .u8 (x / 65536 % 256), .int .u8 (x / 256 % 256), .int .u8 (x % 256)] by unfold sumV; rw [← hx]; rfl]
  have HX := Lib.hid hx
  have HWU := Lib.hid (show IntKind.u64.wrap (n : Int) = (n : Int) by rw [wrap_u64]; omega)
  clear hx
  go_upto_region 4 with fail
  generalize hwr : w1.alloc (.cells _ 37) = wr
  have hbr : Below w1.heap.size w1 wr := by rw [← hwr]; exact (Below.refl _ _).alloc (Nat.le_refl _) _
  have hr4 : Rd wr (some ⟨w1.heap.size, 0, none⟩) 4 4 (sum4 l) := by
    have h := Rd.made w1 (sum4 l) 37 (by rw [sum4_length]; decide)
    have hf : (sum4 l).map (fun c => Value.int .u8 (c.toNat : Int)) = fourC x := by rw [HX.out]; exact sum4_cells l
    rw [hf] at h
    rw [← hwr]; exact h
  have HB := Lib.hid (hb1.step hbr)
  have HR := Lib.hid (hr.below HB.out)
  have HR4 := Lib.hid hr4
  clear hwr HX hr4 hbr hb1 hr
  generalize w1.heap.size = b4 at *
  refine region_inv (by kernel_rfl) (by kernel_rfl) (fun f act wx => ∃ v2 v3 v10 v11 v12 v13 v14 v15 v16 v17, act = ⟨#[.slice a n c, undef, v2, v3, .pointer (some ⟨b4, 0, none⟩), .slice a n c, .int .i64 (n : Int), .bool false, .slice a n c, .agg #[.int .u8 (x / 16777216), .int .u8 (x / 65536 % 256), .int .u8 (x / 256 % 256), .int .u8 (x % 256)], v10, v11, v12, v13, v14, v15, v16, v17], []⟩ ∧ (On f 0 → v10 = .slice a n c) ∧ (On f 1 → v11 = .int .i64 (n : Int)) ∧ (On f 2 → v12 = .int .u64 (n : Int)) ∧ (On f 4 → v14 = .slice a n c) ∧ (On f 6 → v16 = .slice (some ⟨b4, 0, none⟩) 4 4) ∧ (On f 8 → v2 = v17) ∧ (On f 9 → v3 = .int .i64 0) ∧ (On f 3 → ¬ On f 5 → wx.ownsRow wr.heap.size 5 1 v13 (numL n).length ((numL n).map B)) ∧ (On f 5 → ¬ On f 7 → wx.ownsRow wr.heap.size 5 1 v15 (numL n ++ l).length ((numL n ++ l).map B)) ∧ (On f 7 → wx.ownsRow wr.heap.size 5 1 v17 (frameL l).length ((frameL l).map B)) ∧ (On f 5 → On f 3) ∧ (On f 7 → On f 5) ∧ (On f 8 → On f 7) ∧ Below wr.heap.size wr wx) ?_ ?_ ?_
  · have hoff : ∀ j, ¬ On (Array.replicate 10 false) j := by
      intro j hj; simp only [On, Array.getD_eq_getD_getElem?, Array.getElem?_replicate] at hj; split at hj <;> simp at hj
    exact ⟨_, _, _, _, _, _, _, _, _, _, rfl, fun x => absurd x (hoff _), fun x => absurd x (hoff _), fun x => absurd x (hoff _), fun x => absurd x (hoff _), fun x => absurd x (hoff _), fun x => absurd x (hoff _), fun x => absurd x (hoff _), fun x _ => absurd x (hoff _), fun x _ => absurd x (hoff _), fun x => absurd x (hoff _), fun x => absurd x (hoff _), fun x => absurd x (hoff _), fun x => absurd x (hoff _), (Below.refl _ _).drew⟩
  · rintro i' o f act wm hio hs hn he hI K hK
    have hi' : i' < 10 := (Array.getElem?_eq_some_iff.1 hio).1
    replace hs : f.size = 10 := hs
    obtain ⟨v2, v3, v10, v11, v12, v13, v14, v15, v16, v17, rfl, p0, p1, p2, p4, p6, p8, p9, W3, W5, W7, c5, c7, c8, hBx⟩ := hI
    match i', hi' with
    | 0, _ =>
      cases hio
      have k : ∀ j, j ≠ 0 → On (f.setIfInBounds 0 true) j → On f j := fun j hj x => on_back (by omega) x hj
      have k' : ∀ j, On f j → On (f.setIfInBounds 0 true) j := fun j x => (on_put (by omega)).2 (.inr x)
      have kk : On (f.setIfInBounds 0 true) 0 := (on_put (by omega)).2 (.inl rfl)
      go_simp
      exact hK _ _ ⟨_, _, _, _, _, _, _, _, _, _, rfl, fun _ => rfl, fun x => p1 (k _ (by decide) x), fun x => p2 (k _ (by decide) x), fun x => p4 (k _ (by decide) x), fun x => p6 (k _ (by decide) x), fun x => p8 (k _ (by decide) x), fun x => p9 (k _ (by decide) x), fun x y => W3 (k _ (by decide) x) (fun z => y (k' _ z)), fun x y => W5 (k _ (by decide) x) (fun z => y (k' _ z)), fun x => W7 (k _ (by decide) x), fun x => k' _ (c5 (k _ (by decide) x)), fun x => k' _ (c7 (k _ (by decide) x)), fun x => k' _ (c8 (k _ (by decide) x)), hBx⟩
    | 1, _ =>
      cases hio
      have k : ∀ j, j ≠ 1 → On (f.setIfInBounds 1 true) j → On f j := fun j hj x => on_back (by omega) x hj
      have k' : ∀ j, On f j → On (f.setIfInBounds 1 true) j := fun j x => (on_put (by omega)).2 (.inr x)
      have kk : On (f.setIfInBounds 1 true) 1 := (on_put (by omega)).2 (.inl rfl)
      have h0 : On f 0 := he ⟨0, .data⟩ (by simp) rfl
      obtain rfl := p0 h0
      go_simp
      exact hK _ _ ⟨_, _, _, _, _, _, _, _, _, _, rfl, fun x => p0 (k _ (by decide) x), fun _ => rfl, fun x => p2 (k _ (by decide) x), fun x => p4 (k _ (by decide) x), fun x => p6 (k _ (by decide) x), fun x => p8 (k _ (by decide) x), fun x => p9 (k _ (by decide) x), fun x y => W3 (k _ (by decide) x) (fun z => y (k' _ z)), fun x y => W5 (k _ (by decide) x) (fun z => y (k' _ z)), fun x => W7 (k _ (by decide) x), fun x => k' _ (c5 (k _ (by decide) x)), fun x => k' _ (c7 (k _ (by decide) x)), fun x => k' _ (c8 (k _ (by decide) x)), hBx⟩
    | 2, _ =>
      cases hio
      have k : ∀ j, j ≠ 2 → On (f.setIfInBounds 2 true) j → On f j := fun j hj x => on_back (by omega) x hj
      have k' : ∀ j, On f j → On (f.setIfInBounds 2 true) j := fun j x => (on_put (by omega)).2 (.inr x)
      have kk : On (f.setIfInBounds 2 true) 2 := (on_put (by omega)).2 (.inl rfl)
      have h1 : On f 1 := he ⟨1, .data⟩ (by simp) rfl
      obtain rfl := p1 h1
      go_simp
      rw [HWU.out]
      exact hK _ _ ⟨_, _, _, _, _, _, _, _, _, _, rfl, fun x => p0 (k _ (by decide) x), fun x => p1 (k _ (by decide) x), fun _ => rfl, fun x => p4 (k _ (by decide) x), fun x => p6 (k _ (by decide) x), fun x => p8 (k _ (by decide) x), fun x => p9 (k _ (by decide) x), fun x y => W3 (k _ (by decide) x) (fun z => y (k' _ z)), fun x y => W5 (k _ (by decide) x) (fun z => y (k' _ z)), fun x => W7 (k _ (by decide) x), fun x => k' _ (c5 (k _ (by decide) x)), fun x => k' _ (c7 (k _ (by decide) x)), fun x => k' _ (c8 (k _ (by decide) x)), hBx⟩
    | 3, _ =>
      cases hio
      have k : ∀ j, j ≠ 3 → On (f.setIfInBounds 3 true) j → On f j := fun j hj x => on_back (by omega) x hj
      have k' : ∀ j, On f j → On (f.setIfInBounds 3 true) j := fun j x => (on_put (by omega)).2 (.inr x)
      have kk : On (f.setIfInBounds 3 true) 3 := (on_put (by omega)).2 (.inl rfl)
      have h2 : On f 2 := he ⟨2, .data⟩ (by simp) rfl
      obtain rfl := p2 h2
      have n5 : ¬ On f 5 := fun x => on_off (by omega) hn (c5 x)
      have n7 : ¬ On f 7 := fun x => n5 (c7 x)
      go_simp
      refine (num_any n (by omega) _).mono ?_
      rintro e w6 ⟨v6, rfl, ho, hb⟩
      exact hK _ _ ⟨_, _, _, _, _, _, _, _, _, _, rfl, fun x => p0 (k _ (by decide) x), fun x => p1 (k _ (by decide) x), fun x => p2 (k _ (by decide) x), fun x => p4 (k _ (by decide) x), fun x => p6 (k _ (by decide) x), fun x => p8 (k _ (by decide) x), fun x => p9 (k _ (by decide) x), fun _ _ => ownsRow_mono ho hBx.size, fun x _ => absurd (k _ (by decide) x) n5, fun x => absurd (k _ (by decide) x) n7, fun _ => kk, fun x => k' _ (c7 (k _ (by decide) x)), fun x => k' _ (c8 (k _ (by decide) x)), hBx.step hb⟩
    | 4, _ =>
      cases hio
      have k : ∀ j, j ≠ 4 → On (f.setIfInBounds 4 true) j → On f j := fun j hj x => on_back (by omega) x hj
      have k' : ∀ j, On f j → On (f.setIfInBounds 4 true) j := fun j x => (on_put (by omega)).2 (.inr x)
      have kk : On (f.setIfInBounds 4 true) 4 := (on_put (by omega)).2 (.inl rfl)
      go_simp
      exact hK _ _ ⟨_, _, _, _, _, _, _, _, _, _, rfl, fun x => p0 (k _ (by decide) x), fun x => p1 (k _ (by decide) x), fun x => p2 (k _ (by decide) x), fun _ => rfl, fun x => p6 (k _ (by decide) x), fun x => p8 (k _ (by decide) x), fun x => p9 (k _ (by decide) x), fun x y => W3 (k _ (by decide) x) (fun z => y (k' _ z)), fun x y => W5 (k _ (by decide) x) (fun z => y (k' _ z)), fun x => W7 (k _ (by decide) x), fun x => k' _ (c5 (k _ (by decide) x)), fun x => k' _ (c7 (k _ (by decide) x)), fun x => k' _ (c8 (k _ (by decide) x)), hBx⟩
    | 5, _ =>
      cases hio
      have k : ∀ j, j ≠ 5 → On (f.setIfInBounds 5 true) j → On f j := fun j hj x => on_back (by omega) x hj
      have k' : ∀ j, On f j → On (f.setIfInBounds 5 true) j := fun j x => (on_put (by omega)).2 (.inr x)
      have kk : On (f.setIfInBounds 5 true) 5 := (on_put (by omega)).2 (.inl rfl)
      have h3 : On f 3 := he ⟨3, .data⟩ (by simp) rfl
      have h4 : On f 4 := he ⟨4, .data⟩ (by simp) rfl
      obtain rfl := p4 h4
      have n5 : ¬ On f 5 := on_off (by omega) hn
      have n7 : ¬ On f 7 := fun x => n5 (c7 x)
      refine step_app (P := Try.prog) (ad := a) (m := n) (c := c) (l := l) rfl (.tmp 13) (.tmp 14) 22 rfl Try.underlying22 hi hz0 hz1 hz2 rfl wr.heap.size rfl (W3 h3 n5) rfl (HR.out.below hBx) hac (by omega) hBx.size ?_
      intro vn wn hon hgn
      exact hK _ _ ⟨_, _, _, _, _, _, _, _, _, _, rfl, fun x => p0 (k _ (by decide) x), fun x => p1 (k _ (by decide) x), fun x => p2 (k _ (by decide) x), fun x => p4 (k _ (by decide) x), fun x => p6 (k _ (by decide) x), fun x => p8 (k _ (by decide) x), fun x => p9 (k _ (by decide) x), fun _ y => absurd kk y, fun _ _ => by rw [List.length_append, hlen, List.map_append]; exact hon, fun x => absurd (k _ (by decide) x) n7, fun _ => k' _ h3, fun x => k' _ (c7 (k _ (by decide) x)), fun x => k' _ (c8 (k _ (by decide) x)), below_own hBx (W3 h3 n5) hgn hBx.size⟩
    | 6, _ =>
      cases hio
      have k : ∀ j, j ≠ 6 → On (f.setIfInBounds 6 true) j → On f j := fun j hj x => on_back (by omega) x hj
      have k' : ∀ j, On f j → On (f.setIfInBounds 6 true) j := fun j x => (on_put (by omega)).2 (.inr x)
      have kk : On (f.setIfInBounds 6 true) 6 := (on_put (by omega)).2 (.inl rfl)
      go_simp
      exact hK _ _ ⟨_, _, _, _, _, _, _, _, _, _, rfl, fun x => p0 (k _ (by decide) x), fun x => p1 (k _ (by decide) x), fun x => p2 (k _ (by decide) x), fun x => p4 (k _ (by decide) x), fun _ => rfl, fun x => p8 (k _ (by decide) x), fun x => p9 (k _ (by decide) x), fun x y => W3 (k _ (by decide) x) (fun z => y (k' _ z)), fun x y => W5 (k _ (by decide) x) (fun z => y (k' _ z)), fun x => W7 (k _ (by decide) x), fun x => k' _ (c5 (k _ (by decide) x)), fun x => k' _ (c7 (k _ (by decide) x)), fun x => k' _ (c8 (k _ (by decide) x)), hBx⟩
    | 7, _ =>
      cases hio
      have k : ∀ j, j ≠ 7 → On (f.setIfInBounds 7 true) j → On f j := fun j hj x => on_back (by omega) x hj
      have k' : ∀ j, On f j → On (f.setIfInBounds 7 true) j := fun j x => (on_put (by omega)).2 (.inr x)
      have kk : On (f.setIfInBounds 7 true) 7 := (on_put (by omega)).2 (.inl rfl)
      have h5 : On f 5 := he ⟨5, .data⟩ (by simp) rfl
      have h6 : On f 6 := he ⟨6, .data⟩ (by simp) rfl
      obtain rfl := p6 h6
      have n7 : ¬ On f 7 := on_off (by omega) hn
      have n8 : ¬ On f 8 := fun x => n7 (c8 x)
      refine step_app (P := Try.prog) (ad := some ⟨b4, 0, none⟩) (m := 4) (c := 4) (l := sum4 l) rfl (.tmp 15) (.tmp 16) 22 rfl Try.underlying22 hi hz0 hz1 hz2 rfl wr.heap.size rfl (W5 h5 n7) rfl (HR4.out.below hBx) (by intro h; cases h) (by rw [List.length_append, hlen]; omega) hBx.size ?_
      intro vn wn hon hgn
      exact hK _ _ ⟨_, _, _, _, _, _, _, _, _, _, rfl, fun x => p0 (k _ (by decide) x), fun x => p1 (k _ (by decide) x), fun x => p2 (k _ (by decide) x), fun x => p4 (k _ (by decide) x), fun x => p6 (k _ (by decide) x), fun x => absurd (k _ (by decide) x) n8, fun x => p9 (k _ (by decide) x), fun _ y => absurd (k' _ h5) y, fun _ y => absurd kk y, fun _ => by rw [show (frameL l).length = (numL n ++ l).length + 4 by rw [frameL_length, List.length_append, hlen]]; unfold frameL; rw [hlen, List.map_append]; exact hon, fun x => k' _ (c5 (k _ (by decide) x)), fun _ => k' _ h5, fun x => absurd (k _ (by decide) x) n8, below_own hBx (W5 h5 n7) hgn hBx.size⟩
    | 8, _ =>
      cases hio
      have k : ∀ j, j ≠ 8 → On (f.setIfInBounds 8 true) j → On f j := fun j hj x => on_back (by omega) x hj
      have k' : ∀ j, On f j → On (f.setIfInBounds 8 true) j := fun j x => (on_put (by omega)).2 (.inr x)
      have kk : On (f.setIfInBounds 8 true) 8 := (on_put (by omega)).2 (.inl rfl)
      have h7 : On f 7 := he ⟨7, .data⟩ (by simp) rfl
      go_simp
      exact hK _ _ ⟨_, _, _, _, _, _, _, _, _, _, rfl, fun x => p0 (k _ (by decide) x), fun x => p1 (k _ (by decide) x), fun x => p2 (k _ (by decide) x), fun x => p4 (k _ (by decide) x), fun x => p6 (k _ (by decide) x), fun _ => rfl, fun x => p9 (k _ (by decide) x), fun x y => W3 (k _ (by decide) x) (fun z => y (k' _ z)), fun x y => W5 (k _ (by decide) x) (fun z => y (k' _ z)), fun x => W7 (k _ (by decide) x), fun x => k' _ (c5 (k _ (by decide) x)), fun x => k' _ (c7 (k _ (by decide) x)), fun _ => k' _ h7, hBx⟩
    | 9, _ =>
      cases hio
      have k : ∀ j, j ≠ 9 → On (f.setIfInBounds 9 true) j → On f j := fun j hj x => on_back (by omega) x hj
      have k' : ∀ j, On f j → On (f.setIfInBounds 9 true) j := fun j x => (on_put (by omega)).2 (.inr x)
      have kk : On (f.setIfInBounds 9 true) 9 := (on_put (by omega)).2 (.inl rfl)
      go_simp
      exact hK _ _ ⟨_, _, _, _, _, _, _, _, _, _, rfl, fun x => p0 (k _ (by decide) x), fun x => p1 (k _ (by decide) x), fun x => p2 (k _ (by decide) x), fun x => p4 (k _ (by decide) x), fun x => p6 (k _ (by decide) x), fun x => p8 (k _ (by decide) x), fun _ => rfl, fun x y => W3 (k _ (by decide) x) (fun z => y (k' _ z)), fun x y => W5 (k _ (by decide) x) (fun z => y (k' _ z)), fun x => W7 (k _ (by decide) x), fun x => k' _ (c5 (k _ (by decide) x)), fun x => k' _ (c7 (k _ (by decide) x)), fun x => k' _ (c8 (k _ (by decide) x)), hBx⟩
  · rintro f act w5 hall hs ⟨v2, v3, v10, v11, v12, v13, v14, v15, v16, v17, rfl, p0, p1, p2, p4, p6, p8, p9, W3, W5, W7, c5, c7, c8, hBx⟩
    replace hs : f.size = 10 := hs
    have on : ∀ j, j < 10 → On f j := fun j hj => on_all hall hs j hj
    obtain rfl := p8 (on 8 (by decide))
    obtain rfl := p9 (on 9 (by decide))
    have W := Lib.hid (W7 (on 7 (by decide)))
    have BX := Lib.hid hBx
    clear p0 p1 p2 p4 p6 p8 p9 W3 W5 W7 c5 c7 c8 hBx on hall hs
    go_wp2_with fail
    go_ret2
    exact ⟨_, rfl, ownsRow_mono W.out HB.out.size, HB.out.step BX.out⟩
end Go.Proofs.Ytipaldfellfkdaa
