/- The walks of the reference's Frame, Mend and Write, and of log.Write where it fails. -/
import Derived.Test.YtipaldfellfkdaaLogMend
import Derived.Test.YtipaldfellfkdaaShaRefSum
namespace Go.Proofs.Ytipaldfellfkdaa
open Go.ChangeShapes Go.WideShapes Go.ChangeAt Go.RowKit
set_option linter.unusedVariables false

theorem frame_ref_over (a : Option Addr) (n c : Nat) (l : List UInt8) (w : World) (hr : Rd w a n c l) (hn : 4000 < n) : Calls Try.prog 9 #[.slice a n c] w fun e w' => e = .returned (.tuple #[.slice none 0 0, .int .i64 5]) ∧ w' = w := by
  have hn' : 4000 < (n : Int) := by omega
  have hl3 : n ≤ 9223372036854775807 := Nat.le_trans hr.le hr.cap
  clear hr
  go_enter Try.func9, Try.ntmps9
  go_wp2_with fail
  go_ret2
  exact ⟨rfl, rfl⟩

set_option maxRecDepth 100000 in
set_option maxHeartbeats 2000000 in
theorem frame_ref (a : Option Addr) (n c : Nat) (l : List UInt8) (w : World) (hr : Rd w a n c l) (hac : a = none → c = 0) (hn : n ≤ 4000) : Calls Try.prog 9 #[.slice a n c] w (FrameOut l w) := by
  obtain ⟨i0, hi, hz0, hz1, hz2⟩ := info_parts info_u8
  have hlen := hr.len
  have hn' : ¬ 4000 < (n : Int) := by omega
  have hnl := numL_le10 n (by omega)
  have HI := Lib.hid (show Try.prog.info? 5 = some i0 ∧ i0.zero = some (.int .u8 0) ∧ i0.size = 1 ∧ i0.bytes = 1 from ⟨hi, hz0, hz1, hz2⟩)
  have HR := Lib.hid hr
  have HLN := Lib.hid (show l.length = n ∧ n ≤ 4000 ∧ (numL n).length ≤ 10 from ⟨hlen, hn, hnl⟩)
  clear hi hz0 hz1 hz2 hr hlen hnl
  go_enter Try.func9, Try.ntmps9
  go_wp2_with fail
  refine (sum_ref a n c l w HR.out hac (by omega)).mono ?_
  rintro e w4 ⟨rfl, hb4⟩
  obtain ⟨L, hL⟩ : ∃ L, L = idC l := ⟨_, rfl⟩
  rw [show idV l = .agg L.toArray by rw [hL]; rfl]
  have HL := Lib.hid (show L.length = 32 ∧ (∀ v ∈ L, v.oneCell' = true) from ⟨by rw [hL]; exact idC_length l, by rw [hL]; exact idC_one l⟩)
  have HLD := Lib.hid hL
  clear hL
  rename_i K1 hK1
  refine hK1 _ _ ?_
  refine wpList_alloc rfl 42 rfl zeros32.toArray (by kernel_rfl) ?_
  simp only [Act.put, List.setIfInBounds_toArray, List.set_cons_zero, List.set_cons_succ]
  obtain ⟨w5x, hx, ht5, hm5⟩ := new_idx w4 L HL.out.1
  rw [← hx]
  refine wpList_store_mid rfl 42 (.tmp 4) (.tmp 10) rfl w4.heap.size 0 L.toArray rfl rfl ?h1 ?h2 ?h3 ?_
  case h1 => rw [show L.toArray.size = 32 from List.size_toArray.trans HL.out.1]; exact ht5
  case h2 => rw [show L.toArray.size = 32 from List.size_toArray.trans HL.out.1]; exact info_id
  case h3 => exact all_oneCell_toArray HL.out.2
  obtain ⟨w5, hy⟩ : ∃ v, v = w5x.setCells w4.heap.size 0 L := ⟨_, rfl⟩
  rw [List.toList_toArray, ← hy]
  rw [← hy] at hm5
  obtain ⟨hr5, hb5, hlt5⟩ := hm5
  have HB := Lib.hid (hb4.step hb5)
  obtain ⟨x, hxx⟩ : ∃ x, x = (sumQ l).a := ⟨_, rfl⟩
  have hg : ∀ t, t < 4 → w5.cell? ⟨w4.heap.size, t, none⟩ = (fourC x)[t]? := fun t ht => by
    have h1 := cell_in hr5 (by rw [HLD.out]; exact idC_at l t (by omega))
    rw [h1, hxx]
    have := bytes_get (sumQ l) 0 t (by decide) ht
    rw [Nat.mul_zero, Nat.zero_add] at this
    exact this.symm
  obtain ⟨y0, q0⟩ : ∃ y : Int, y = x / 16777216 := ⟨_, rfl⟩
  obtain ⟨y1, q1⟩ : ∃ y : Int, y = x / 65536 % 256 := ⟨_, rfl⟩
  obtain ⟨y2, q2⟩ : ∃ y : Int, y = x / 256 % 256 := ⟨_, rfl⟩
  obtain ⟨y3, q3⟩ : ∃ y : Int, y = x % 256 := ⟨_, rfl⟩
  have c0 : w5.cell? ⟨w4.heap.size, 0, none⟩ = some (.int .u8 y0) := by rw [q0]; exact hg 0 (by decide)
  have c1 : w5.cell? ⟨w4.heap.size, 1, none⟩ = some (.int .u8 y1) := by rw [q1]; exact hg 1 (by decide)
  have c2 : w5.cell? ⟨w4.heap.size, 2, none⟩ = some (.int .u8 y2) := by rw [q2]; exact hg 2 (by decide)
  have c3 : w5.cell? ⟨w4.heap.size, 3, none⟩ = some (.int .u8 y3) := by rw [q3]; exact hg 3 (by decide)
  have HS4 := Lib.hid (show (sum4 l).map B = [.int .u8 y0, .int .u8 y1, .int .u8 y2, .int .u8 y3] by rw [sum4_cells, q0, q1, q2, q3, ← hxx]; rfl)
  obtain ⟨b4, hb4'⟩ : ∃ b, b = w4.heap.size := ⟨_, rfl⟩
  rw [← hb4'] at c0 c1 c2 c3 hlt5 ⊢
  clear hg hx hy ht5 hr5 hb5 hb4 q0 q1 q2 q3 hxx hb4' HL HLD
  go_wp2_with fail
  refine (num_ref n (by omega) _).mono ?_
  rintro e w6 ⟨v6, rfl, hown6, hb6⟩
  replace c0 := carry_cell c0 hb6
  replace c1 := carry_cell c1 hb6
  replace c2 := carry_cell c2 hb6
  replace c3 := carry_cell c3 hb6
  obtain ⟨v7, w7, hrun7, hown7, hg7⟩ := run_app (P := Try.prog) (ty := 22) Try.underlying22 HI.out.1 HI.out.2.1 HI.out.2.2.1 HI.out.2.2.2 rfl hown6 (HR.out.below (HB.out.step hb6)) hac (by have := HLN.out; omega) hb6.size
  have hb7 := below_own hb6 hown6 hg7 hb6.size
  replace c0 : w7.cell? ⟨b4, 0, none⟩ = _ := (hb7.cell (p := ⟨b4, 0, none⟩) hlt5).trans ((hb6.cell (p := ⟨b4, 0, none⟩) hlt5).symm.trans c0)
  replace c1 : w7.cell? ⟨b4, 1, none⟩ = _ := (hb7.cell (p := ⟨b4, 1, none⟩) hlt5).trans ((hb6.cell (p := ⟨b4, 1, none⟩) hlt5).symm.trans c1)
  replace c2 : w7.cell? ⟨b4, 2, none⟩ = _ := (hb7.cell (p := ⟨b4, 2, none⟩) hlt5).trans ((hb6.cell (p := ⟨b4, 2, none⟩) hlt5).symm.trans c2)
  replace c3 : w7.cell? ⟨b4, 3, none⟩ = _ := (hb7.cell (p := ⟨b4, 3, none⟩) hlt5).trans ((hb6.cell (p := ⟨b4, 3, none⟩) hlt5).symm.trans c3)
  have hb8 : Below w7.heap.size w7 (w7.alloc (.cells #[.int .u8 y0, .int .u8 y1, .int .u8 y2, .int .u8 y3] 5)) := (Below.refl _ _).alloc (Nat.le_refl _) _
  have hr8 : Rd (w7.alloc (.cells ((sum4 l).map B).toArray 5)) (some ⟨w7.heap.size, 0, none⟩) 4 4 (sum4 l) := Rd.made w7 (sum4 l) 5 (by rw [sum4_length]; decide)
  rw [HS4.out] at hr8
  obtain ⟨v9, w9, hrun9, hown9, hg9⟩ := run_app (P := Try.prog) (ty := 22) Try.underlying22 HI.out.1 HI.out.2.1 HI.out.2.2.1 HI.out.2.2.2 rfl (ownsRow_below hown7 hb8) hr8 (by intro h; cases h) (by have := HLN.out; omega) (Nat.le_trans hb7.size hb8.size)
  have hb9 := below_own (hb7.step hb8) (ownsRow_below hown7 hb8) hg9 (Nat.le_trans hb7.size hb8.size)
  have HRUN7 := Lib.hid hrun7
  have HRUN9 := Lib.hid hrun9
  have HE := Lib.hid (show w9.ownsRow w.heap.size 5 1 v9 (frameL l).length ((frameL l).map B) ∧ Below w.heap.size w w9 from
    ⟨ownsRow_mono (by rw [frameL_length, HLN.out.1]; unfold frameL; rw [HLN.out.1, List.map_append, List.map_append]; exact hown9) HB.out.size, HB.out.step hb9⟩)
  clear hrun7 hrun9 hown6 hown7 hown9 hg7 hg9 hb6 hb7 hb8 hb9 hr8 hlt5
  have tok1 : True := trivial
  go_wp2_with (first
    | (at_builtin; have _t := tok1; refine Lib.wpList_append_run _ rfl _ _ _ _ rfl _ _ rfl rfl _ _ HRUN7.out ?_; clear tok1)
    | (at_builtin; refine Lib.wpList_append_run _ rfl _ _ _ _ rfl _ _ rfl rfl _ _ HRUN9.out ?_))
  go_ret2
  exact ⟨v9, rfl, HE.out.1, HE.out.2⟩
end Go.Proofs.Ytipaldfellfkdaa
