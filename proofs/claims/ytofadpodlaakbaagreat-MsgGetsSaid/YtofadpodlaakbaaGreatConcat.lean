/- The walks of slices.Grow of no bytes, and of slices.Concat. -/
import Derived.Test.YtofadpodlaakbaaGreatTxs
import Derived.Lib.AppendZeros
import Derived.Deep.Cut
namespace Go.Proofs.YtofadpodlaakbaaGreat
open Go.ChangeShapes Go.WideShapes Go.ChangeAt Go.RowKit
set_option linter.unusedVariables false
set_option maxRecDepth 100000 in
set_option maxHeartbeats 1000000 in
theorem grow_nil (n : Nat) (w : World) (hn : n ≤ 1000000) : Calls Tryz.prog 48 #[.slice none 0 0, .int .i64 (n : Int)] w fun e w' => ∃ v, e = .returned v ∧ w'.ownsRow w.heap.size 5 1 v 0 [] ∧ Below w.heap.size w w' := by
 obtain ⟨i0, hi, hz0, hz1, hz2⟩ := info_parts info_u8
 by_cases h0 : n = 0
 ·subst h0
  go_enter Tryz.func48, Tryz.ntmps48
  go_wp2_with fail
  go_ret
  exact ⟨_, rfl, World.ownsRow_nil _ _ _ _, Below.refl _ _⟩
 have hrun := Lib.run_append_nil_zeros (P := Tryz.prog) w 28 3 28 5 i0 (.int .u8 0) .i64 .i64 Tryz.underlying28 Tryz.underlying3 hi hz0 n (by omega) (by omega) (by omega) (by rw [hz2]; omega)
 obtain ⟨cap, hcap⟩ : ∃ cap, cap = grownCap w n 0 5 := ⟨_, rfl⟩
 have hge := grownCap_ge w n 0 5
 have hle := grownCap_le_maxLen w n 0 5 (by unfold maxLen; omega)
 rw [← hcap] at hrun hge hle
 obtain ⟨Z, hZ⟩ : ∃ Z, Z = Builtin.zeroCells (Value.int .u8 0).cells n ++ Builtin.zeroCells (Value.int .u8 0).cells (cap - n) := ⟨_, rfl⟩
 have hZs : Z.size = cap := by rw [hZ]; simp [size_zeroCells, Value.cells]; omega
 rw [← hZ] at hrun
 have HE := Lib.hid (show ∃ v, Ending.returned (.slice (some ⟨w.heap.size, 0, none⟩) 0 cap) = .returned v ∧ (w.drew.alloc (.cells Z 5)).ownsRow w.heap.size 5 1 v 0 [] ∧ Below w.heap.size w (w.drew.alloc (.cells Z 5)) from
  ⟨_, rfl, ⟨rfl, .inr ⟨w.heap.size, cap, Z, rfl, Nat.le_refl _, heap_alloc_new w.drew _, Nat.zero_le _, hle, by rw [hZs, Nat.mul_one], rfl⟩⟩, ((Below.refl _ w).drew).alloc (Nat.le_refl _) _⟩)
 have HRUN := Lib.hid hrun
 have hc63 : cap ≤ 9223372036854775807 := by unfold maxLen at hle; omega
 have hnp : (n : Int) > 0 := by omega
 have hnn : ¬ (n : Int) < 0 := by omega
 clear hrun hcap hge hle hZ hZs h0
 go_enter Tryz.func48, Tryz.ntmps48
 go_wp2_with (at_builtin; refine Lib.wpList_append_run _ rfl _ _ _ _ rfl _ _ rfl rfl _ _ HRUN.out ?_)
 go_ret
 exact HE.out
set_option maxRecDepth 100000 in
set_option maxHeartbeats 4000000 in
theorem concat_any (a : Option Addr) (n c : Nat) (ls : List (List UInt8)) (w : World) (h : Txs w a n c ls) (hn : n ≤ 1000) (ht : ls.flatten.length ≤ 1000000) : Calls Tryz.prog 17 #[.slice a n c] w (OwnB ls.flatten w) := by
 have HR := Lib.hid h
 have HLN := Lib.hid h.len
 obtain ⟨T, hT⟩ : ∃ T, T = ls.flatten.length := ⟨_, rfl⟩
 rw [← hT] at ht
 have HT := Lib.hid hT
 obtain ⟨f, hf⟩ : ∃ f : Nat → Nat, f = fun i => (ls.take i).flatten.length := ⟨_, rfl⟩
 have hsplit : ∀ i, i < n → ls.take (i + 1) = ls.take i ++ [ls.getD i []] := fun i hi => by
  rw [List.take_add_one, List.getD_eq_getElem?_getD, List.getElem?_eq_getElem (by rw [h.len]; exact hi)]; rfl
 have HF0 := Lib.hid (show f 0 = 0 by rw [hf]; rfl)
 have HFS := Lib.hid (show ∀ i, i < n → f (i + 1) = f i + (ls.getD i []).length from fun i hi => by rw [hf]; simp only; rw [hsplit i hi]; simp)
 have HFN := Lib.hid (show f n = T by rw [hf, hT]; simp only; rw [List.take_of_length_le (by rw [h.len]; exact Nat.le_refl _)])
 have HFM := Lib.hid (show ∀ i, i ≤ n → f i ≤ T from fun i hi => by
  rw [hf, hT]
  simp only
  have e : ls = ls.take i ++ ls.drop i := (List.take_append_drop i ls).symm
  conv => rhs; rw [e]
  rw [List.flatten_append, List.length_append]; omega)
 have HSP := Lib.hid hsplit
 have hn63 : n ≤ 9223372036854775807 := by omega
 clear h hT hf hsplit
 go_enter Tryz.func17, Tryz.ntmps17
 go_wp2_with fail
 go_loop [3, 11] (fun v3 v11 => ∃ i m : Nat, i ≤ n ∧ m ≤ T ∧ v3 = .int .i64 (m : Int) ∧ v11 = .int .i64 (i : Int) ∧ Hid (m = f i)) (fun _ v11 => n - (intOf v11).toNat)
 case atStart => exact ⟨0, 0, Nat.zero_le _, Nat.zero_le _, rfl, rfl, Lib.hid HF0.out.symm⟩
 case round =>
  obtain ⟨i, m, hi, hmT, rfl, rfl, hM⟩ := hrel
  by_cases hin : i < n
  ·obtain ⟨b, off, e1, f1⟩ := HR.out.cells.resolve_left (by omega)
   subst e1
   obtain ⟨x, cx, g0, g1, _⟩ := f1 i hin
   obtain ⟨L, hL⟩ : ∃ L, L = (ls.getD i []).length := ⟨_, rfl⟩
   rw [← hL] at g0
   obtain ⟨m', hm'⟩ : ∃ m', m' = m + L := ⟨_, rfl⟩
   have HM' := Lib.hid (show m' = f (i + 1) by rw [HFS.out i hin, ← hM.out, hm', hL])
   have hmT' : m' ≤ T := by rw [HM'.out]; exact HFM.out _ (by omega)
   have hwr : (m : Int) + (L : Int) = (m' : Int) := by omega
   have hwr' : IntKind.i64.wrap ((m : Int) + (L : Int)) = (m' : Int) := by rw [IntWalk.i64_in _ ⟨by omega, by omega⟩]; omega
   have hL63 : L ≤ 9223372036854775807 := by omega
   have hnn : ¬ (m' : Int) < 0 := by omega
   clear f1 g1 hL hm'
   go_wp2_with fail
   refine ⟨⟨i + 1, m', by omega, hmT', rfl, by go_num, HM'⟩, ?_⟩
   simp [intOf]; omega
  ·obtain rfl : n = i := by omega
   obtain rfl : T = m := by rw [hM.out, HFN.out]
   go_wp2_with fail
   refine (grow_nil T w (by omega)).mono ?_
   rintro e w1 ⟨v, rfl, ho, hb⟩
   have HO := Lib.hid ho
   have HB := Lib.hid hb
   clear ho hb hM
   go_wp2_with fail
   go_loopw [6, 27] (fun v6 v27 wr => ∃ i : Nat, i ≤ n ∧ v27 = .int .i64 (i : Int) ∧ Hid (wr.ownsRow w.heap.size 5 1 v6 (f i) ((ls.take i).flatten.map B)) ∧ Hid (Below w.heap.size w wr)) (fun _ v27 _ => n - (intOf v27).toNat)
   case atStart => exact ⟨0, Nat.zero_le _, rfl, Lib.hid (by rw [HF0.out]; exact HO.out), HB⟩
   case round =>
    obtain ⟨i, hi, rfl, hO, hB⟩ := hrel
    by_cases hin : i < n
    ·obtain ⟨b, off, e1, f1⟩ := (HR.out.below hB.out).cells.resolve_left (by omega)
     obtain ⟨x, cx, g0, g1, g2⟩ := f1 i hin
     rw [e1] at *
     obtain ⟨i0, hi0, hz0, hz1, hz2⟩ := info_parts info_u8
     obtain ⟨L, hL⟩ : ∃ L, L = (ls.getD i []).length := ⟨_, rfl⟩
     rw [← hL] at g0 g1
     have hfm := HFM.out (i + 1) (by omega)
     have hfs := HFS.out i hin
     rw [← hL] at hfs
     obtain ⟨v', w', hrun, hown, hg⟩ := run_app (P := Tryz.prog) (ty := 28) Tryz.underlying28 hi0 hz0 hz1 hz2 rfl hO.out g1 g2 (by omega) hB.out.size
     have HRUN := Lib.hid hrun
     have HO' := Lib.hid (show w'.ownsRow w.heap.size 5 1 v' (f (i + 1)) ((ls.take (i + 1)).flatten.map B) by
      rw [hfs, HSP.out i hin, List.flatten_append, List.map_append]
      simpa using hown)
     have HB' := Lib.hid (below_own hB.out hO.out hg hB.out.size)
     clear f1 hrun hown hg hL g1 g2 hfm hfs hi0 hz0 hz1 hz2
     go_wp2_with (at_builtin; refine Lib.wpList_append_run _ rfl _ _ _ _ rfl _ _ rfl rfl _ _ HRUN.out ?_)
     refine ⟨⟨i + 1, by omega, by go_num, HO', HB'⟩, ?_⟩
     simp [intOf]; omega
    ·obtain rfl : n = i := by omega
     have HE := Lib.hid (show wr.ownsRow w.heap.size 5 1 u6 ls.flatten.length (ls.flatten.map B) by
      have := hO.out
      rwa [HFN.out, List.take_of_length_le (by rw [HLN.out]; exact Nat.le_refl _), HT.out] at this)
     clear hO
     go_wp2_with fail
     go_ret
     exact ⟨u6, rfl, HE.out, hB.out⟩
end Go.Proofs.YtofadpodlaakbaaGreat
