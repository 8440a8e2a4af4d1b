/- The walks of the reference's reader, of the layer commit: Num, ID. -/
import Derived.Test.YtofadpodlaakbaaGreatCmRd
import Derived.Test.YtofadpodlaakbaaGreatJ1
namespace Go.Proofs.YtofadpodlaakbaaGreat
open Go.ChangeShapes Go.WideShapes Go.ChangeAt Go.RowKit
set_option linter.unusedVariables false
set_option linter.unusedSimpArgs false
set_option maxRecDepth 100000 in
set_option maxHeartbeats 2000000 in
theorem rnum_ref (ok : Nat → Prop) (br : Nat) (bad : Bool) (l : List UInt8) (w : World) (hr : RdR ok w br 70 [.bool bad] l) (hl : l.length ≤ 100000) : Calls Tryz.prog 43 #[.pointer (some ⟨br, 0, none⟩)] w fun e w' => e = .returned (.int .u64 ((getL l).1 : Int)) ∧ RdR ok w' br 70 [.bool (bad || decide ((getL l).2 = 0))] (l.drop (getL l).2) ∧ PastN w w' br := by
 obtain ⟨a, c, hc, hrd, hz, hne⟩ := hr
 obtain ⟨n, hn⟩ : ∃ n, n = l.length := ⟨_, rfl⟩
 rw [← hn] at hc hrd hl hne
 obtain ⟨N, hN⟩ : ∃ N, N = (getL l).1 := ⟨_, rfl⟩
 obtain ⟨u, hu⟩ : ∃ u, u = (getL l).2 := ⟨_, rfl⟩
 have HG := Lib.hid (fun w' (h : Rd w' a n c l) => get_ref a n c l w' h (by omega))
 rw [← hN, ← hu] at HG
 rw [← hN, ← hu]
 have hn63 : n ≤ 9223372036854775807 := by omega
 have hun : u ≤ n := by rw [hu, hn]; exact getL_le l
 obtain ⟨a', hs, hR, hac, hblk⟩ := hrd.slb hz u hun
 have hd1 : (l.drop u).length = n - u := by rw [List.length_drop, ← hn]
 have hsl : ∀ w', (Instr.slice 28 (.slice a n c) (some (.int .i64 (u : Int))) none none).run Tryz.prog w' = .ok (.slice a' (n - u) (c - u)) w' := fun w' => by rw [slice_l w' a n c u hun, hs]
 have hsa : ∀ w', (Instr.sliceAt 28 (.slice a n c) (some (.int .i64 (u : Int))) none none).run Tryz.prog w' = .ok (.slice a' (n - u) (c - u)) w' := fun w' => by rw [slice_at]; exact hsl w'
 have HE := Lib.hid (show ∀ (w1 wE : World) (b' : Bool), Below w.heap.size w w1 → Only w1 wE br → Cel wE br 70 [.slice a' (n - u) (c - u), .bool b'] → RdR ok wE br 70 [.bool b'] (l.drop u) ∧ PastN w wE br from fun w1 wE b' hb ho hce => by
  refine ⟨⟨a', c - u, by rw [hd1]; exact hce, ?_, hac, fun x hx hp => ?_⟩, (PastN.of_below hb).only ho⟩
  ·rw [hd1]
   exact (hR w1 (hrd.below hb)).only' ho (fun x hx hp => by
    obtain ⟨y, hy1, hy2⟩ := hblk x hx
    rw [hy2]
    exact (hne y hy1 (by omega)).1)
  ·obtain ⟨y, hy1, hy2⟩ := hblk x hx
   rw [hy2]
   rw [hd1] at hp
   exact hne y hy1 (by omega))
 have HE0 := Lib.hid (show ∀ (w1 wE : World) (b' : Bool), Below w.heap.size w w1 → Only w1 wE br → Cel wE br 70 [.slice a n c, .bool b'] → RdR ok wE br 70 [.bool b'] l ∧ PastN w wE br from fun w1 wE b' hb ho hce => by
  refine ⟨⟨a, c, by rw [← hn]; exact hce, ?_, hz, fun x hx hp => hne x hx (by omega)⟩, (PastN.of_below hb).only ho⟩
  rw [← hn]
  exact (hrd.below hb).only' ho (fun x hx hp => (hne x hx hp).1))
 have HRD := Lib.hid hrd
 have HC := Lib.hid hc
 have p0 : w.cell? ⟨br, 0, none⟩ = some (.slice a n c) := hc.at 0 _ rfl
 clear hc hrd hz hne hN hn hs hR hac hblk hd1 hl
 by_cases h0 : u = 0
 ·have HD := Lib.hid (show (bad || decide (u = 0)) = true by rw [decide_eq_true h0, Bool.or_true])
  have hu0 : ((u : Int) == 0) = true := by rw [h0]; rfl
  have hu1 : decide ((u : Int) = 0) = true := decide_eq_true (by omega)
  clear hu
  go_enter Tryz.func43, Tryz.ntmps43
  go_wp2_with fail
  refine (HG.out _ HRD.out).mono ?_
  rintro e w1 ⟨rfl, hb⟩
  have HB := Lib.hid hb
  have HC1 := Lib.hid (HC.out.step hb)
  clear hb p0
  have p0 : w1.cell? ⟨br, 0, none⟩ = some (.slice a n c) := HC1.out.at 0 _ rfl
  have f0 : w1.frozen? ⟨br, 0, none⟩ = false := HC1.out.free 0
  have p1 : w1.cell? ⟨br, 1, none⟩ = some (.bool bad) := HC1.out.at 1 _ rfl
  have f1 : w1.frozen? ⟨br, 1, none⟩ = false := HC1.out.free 1
  go_wp2_with fail
  go_ret
  rw [HD.out]
  subst h0
  rw [List.drop_zero]
  exact ⟨rfl, HE0.out w1 _ true HB.out ((only_set _ _ _ _).trans (only_set _ _ _ _)) ((HC1.out.set 1 _).set 0 _)⟩
 ·have HD := Lib.hid (show (bad || decide (u = 0)) = bad by rw [decide_eq_false h0, Bool.or_false])
  have hu0 : ((u : Int) == 0) = false := by simp; omega
  have hu1 : decide ((u : Int) = 0) = false := decide_eq_false (by omega)
  have hui : ¬ (u : Int) = 0 := by omega
  clear hu
  go_enter Tryz.func43, Tryz.ntmps43
  go_wp2_with fail
  refine (HG.out _ HRD.out).mono ?_
  rintro e w1 ⟨rfl, hb⟩
  have HB := Lib.hid hb
  have HC1 := Lib.hid (HC.out.step hb)
  clear hb p0
  have p0 : w1.cell? ⟨br, 0, none⟩ = some (.slice a n c) := HC1.out.at 0 _ rfl
  have f0 : w1.frozen? ⟨br, 0, none⟩ = false := HC1.out.free 0
  go_wp2_with fail
  go_ret
  rw [HD.out]
  exact ⟨rfl, HE.out w1 _ bad HB.out (only_set _ _ _ _) (HC1.out.set 0 _)⟩
def part32 (l : List UInt8) (i : Nat) : List UInt8 := l.take i ++ List.replicate (32 - i) 0
theorem part32_length (l : List UInt8) (i : Nat) (hi : i ≤ 32) (hl : 32 ≤ l.length) : (part32 l i).length = 32 := by
 unfold part32; rw [List.length_append, List.length_take, List.length_replicate]; omega
theorem part32_zero (l : List UInt8) : part32 l 0 = zero32 := by unfold part32; rw [List.take_zero]; rfl
theorem part32_all (l : List UInt8) : part32 l 32 = l.take 32 := by unfold part32; simp
theorem part32_set (l : List UInt8) (i : Nat) (hi : i < 32) (hl : 32 ≤ l.length) : (Bs (part32 l i)).set i (.int .u8 ((l.getD i 0).toNat : Int)) = Bs (part32 l (i + 1)) := by
 have h1 : (l.take i).length = i := by rw [List.length_take]; omega
 have h2 : List.replicate (32 - i) (0 : UInt8) = 0 :: List.replicate (32 - (i + 1)) 0 := by rw [show 32 - i = (32 - (i + 1)) + 1 by omega]; rfl
 have h3 : l.take (i + 1) = l.take i ++ [l.getD i 0] := by
  rw [List.take_add_one, List.getD_eq_getElem?_getD, List.getElem?_eq_getElem (by omega)]; rfl
 unfold part32 Bs
 rw [h2, h3, List.map_append, List.map_append, List.map_append, List.set_append_right _ _ (by rw [List.length_map, h1]; omega), List.length_map, h1, Nat.sub_self]
 simp only [List.map_cons, List.map_nil, List.set_cons_zero, List.append_assoc, List.cons_append, List.nil_append]
 rfl
def idX (l : List UInt8) : List UInt8 := if 32 ≤ l.length then l.take 32 else zero32
def idR (l : List UInt8) : List UInt8 := if 32 ≤ l.length then l.drop 32 else l
theorem idX_length (l : List UInt8) : (idX l).length = 32 := by
 unfold idX
 split
 ·rw [List.length_take]; omega
 ·exact zero32_length
set_option maxRecDepth 100000 in
set_option maxHeartbeats 4000000 in
theorem rid_ref (ok : Nat → Prop) (br : Nat) (bad : Bool) (l : List UInt8) (w : World) (hr : RdR ok w br 70 [.bool bad] l) (hl : l.length ≤ 100000) : Calls Tryz.prog 44 #[.pointer (some ⟨br, 0, none⟩)] w fun e w' => e = .returned (arr (idX l)) ∧ RdR ok w' br 70 [.bool (bad || !decide (32 ≤ l.length))] (idR l) ∧ PastN w w' br := by
 obtain ⟨a, c, hc, hrd, hz, hne⟩ := hr
 obtain ⟨n, hn⟩ : ∃ n, n = l.length := ⟨_, rfl⟩
 rw [← hn] at hc hrd hl hne ⊢
 have hn63 : n ≤ 9223372036854775807 := by omega
 have HN := Lib.hid hn
 have HRD := Lib.hid (And.intro hrd (And.intro hz hne))
 have HC := Lib.hid hc
 have HBR := Lib.hid (show br < w.heap.size from hc.lt)
 clear hn hc hrd hz hne
 go_enter Tryz.func44, Tryz.ntmps44
 go_upto_region 1 with fail
 go_step
 obtain ⟨w1, hw1⟩ : ∃ w1, w1 = w.alloc (.cells (Bs zero32).toArray 48) := ⟨_, rfl⟩
 have c1 : Cel w1 w.heap.size 48 (Bs zero32) := by rw [hw1]; exact Cel.new w _ _
 have s1 : w1.heap.size = w.heap.size + 1 := by rw [hw1]; exact size_alloc' _ _
 have b01 : Below w.heap.size w w1 := by rw [hw1]; exact (Below.refl _ _).alloc (Nat.le_refl _) _
 generalize hwg : w.alloc _ = wG
 obtain rfl : w1 = wG := by rw [← hwg, hw1]; rfl
 clear hwg hw1
 refine wpList_build rfl 48 _ rfl (.agg (Bs zero32).toArray) (by kernel_rfl) ?_
 simp only [Act.put, List.setIfInBounds_toArray, List.set_cons_zero, List.set_cons_succ]
 refine wpList_new_store rfl rfl 48 3 (.tmp 5) rfl rfl rfl rfl (Bs zero32) (Bs zero32) (by kernel_rfl) (by simp) rfl rfl (info_x zero32_length) (Bs_one _) ?_
 intro w2 hd hb2
 obtain ⟨b0, hb0⟩ : ∃ b, b = w.heap.size := ⟨_, rfl⟩
 obtain ⟨b1, hb1⟩ : ∃ b, b = w1.heap.size := ⟨_, rfl⟩
 rw [← hb1] at hd ⊢
 rw [← hb0] at c1 ⊢
 have HX := Lib.hid (show b0 = w.heap.size ∧ b1 = b0 + 1 ∧ br < b0 from ⟨hb0, by omega, by have := HBR.out; omega⟩)
 have HZ2 := Lib.hid (c1.step hb2)
 have HD2 := Lib.hid hd
 have HB2 := Lib.hid (b01.step hb2)
 have HC2 := Lib.hid (HC.out.step HB2.out)
 have HR2 := Lib.hid (HRD.out.1.below HB2.out)
 clear c1 s1 b01 hb2 hd hb0 hb1 HC HBR
 have p0 : w2.cell? ⟨br, 0, none⟩ = some (.slice a n c) := HC2.out.at 0 _ rfl
 by_cases h32 : 32 ≤ n
 case neg =>
  have hno : (n : Int) < 32 := by omega
  have p1 : w2.cell? ⟨br, 1, none⟩ = some (.bool bad) := HC2.out.at 1 _ rfl
  have f1 : w2.frozen? ⟨br, 1, none⟩ = false := HC2.out.free 1
  go_upto_region 4 with fail
  generalize hw3 : World.setCell w2 _ _ = w3
  have ho3 : Only w2 w3 br := by rw [← hw3]; exact only_set _ _ _ _
  have HC3 := Lib.hid (show Cel w3 br 70 [.slice a n c, .bool true] by rw [← hw3]; exact HC2.out.set 1 _)
  have HD3 := Lib.hid (show Cel w3 b1 48 (Bs zero32) from ho3.heap HD2.out (by have := HX.out; omega))
  have HZ3 := Lib.hid (show Cel w3 b0 48 (Bs zero32) from ho3.heap HZ2.out (by have := HX.out; omega))
  have HR3 := Lib.hid (HR2.out.only' ho3 (fun x hx hp => (HRD.out.2.2 x hx hp).1))
  have HP3 := Lib.hid ((PastN.of_below HB2.out).only ho3)
  have HI := Lib.hid (show idX l = zero32 ∧ idR l = l ∧ (bad || !decide (32 ≤ n)) = true from ⟨by unfold idX; rw [← HN.out, if_neg h32], by unfold idR; rw [← HN.out, if_neg h32], by rw [decide_eq_false h32]; simp⟩)
  clear hw3 ho3 p0 p1 f1 HC2 HD2 HZ2 HR2 h32
  go_step
  refine wpList_load_mid rfl 48 (.tmp 3) rfl b1 0 rfl (Bs zero32) _ HD3.out.range under_ids rfl (info_x zero32_length) ?_
  simp only [Act.put, List.setIfInBounds_toArray, List.set_cons_zero, List.set_cons_succ]
  refine wpList_store_mid rfl 48 (.tmp 2) (.tmp 15) rfl b0 0 (Bs zero32).toArray rfl rfl ?h1 ?h2 ?h3 ?_
  case h1 => exact HZ3.out.there
  case h2 => rw [List.size_toArray]; exact info_x zero32_length
  case h3 => exact all_oneCell_toArray (Bs_one _)
  rw [List.toList_toArray]
  simp only [Act.put]
  generalize hwF : World.setCells w3 _ _ _ = wF
  have hOF : Only w3 wF b0 := by rw [← hwF]; exact only_sets _ _ _ _
  have HZF := Lib.hid (show Cel wF b0 48 (Bs zero32) by rw [← hwF]; exact Cel.sets b0 _ (Bs zero32) [] (Bs zero32) w3 (by simp only [Bs_length, zero32_length]) HZ3.out)
  have HCF := Lib.hid (hOF.heap HC3.out (by have := HX.out; omega))
  have HRF := Lib.hid (HR3.out.only' hOF (fun x hx hp => by
   rcases HRD.out.1.cells with h0 | ⟨b, off, e, hlt, _⟩
   ·omega
   ·rw [e] at hx; injection hx with hx; rw [← hx]; have := HX.out; simp only; omega))
  have HPF := Lib.hid (HP3.out.fresh hOF (by have := HX.out; omega))
  clear hwF hOF
  go_wp2_with fail
  rw [HI.out.1, HI.out.2.1, HI.out.2.2]
  refine bodyPost_ret (v := .agg (Bs zero32).toArray) ?_ rfl ⟨rfl, ⟨a, c, by rw [← HN.out]; exact HCF.out, by rw [← HN.out]; exact HRF.out, HRD.out.2.1, fun x hx hp => HRD.out.2.2 x hx (by rw [HN.out]; exact hp)⟩, HPF.out⟩
  have hld := run_loadVar_mid (P := Tryz.prog) wF b0 0 48 _ _ HZF.out.range under_ids rfl (info_x zero32_length)
  simp [results, Tryz.results44, asAddr, hld, Result.andThen]
 have hno : ¬ (n : Int) < 32 := by omega
 have hl32 : 32 ≤ l.length := by rw [← HN.out]; exact h32
 obtain ⟨a', hs, hR, hac, hblk⟩ := HRD.out.1.slb HRD.out.2.1 32 h32
 have hsl0 : ∀ w', (Instr.slice 28 (.slice a n c) (some (.int .i64 ((32 : Nat) : Int))) none none).run Tryz.prog w' = .ok (.slice a' (n - 32) (c - 32)) w' := fun w' => by rw [slice_l w' a n c 32 h32, hs]
 have hsl : ∀ w', (Instr.slice 28 (.slice a n c) (some (.int .i64 32)) none none).run Tryz.prog w' = .ok (.slice a' (n - 32) (c - 32)) w' := hsl0
 have hsa : ∀ w', (Instr.sliceAt 28 (.slice a n c) (some (.int .i64 32)) none none).run Tryz.prog w' = .ok (.slice a' (n - 32) (c - 32)) w' := fun w' => by rw [slice_at]; exact hsl w'
 have HSL := Lib.hid (And.intro hsl hsa)
 have HAP := Lib.hid (show (∀ w', Rd w' a n c l → Rd w' a' (n - 32) (c - 32) (l.drop 32)) ∧ (a' = none → c - 32 = 0) ∧ ∀ x, a' = some x → 0 < n - 32 → x.block ≠ br ∧ ok x.block from ⟨hR, hac, fun x hx hp => by
  obtain ⟨y, hy1, hy2⟩ := hblk x hx
  rw [hy2]
  exact HRD.out.2.2 y hy1 (by omega)⟩)
 have HI := Lib.hid (show idX l = l.take 32 ∧ idR l = l.drop 32 ∧ (bad || !decide (32 ≤ n)) = bad ∧ (l.drop 32).length = n - 32 ∧ (l.take 32).length = 32 from ⟨by unfold idX; rw [if_pos hl32], by unfold idR; rw [if_pos hl32], by rw [decide_eq_true h32]; simp, by rw [List.length_drop, ← HN.out], by rw [List.length_take]; omega⟩)
 have H32 := Lib.hid h32
 have HL32 := Lib.hid hl32
 have HAW := Lib.hid (show ∀ x, a = some x → x.block < b0 from fun x hx => by
  rcases HRD.out.1.cells with h0 | ⟨b, off, e, hlt, _⟩
  ·omega
  ·rw [e] at hx; injection hx with hx; rw [← hx]; have := HX.out; simp only; omega)
 clear hs hR hac hblk hsl0 hsl hsa h32 hl32
 go_wp2_with fail
 clear p0 hno
 go_loopw [4] (fun v4 wr => ∃ i : Nat, i ≤ 32 ∧ v4 = .int .i64 (i : Int) ∧ Hid (Cel wr b1 48 (Bs (part32 l i))) ∧ Hid (Only w2 wr b1)) (fun v4 _ => 32 - (intOf v4).toNat)
 case atStart => exact ⟨0, Nat.zero_le _, rfl, Lib.hid (by rw [part32_zero]; exact HD2.out), Lib.hid (Only.refl _ _)⟩
 case round =>
  obtain ⟨i, hi, rfl, hC, hO⟩ := hrel
  have HCr := Lib.hid (show Cel wr br 70 [.slice a n c, .bool bad] from hO.out.heap HC2.out (by have := HX.out; omega))
  have hrr := HR2.out.only' hO.out (fun x hx hp => by have := HAW.out x hx; have := HX.out; omega)
  have p0 : wr.cell? ⟨br, 0, none⟩ = some (.slice a n c) := HCr.out.at 0 _ rfl
  by_cases hlt : i < 32
  ·have hlt' : (i : Int) < 32 := by omega
   have hi0 : (0 : Int) ≤ (i : Int) := by omega
   have hin : (i : Int) < (n : Int) := by have := H32.out; omega
   rcases hrr.cells with h0 | ⟨b3, o3, rfl, _, hc3⟩
   ·have := H32.out; omega
   have hb := hc3 i (by have := H32.out; omega)
   obtain ⟨u1, hu1, hf1⟩ := there_at hC.out.there i (by rw [Bs_length, part32_length l i hi HL32.out]; exact hlt)
   clear hc3 hrr
   go_wp2_with fail
   refine ⟨⟨i + 1, by omega, by go_num, Lib.hid (by rw [← part32_set l i hlt HL32.out]; exact hC.out.set i _), Lib.hid (hO.out.trans (only_set _ _ _ _))⟩, ?_⟩
   simp [intOf]; omega
  ·obtain rfl : i = 32 := by omega
   have HDr := Lib.hid (show Cel wr b1 48 (Bs (l.take 32)) by rw [← part32_all]; exact hC.out)
   have HZr := Lib.hid (show Cel wr b0 48 (Bs zero32) from hO.out.heap HZ2.out (by have := HX.out; omega))
   have HRr := Lib.hid hrr
   have HPr := Lib.hid (show PastN w wr br from (PastN.of_below HB2.out).fresh hO.out (by have := HX.out; omega))
   have f0 : wr.frozen? ⟨br, 0, none⟩ = false := HCr.out.free 0
   have hsl := HSL.out.1
   have hsa := HSL.out.2
   have hlt' : ¬ ((32 : Nat) : Int) < 32 := by omega
   clear hlt hrr hC
   go_upto_region 10 with fail
   generalize hw3 : World.setCell wr _ _ = w3
   have ho3 : Only wr w3 br := by rw [← hw3]; exact only_set _ _ _ _
   have HC3 := Lib.hid (show Cel w3 br 70 [.slice a' (n - 32) (c - 32), .bool bad] by rw [← hw3]; exact HCr.out.set 0 _)
   have HD3 := Lib.hid (show Cel w3 b1 48 (Bs (l.take 32)) from ho3.heap HDr.out (by have := HX.out; omega))
   have HZ3 := Lib.hid (show Cel w3 b0 48 (Bs zero32) from ho3.heap HZr.out (by have := HX.out; omega))
   have HR3 := Lib.hid (HRr.out.only' ho3 (fun x hx hp => (HRD.out.2.2 x hx hp).1))
   have HP3 := Lib.hid (HPr.out.only ho3)
   clear hw3 ho3 p0 f0 hsl hsa hlt' HRr HCr HDr HZr HPr
   go_step
   refine wpList_load_mid rfl 48 (.tmp 3) rfl b1 0 rfl (Bs (l.take 32)) _ HD3.out.range under_ids rfl (info_x HI.out.2.2.2.2) ?_
   simp only [Act.put, List.setIfInBounds_toArray, List.set_cons_zero, List.set_cons_succ]
   refine wpList_store_mid rfl 48 (.tmp 2) (.tmp 37) rfl b0 0 (Bs (l.take 32)).toArray rfl rfl ?h1 ?h2 ?h3 ?_
   case h1 => rw [List.size_toArray, Bs_length, HI.out.2.2.2.2]; have hth := HZ3.out.there; rw [Bs_length, zero32_length] at hth; exact hth
   case h2 => rw [List.size_toArray]; exact info_x HI.out.2.2.2.2
   case h3 => exact all_oneCell_toArray (Bs_one _)
   rw [List.toList_toArray]
   simp only [Act.put]
   generalize hwF : World.setCells w3 _ _ _ = wF
   have hOF : Only w3 wF b0 := by rw [← hwF]; exact only_sets _ _ _ _
   have HZF := Lib.hid (show Cel wF b0 48 (Bs (l.take 32)) by rw [← hwF]; exact Cel.sets b0 _ (Bs (l.take 32)) [] (Bs zero32) w3 (by rw [Bs_length, Bs_length, zero32_length, HI.out.2.2.2.2]) HZ3.out)
   have HCF := Lib.hid (hOF.heap HC3.out (by have := HX.out; omega))
   have HRF := Lib.hid (HR3.out.only' hOF (fun x hx hp => by have := HAW.out x hx; have := HX.out; omega))
   have HPF := Lib.hid (HP3.out.fresh hOF (by have := HX.out; omega))
   clear hwF hOF
   go_wp2_with fail
   rw [HI.out.1, HI.out.2.1, HI.out.2.2.1]
   refine bodyPost_ret (v := .agg (Bs (l.take 32)).toArray) ?_ rfl ⟨rfl, ⟨a', c - 32, by rw [HI.out.2.2.2.1]; exact HCF.out, by rw [HI.out.2.2.2.1]; exact HAP.out.1 _ HRF.out, HAP.out.2.1, fun x hx hp => HAP.out.2.2 x hx (by rw [HI.out.2.2.2.1] at hp; exact hp)⟩, HPF.out⟩
   have hld := run_loadVar_mid (P := Tryz.prog) wF b0 0 48 _ _ HZF.out.range under_ids rfl (info_x HI.out.2.2.2.2)
   simp [results, Tryz.results44, asAddr, hld, Result.andThen]
end Go.Proofs.YtofadpodlaakbaaGreat
