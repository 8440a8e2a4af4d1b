/- The deferred closure of Get, of the layer commit: where bytes are none, and where they are some. -/
import Derived.Test.YtofadpodlaakbaaGreatCmRd
import Derived.Defers
import Derived.Recover
namespace Go.Proofs.YtofadpodlaakbaaGreat
open Go.ChangeShapes Go.WideShapes Go.ChangeAt Go.RowKit
set_option linter.unusedVariables false
set_option maxRecDepth 100000 in
theorem catch_idle (p0 p1 p2 : Addr) (w : World) :
  CallsD Tryz.prog 112 #[.pointer (some p0), .pointer (some p1), .pointer (some p2)] .returning w fun e u' w' => e = .returned (.tuple #[]) ∧ u' = .returning ∧ w' = w := by
 refine callsD_of_wpS Tryz.func112 rfl fun c₀ cs hu => ?_
 apply wpS_seq
 apply wpS_region
 simp [wpOpsS, go_sem, recoverD, hu, Tryz.ntmps112, Exit.thenS]
 refine wpS_of_wp ?_
 have he : (#[Value.pointer (some p0), Value.pointer (some p1), Value.pointer (some p2)] ++ ((Array.replicate 15 undef).setIfInBounds 3 Value.nilIface).setIfInBounds 0 Value.nilIface) = #[.pointer (some p0), .pointer (some p1), .pointer (some p2), .nilIface, undef, undef, .nilIface, undef, undef, undef, undef, undef, undef, undef, undef, undef, undef, undef] := by rfl
 rw [he]
 go_wp2_with fail
 refine ⟨rfl, .returning, ?_, .tuple #[], by simp [results, Tryz.results112], rfl, rfl, rfl⟩
 cases c₀
 simp_all
set_option maxRecDepth 100000 in
set_option maxHeartbeats 1000000 in
theorem catch_wrong (bc b3 be : Nat) (v1 v2 : Value) (vs : List Value) (older : List PanicEntry) (w : World) (hc : Cel w bc 41 vs) (hl : vs.length = 8) (h3 : Cel w b3 28 [v1]) (he : Cel w be 29 [v2]) :
  CallsD Tryz.prog 112 #[.pointer (some ⟨bc, 0, none⟩), .pointer (some ⟨b3, 0, none⟩), .pointer (some ⟨be, 0, none⟩)] (.panicking ({ v := .iface 130 (.agg #[]), recovered := false } :: older)) w fun e u' w' =>
   e = .returned (.tuple #[]) ∧ u' = .panicking ({ v := .iface 130 (.agg #[]), recovered := true } :: older) ∧ Cel w' bc 41 zeroC ∧ Cel w' b3 28 [.slice none 0 0] ∧ Cel w' be 29 [.int .i64 2] ∧ (∀ (B : Nat) (w0 : World), Below B w0 w → B ≤ bc → B ≤ b3 → B ≤ be → Below B w0 w') := by
 refine callsD_of_wpS Tryz.func112 rfl fun c₀ cs hu => ?_
 apply wpS_seq
 apply wpS_region
 simp [wpOpsS, go_sem, recoverD, hu, Tryz.ntmps112, Exit.thenS]
 refine wpS_of_wp ?_
 have e0 : (#[Value.pointer (some ⟨bc, 0, none⟩), Value.pointer (some ⟨b3, 0, none⟩), Value.pointer (some ⟨be, 0, none⟩)] ++ ((Array.replicate 15 undef).setIfInBounds 3 (Value.iface 130 (Value.agg #[]))).setIfInBounds 0 (Value.iface 130 (Value.agg #[]))) = #[.pointer (some ⟨bc, 0, none⟩), .pointer (some ⟨b3, 0, none⟩), .pointer (some ⟨be, 0, none⟩), .iface 130 (.agg #[]), undef, undef, .iface 130 (.agg #[]), undef, undef, undef, undef, undef, undef, undef, undef, undef, undef, undef] := by rfl
 rw [e0]
 clear e0
 have hta : ∀ w : World, (Instr.typeAssert (.iface 130 (.agg #[])) 20 130 true).run Tryz.prog w = .ok (.tuple #[.agg #[], .bool true]) w := fun w => by kernel_rfl
 obtain ⟨x0, x1, x2, x3, x4, x5, x6, x7, rfl⟩ : ∃ x0 x1 x2 x3 x4 x5 x6 x7, vs = [x0, x1, x2, x3, x4, x5, x6, x7] := by
  match vs, hl with
  | [x0, x1, x2, x3, x4, x5, x6, x7], _ => exact ⟨_, _, _, _, _, _, _, _, rfl⟩
 have HC := Lib.hid hc
 have H3 := Lib.hid h3
 have HE := Lib.hid he
 have HU := Lib.hid hu
 have HNE := Lib.hid (show bc ≠ b3 ∧ bc ≠ be ∧ b3 ≠ be from ⟨fun e => by subst e; have := hc.symm.trans h3; injection this with this; injection this with _ h _; exact absurd h (by decide), fun e => by subst e; have := hc.symm.trans he; injection this with this; injection this with _ h _; exact absurd h (by decide), fun e => by subst e; have := h3.symm.trans he; injection this with this; injection this with _ h _; exact absurd h (by decide)⟩)
 clear hc h3 he hl hu
 go_upto_region 5 with fail
 generalize hw1 : w.alloc (.cells _ _) = w1
 have hb01 : Below w.heap.size w w1 := by rw [← hw1]; exact (Below.refl _ _).alloc (Nat.le_refl _) _
 have HC1 := Lib.hid (HC.out.step hb01)
 have H31 := Lib.hid (H3.out.step hb01)
 have HE1 := Lib.hid (HE.out.step hb01)
 have HB1 := Lib.hid hb01
 have hbl : ∀ (B : Nat) (w0 : World), Below B w0 w → B ≤ bc → Below B w0 w1 := fun B w0 h hle => by rw [← hw1]; exact h.alloc (Nat.le_trans hle (Nat.le_of_lt HC.out.lt)) _
 have HBL := Lib.hid hbl
 clear hw1 hb01 hta hbl
 have p0 : w1.cell? ⟨bc, 0, none⟩ = some x0 := HC1.out.at 0 _ rfl
 have f0 : w1.frozen? ⟨bc, 0, none⟩ = false := HC1.out.free 0
 have p1 : w1.cell? ⟨bc, 1, none⟩ = some x1 := HC1.out.at 1 _ rfl
 have f1 : w1.frozen? ⟨bc, 1, none⟩ = false := HC1.out.free 1
 have p2 : w1.cell? ⟨bc, 2, none⟩ = some x2 := HC1.out.at 2 _ rfl
 have f2 : w1.frozen? ⟨bc, 2, none⟩ = false := HC1.out.free 2
 have p3 : w1.cell? ⟨bc, 3, none⟩ = some x3 := HC1.out.at 3 _ rfl
 have f3 : w1.frozen? ⟨bc, 3, none⟩ = false := HC1.out.free 3
 have p4 : w1.cell? ⟨bc, 4, none⟩ = some x4 := HC1.out.at 4 _ rfl
 have f4 : w1.frozen? ⟨bc, 4, none⟩ = false := HC1.out.free 4
 have p5 : w1.cell? ⟨bc, 5, none⟩ = some x5 := HC1.out.at 5 _ rfl
 have f5 : w1.frozen? ⟨bc, 5, none⟩ = false := HC1.out.free 5
 have p6 : w1.cell? ⟨bc, 6, none⟩ = some x6 := HC1.out.at 6 _ rfl
 have f6 : w1.frozen? ⟨bc, 6, none⟩ = false := HC1.out.free 6
 have p7 : w1.cell? ⟨bc, 7, none⟩ = some x7 := HC1.out.at 7 _ rfl
 have f7 : w1.frozen? ⟨bc, 7, none⟩ = false := HC1.out.free 7
 have q0 : w1.cell? ⟨b3, 0, none⟩ = some v1 := H31.out.at 0 _ rfl
 have q1 : w1.frozen? ⟨b3, 0, none⟩ = false := H31.out.free 0
 have r0 : w1.cell? ⟨be, 0, none⟩ = some v2 := HE1.out.at 0 _ rfl
 have r1 : w1.frozen? ⟨be, 0, none⟩ = false := HE1.out.free 0
 have n1 : bc ≠ b3 := HNE.out.1
 have n2 : bc ≠ be := HNE.out.2.1
 have n3 : b3 ≠ be := HNE.out.2.2
 go_wp2_with fail
 generalize hwX : World.setCell (World.setCell (World.setCell (World.setCell (World.setCell (World.setCell (World.setCell (World.setCell w1 _ _) _ _) _ _) _ _) _ _) _ _) _ _) _ _ = wX
 have hOX : Only w1 wX bc := by rw [← hwX]; exact (((((((only_set _ _ _ _).trans (only_set _ _ _ _)).trans (only_set _ _ _ _)).trans (only_set _ _ _ _)).trans (only_set _ _ _ _)).trans (only_set _ _ _ _)).trans (only_set _ _ _ _)).trans (only_set _ _ _ _)
 have hCX : Cel wX bc 41 zeroC := by rw [← hwX]; exact (((((((HC1.out.set 0 _).set 1 _).set 2 _).set 3 _).set 4 _).set 5 _).set 6 _).set 7 _
 generalize hwY : World.setCell wX _ _ = wY
 have hOY : Only wX wY b3 := by rw [← hwY]; exact only_set _ _ _ _
 have h3Y : Cel wY b3 28 [.slice none 0 0] := by rw [← hwY]; exact Cel.set (show Cel wX b3 _ [v1] from hOX.heap H31.out n1.symm) 0 _
 generalize hwZ : World.setCell wY _ _ = wZ
 have hOZ : Only wY wZ be := by rw [← hwZ]; exact only_set _ _ _ _
 have hEZ : Cel wZ be 29 [.int .i64 2] := by rw [← hwZ]; exact Cel.set (show Cel wY be _ [v2] from hOY.heap (hOX.heap HE1.out n2.symm) n3.symm) 0 _
 refine ⟨rfl, _, rfl, .tuple #[], by simp [results, Tryz.results112], rfl, rfl, hOZ.heap (hOY.heap hCX n1) n2, hOZ.heap h3Y n3, hEZ, fun B w0 h h1 h2 h3 => ?_⟩
 exact hOZ.below (hOY.below (hOX.below (HBL.out B w0 h h1) h1) h2) h3
end Go.Proofs.YtofadpodlaakbaaGreat
