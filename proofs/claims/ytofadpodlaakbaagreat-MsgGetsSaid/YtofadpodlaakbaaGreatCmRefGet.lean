/- The walk of the reference's Get, of the layer commit. -/
import Derived.Test.YtofadpodlaakbaaGreatCmRefRd
import Derived.Test.YtofadpodlaakbaaGreatCmRefLaw
import Derived.Test.YtofadpodlaakbaaGreatCmRef1
import Derived.Test.YtofadpodlaakbaaGreatCmGet
import Derived.Test.YtofadpodlaakbaaGreatOpsRefGet
import Derived.Test.YtofadpodlaakbaaGreatCmRefPut
namespace Go.Proofs.YtofadpodlaakbaaGreat
open Go.ChangeShapes Go.WideShapes Go.ChangeAt Go.RowKit
set_option linter.unusedVariables false
set_option linter.unusedSimpArgs false
theorem wpList_one_slice {P : Program} {ops : Array Oper} {rest : List Oper} {o : Oper} {a : Act} {w : World} {Q : Exit → Act → World → Prop} (hgd : o.guard = none) (t e : TypeId) (x : Operand) (hop : o.op = .buildSlice t 1 #[(0, x)]) (cs : List Value) (hx : a.eval x = .agg cs.toArray) (ie : TypeInfo) (z : Value)
  (hu : P.underlying t = some (.slice e)) (hie : P.info? e = some ie) (hz : ie.zero = some z) (hs : ie.size = cs.length) (hpos : 0 < cs.length) (hsmall : cs.length ≤ 1000)
  (h : wpList P ops Q rest (a.put o.dst (.slice (some ⟨w.heap.size, 0, none⟩) 1 1)) (w.alloc (.cells cs.toArray e))) : wpList P ops Q (o :: rest) a w := by
 refine Go.wpList_buildSlice hgd t e 1 #[(0, x)] hop cs.toArray ie z hu hie hz (by rw [hs]; omega) (by rw [hs]; omega) ?_ h
 have := Great.fill_whole (s := ie.size) (by rw [hs]; exact hpos) [.agg cs.toArray] ((Array.range (1 * ie.size)).map (z.cells[· % z.cells.size]!)) (by intro v hv; simp only [List.mem_singleton] at hv; subst hv; show cs.toArray.size = _; rw [List.size_toArray, hs]) (by simp)
 simpa [hx, Value.cells] using this
theorem RdR.grownb {w w' : World} {br lim : Nat} {t : TypeId} {vs : List Value} {l : List UInt8} {row : Option Nat} (h : RdR (fun k => k < lim) w br t vs l) (hg : w.grownBy w' row) (hbr : ∀ k, row = some k → br < k) (hr : ∀ k, row = some k → lim ≤ k) : RdR (fun k => k < lim) w' br t vs l := by
 obtain ⟨a, c, h1, h2, h3, h4⟩ := h
 refine ⟨a, c, h1.grown hg hbr, ?_, h3, h4⟩
 refine ⟨h2.len, h2.le, h2.cap, ?_⟩
 obtain ⟨_, _, _, g4, g5⟩ := hg
 by_cases hz : l.length = 0
 ·exact .inl hz
 rcases h2.cells with h0 | ⟨b', off, rfl, hlt, hc⟩
 ·exact .inl h0
 ·refine .inr ⟨b', off, rfl, Nat.lt_of_lt_of_le hlt g4, fun i hi => ?_⟩
  have h5 := (h4 ⟨b', off, none⟩ rfl (by omega)).2
  have h6 := hc i hi
  unfold World.cell? at h6 ⊢
  rw [g5 b' hlt (by
   intro e
   have := hr b' e.symm
   simp only at h5
   omega)]
  exact h6
set_option maxRecDepth 100000 in
set_option maxHeartbeats 20000000 in
theorem cget_ref_fresh (a : Option Addr) (n c : Nat) (l : List UInt8) (w : World) (hr : Rd w a n c l) (hz : a = none → c = 0) (hn : n ≤ 2000) : Calls Tryz.prog 46 #[.slice a n c] w (CGetF l w) := by
 have hln := hr.len
 have HR := Lib.hid (And.intro hr hz)
 have HLN := Lib.hid hln
 have HLT := Lib.hid (show ∀ x, a = some x → 0 < n → x.block < w.heap.size from fun x hx hp => by
  rcases hr.cells with h0 | ⟨b, off, e, hlt, _⟩
  ·omega
  ·rw [e] at hx; injection hx with hx; rw [← hx]; exact hlt)
 have hn63 : n ≤ 9223372036854775807 := by omega
 obtain ⟨l1, hl1⟩ : ∃ x, x = l.drop (getL l).2 := ⟨_, rfl⟩
 obtain ⟨l2, hl2⟩ : ∃ x, x = l1.drop (getL l1).2 := ⟨_, rfl⟩
 obtain ⟨l3, hl3⟩ : ∃ x, x = l2.drop (getL l2).2 := ⟨_, rfl⟩
 obtain ⟨l4, hl4⟩ : ∃ x, x = l3.drop (getL l3).2 := ⟨_, rfl⟩
 have q0 : l.length ≤ 2000 := by omega
 have q1 : l1.length ≤ 2000 := by rw [hl1, List.length_drop]; omega
 have q2 : l2.length ≤ 2000 := by rw [hl2, List.length_drop]; omega
 have q3 : l3.length ≤ 2000 := by rw [hl3, List.length_drop]; omega
 have q4 : l4.length ≤ 2000 := by rw [hl4, List.length_drop]; omega
 obtain ⟨N, hN⟩ : ∃ x, x = (getL l).1 := ⟨_, rfl⟩
 obtain ⟨s, hs⟩ : ∃ x, x = (getL l1).1 := ⟨_, rfl⟩
 obtain ⟨g, hg⟩ : ∃ x, x = (getL l2).1 := ⟨_, rfl⟩
 obtain ⟨k, hk⟩ : ∃ x, x = (getL l3).1 := ⟨_, rfl⟩
 have N64 : N < 18446744073709551616 := by rw [hN]; exact getL_lt l
 obtain ⟨d1, hd1⟩ : ∃ b, b = (false || decide ((getL l).2 = 0)) := ⟨_, rfl⟩
 obtain ⟨d2, hd2⟩ : ∃ b, b = (d1 || decide ((getL l1).2 = 0)) := ⟨_, rfl⟩
 obtain ⟨d3, hd3⟩ : ∃ b, b = (d2 || decide ((getL l2).2 = 0)) := ⟨_, rfl⟩
 obtain ⟨d4, hd4⟩ : ∃ b, b = (d3 || decide ((getL l3).2 = 0)) := ⟨_, rfl⟩
 obtain ⟨node, hnode⟩ : ∃ x, x = unfold' (N : Int) := ⟨_, rfl⟩
 obtain ⟨S, hS⟩ : ∃ x, x = IntKind.i64.wrap (s : Int) := ⟨_, rfl⟩
 obtain ⟨G, hG⟩ : ∃ x, x = IntKind.i64.wrap (g : Int) := ⟨_, rfl⟩
 have HNO := Lib.hid (show d4 = true ∨ ¬ 32 * k ≤ l4.length → getC l = none from fun h => getC_no hl1 hl2 hl3 hl4 (by
  rw [← hk]
  rcases h with h | h
  ·rw [hd4, hd3, hd2, hd1] at h
   simp only [Bool.or_eq_true, decide_eq_true_eq, Bool.false_or] at h
   rcases h with ((h | h) | h) | h
   ·exact .inl h
   ·exact .inr (.inl h)
   ·exact .inr (.inr (.inl h))
   ·exact .inr (.inr (.inr (.inl h)))
  ·exact .inr (.inr (.inr (.inr h)))))
 have HOK := Lib.hid (show d4 = false → 32 * k ≤ l4.length → getC l = (if node = -1 then finC ⟨node, S, G, idsOf k l4, zeroO⟩ (l4.drop (32 * k))
   else match getO (l4.drop (32 * k)) with
    | none => none
    | some (o, r) => finC ⟨node, S, G, idsOf k l4, o⟩ r) from fun h h2 => by
  rw [hd4, hd3, hd2, hd1] at h
  simp only [Bool.or_eq_false_iff, decide_eq_false_iff_not, true_and] at h
  obtain ⟨⟨⟨x1, x2⟩, x3⟩, x4⟩ := h
  rw [hnode, hN]
  exact getC_wide hl1 hl2 hl3 hl4 x1 x2 x3 x4 hk h2 (by rw [hS, hs]; exact fit_wrap _ (getL_lt _)) (by rw [hG, hg]; exact fit_wrap _ (getL_lt _)))
 have HN0 := Lib.hid (fun w' br' (h : RdR (fun k => k < w.heap.size) w' br' 70 [.bool false] l) => rnum_ref _ br' false l w' h (by omega))
 have HN1 := Lib.hid (fun w' br' (h : RdR (fun k => k < w.heap.size) w' br' 70 [.bool d1] l1) => rnum_ref _ br' d1 l1 w' h (by omega))
 have HN2 := Lib.hid (fun w' br' (h : RdR (fun k => k < w.heap.size) w' br' 70 [.bool d2] l2) => rnum_ref _ br' d2 l2 w' h (by omega))
 have HN3 := Lib.hid (fun w' br' (h : RdR (fun k => k < w.heap.size) w' br' 70 [.bool d3] l3) => rnum_ref _ br' d3 l3 w' h (by omega))
 rw [← hN, ← hd1, ← hl1] at HN0
 rw [← hs, ← hd2, ← hl2] at HN1
 rw [← hg, ← hd3, ← hl3] at HN2
 rw [← hk, ← hd4, ← hl4] at HN3
 have HUN := Lib.hid (fun w' => unfold_ref (N : Int) w' (by omega) (by omega))
 rw [← hnode] at HUN
 have hcs : IntKind.i64.wrap (s : Int) = S := hS.symm
 have hcg : IntKind.i64.wrap (g : Int) = G := hG.symm
 have HQ4 := Lib.hid q4
 have HND := Lib.hid (show -9223372036854775808 ≤ node ∧ node ≤ 9223372036854775807 by rw [hnode]; exact unfold_bd N64)
 clear hr hz hln hl1 hl2 hl3 hl4 q0 q1 q2 q3 q4 hN hs hg hk N64 hd1 hd2 hd3 hd4 hnode hS hG
 go_enter Tryz.func46, Tryz.ntmps46
 go_upto_region 3 with fail
 obtain ⟨w1, hw1⟩ : ∃ w1, w1 = w.alloc (.cells (zeroC : List Value).toArray 41) := ⟨_, rfl⟩
 obtain ⟨w2, hw2⟩ : ∃ w2, w2 = w1.alloc (.cells ([.slice a n c, .bool false] : List Value).toArray 70) := ⟨_, rfl⟩
 obtain ⟨w3, hw3⟩ : ∃ w3, w3 = w2.alloc (.cells (zeroC : List Value).toArray 41) := ⟨_, rfl⟩
 have s1 : w1.heap.size = w.heap.size + 1 := by rw [hw1]; exact size_alloc' _ _
 have s2 : w2.heap.size = w.heap.size + 1 + 1 := by rw [hw2, size_alloc', s1]
 have b01 : Below w.heap.size w w1 := by rw [hw1]; exact (Below.refl _ _).alloc (Nat.le_refl _) _
 have b12 : Below w1.heap.size w1 w2 := by rw [hw2]; exact (Below.refl _ _).alloc (Nat.le_refl _) _
 have b23 : Below w2.heap.size w2 w3 := by rw [hw3]; exact (Below.refl _ _).alloc (Nat.le_refl _) _
 have c1 : Cel w1 w.heap.size 41 zeroC := by rw [hw1]; exact Cel.new w _ _
 have c2 : Cel w2 (w.heap.size + 1) 70 [.slice a n c, .bool false] := by rw [hw2, ← s1]; exact Cel.new w1 _ _
 have c3 : Cel w3 (w.heap.size + 1 + 1) 41 zeroC := by rw [hw3, ← s2]; exact Cel.new w2 _ _
 generalize hwg : World.alloc (World.alloc (World.alloc w _) _) _ = wG
 obtain rfl : w3 = wG := by rw [← hwg, hw3, hw2, hw1]; rfl
 obtain ⟨bR, hbR⟩ : ∃ b, b = w.heap.size := ⟨_, rfl⟩
 obtain ⟨br, hbr⟩ : ∃ b, b = w.heap.size + 1 := ⟨_, rfl⟩
 obtain ⟨bc, hbc⟩ : ∃ b, b = w.heap.size + 1 + 1 := ⟨_, rfl⟩
 rw [← hbc] at c3 ⊢
 rw [← hbr] at c2 ⊢
 rw [← hbR] at c1 HN0 HN1 HN2 HN3 ⊢
 have HX := Lib.hid (show bR = w.heap.size ∧ br = bR + 1 ∧ bc = bR + 2 ∧ w3.heap.size = bR + 3 from ⟨hbR, by omega, by omega, by rw [hw3, size_alloc', s2]; omega⟩)
 have HC3 := Lib.hid c3
 have HZ3 := Lib.hid ((c1.step b12).step b23)
 have HB3 := Lib.hid ((b01.step b12).step b23)
 have HR3 := Lib.hid (show RdR (fun k => k < bR) w3 br 70 [.bool false] l from ⟨a, c, by rw [HLN.out]; exact c2.step b23, by rw [HLN.out]; exact HR.out.1.below HB3.out, HR.out.2, fun x hx hp => ⟨by have hl0 := HLN.out; have := HLT.out x hx (by omega); omega, by have hl0 := HLN.out; have := HLT.out x hx (by omega); omega⟩⟩)
 clear hwg hw1 hw2 hw3 s1 s2 b01 b12 b23 c1 c2 c3 hbR hbr hbc
 go_wp2_with fail
 refine (HN0.out _ br HR3.out).mono ?_
 rintro e w4 ⟨rfl, hr, hp⟩
 have HR4 := Lib.hid hr
 have HC4 := Lib.hid (show Cel w4 bc 41 [.int .i64 0, .int .i64 0, .int .i64 0, .slice none 0 0, .int .i64 0, .string ⟨#[]⟩, .string ⟨#[]⟩, .int .i64 0] from hp.heap HC3.out (by have := HX.out; omega))
 have HZ4 := Lib.hid (show Cel w4 bR 41 zeroC from hp.heap HZ3.out (by have := HX.out; omega))
 have HB4 := Lib.hid (hp.below HB3.out (by have := HX.out; omega))
 clear hr hp HR3 HC3 HZ3 HB3 HN0
 go_wp2_with fail
 refine (HUN.out _).mono ?_
 rintro e w' ⟨rfl, rfl⟩
 have p0 : w4.cell? ⟨bc, 0, none⟩ = some (.int .i64 0) := HC4.out.at 0 _ rfl
 have f0 : w4.frozen? ⟨bc, 0, none⟩ = false := HC4.out.free 0
 go_upto_region 4 with fail
 generalize hwn : World.setCell w4 _ _ = w5
 have ho : Only w4 w5 bc := by rw [← hwn]; exact only_set _ _ _ _
 have HC5 := Lib.hid (show Cel w5 bc 41 [.int .i64 node, .int .i64 0, .int .i64 0, .slice none 0 0, .int .i64 0, .string ⟨#[]⟩, .string ⟨#[]⟩, .int .i64 0] by rw [← hwn]; exact HC4.out.set 0 _)
 have HR5 := Lib.hid (HR4.out.only ho (by have := HX.out; omega) (fun k hk => by have := HX.out; omega))
 have HZ5 := Lib.hid (show Cel w5 bR 41 zeroC from ho.heap HZ4.out (by have := HX.out; omega))
 have HB5 := Lib.hid (ho.below HB4.out (by have := HX.out; omega))
 clear hwn ho p0 f0 HR4 HC4 HZ4 HB4
 go_wp2_with fail
 refine (HN1.out _ br HR5.out).mono ?_
 rintro e w6 ⟨rfl, hr, hp⟩
 have HR6 := Lib.hid hr
 have HC6 := Lib.hid (show Cel w6 bc 41 [.int .i64 node, .int .i64 0, .int .i64 0, .slice none 0 0, .int .i64 0, .string ⟨#[]⟩, .string ⟨#[]⟩, .int .i64 0] from hp.heap HC5.out (by have := HX.out; omega))
 have HZ6 := Lib.hid (show Cel w6 bR 41 zeroC from hp.heap HZ5.out (by have := HX.out; omega))
 have HB6 := Lib.hid (hp.below HB5.out (by have := HX.out; omega))
 clear hr hp HR5 HC5 HZ5 HB5 HN1
 have p1 : w6.cell? ⟨bc, 1, none⟩ = some (.int .i64 0) := HC6.out.at 1 _ rfl
 have f1 : w6.frozen? ⟨bc, 1, none⟩ = false := HC6.out.free 1
 go_upto_region 5 with fail
 generalize hwn : World.setCell w6 _ _ = w7
 have ho : Only w6 w7 bc := by rw [← hwn]; exact only_set _ _ _ _
 have HC7 := Lib.hid (show Cel w7 bc 41 [.int .i64 node, .int .i64 S, .int .i64 0, .slice none 0 0, .int .i64 0, .string ⟨#[]⟩, .string ⟨#[]⟩, .int .i64 0] by rw [← hwn]; exact HC6.out.set 1 _)
 have HR7 := Lib.hid (HR6.out.only ho (by have := HX.out; omega) (fun k hk => by have := HX.out; omega))
 have HZ7 := Lib.hid (show Cel w7 bR 41 zeroC from ho.heap HZ6.out (by have := HX.out; omega))
 have HB7 := Lib.hid (ho.below HB6.out (by have := HX.out; omega))
 clear hwn ho p1 f1 HR6 HC6 HZ6 HB6
 go_wp2_with fail
 refine (HN2.out _ br HR7.out).mono ?_
 rintro e w8 ⟨rfl, hr, hp⟩
 have HR8 := Lib.hid hr
 have HC8 := Lib.hid (show Cel w8 bc 41 [.int .i64 node, .int .i64 S, .int .i64 0, .slice none 0 0, .int .i64 0, .string ⟨#[]⟩, .string ⟨#[]⟩, .int .i64 0] from hp.heap HC7.out (by have := HX.out; omega))
 have HZ8 := Lib.hid (show Cel w8 bR 41 zeroC from hp.heap HZ7.out (by have := HX.out; omega))
 have HB8 := Lib.hid (hp.below HB7.out (by have := HX.out; omega))
 clear hr hp HR7 HC7 HZ7 HB7 HN2
 have p2 : w8.cell? ⟨bc, 2, none⟩ = some (.int .i64 0) := HC8.out.at 2 _ rfl
 have f2 : w8.frozen? ⟨bc, 2, none⟩ = false := HC8.out.free 2
 go_upto_region 6 with fail
 generalize hwn : World.setCell w8 _ _ = w9
 have ho : Only w8 w9 bc := by rw [← hwn]; exact only_set _ _ _ _
 have HC9 := Lib.hid (show Cel w9 bc 41 [.int .i64 node, .int .i64 S, .int .i64 G, .slice none 0 0, .int .i64 0, .string ⟨#[]⟩, .string ⟨#[]⟩, .int .i64 0] by rw [← hwn]; exact HC8.out.set 2 _)
 have HR9 := Lib.hid (HR8.out.only ho (by have := HX.out; omega) (fun k hk => by have := HX.out; omega))
 have HZ9 := Lib.hid (show Cel w9 bR 41 zeroC from ho.heap HZ8.out (by have := HX.out; omega))
 have HB9 := Lib.hid (ho.below HB8.out (by have := HX.out; omega))
 clear hwn ho p2 f2 HR8 HC8 HZ8 HB8
 go_wp2_with fail
 refine (HN3.out _ br HR9.out).mono ?_
 rintro e w10 ⟨rfl, hr, hp⟩
 have HR10 := Lib.hid hr
 have HC10 := Lib.hid (show Cel w10 bc 41 [.int .i64 node, .int .i64 S, .int .i64 G, .slice none 0 0, .int .i64 0, .string ⟨#[]⟩, .string ⟨#[]⟩, .int .i64 0] from hp.heap HC9.out (by have := HX.out; omega))
 have HZ10 := Lib.hid (show Cel w10 bR 41 zeroC from hp.heap HZ9.out (by have := HX.out; omega))
 have HB10 := Lib.hid (hp.below HB9.out (by have := HX.out; omega))
 clear hr hp HR9 HC9 HZ9 HB9 HN3
 go_wp2_with fail
 go_loopw [8] (fun v8 wr => ∃ (i : Nat) (av : Option Addr) (cv : Nat) (bd : Bool) (X lr : List UInt8), (i ≤ k ∧ i ≤ 64) ∧ v8 = .int .u64 (i : Int) ∧ Hid (32 * i ≤ X.length ∧ lr.length ≤ 2000) ∧ Hid (Cel wr bc 41 [.int .i64 node, .int .i64 S, .int .i64 G, .slice av i cv, .int .i64 0, .string ⟨#[]⟩, .string ⟨#[]⟩, .int .i64 0]) ∧ Hid (wr.ownsRow (bc + 1) 48 32 (.slice av i cv) i (Bs (X.take (32 * i)))) ∧ Hid (RdR (fun k => k < bR) wr br 70 [.bool bd] lr) ∧ Hid (Cel wr bR 41 zeroC) ∧ Hid (Below w.heap.size w wr) ∧ Hid ((bd = true → getC l = none) ∧ (bd = false → X = l4 ∧ d4 = false ∧ lr = l4.drop (32 * i)))) (fun v8 _ => 64 - (intOf v8).toNat)
 case atStart => exact ⟨0, none, 0, d4, l4, l4, ⟨Nat.zero_le _, Nat.zero_le _⟩, rfl, Lib.hid ⟨Nat.zero_le _, HQ4.out⟩, HC10, Lib.hid (World.ownsRow_nil _ _ _ _), HR10, HZ10, HB10, Lib.hid ⟨fun h => HNO.out (.inl h), fun h => ⟨rfl, h, by rw [Nat.mul_zero, List.drop_zero]⟩⟩⟩
 case round =>
  obtain ⟨i, av, cv, bd, X, lr, ⟨hik0, hi64⟩, rfl, hI, hC, hO, hR, hZ, hB, hG⟩ := hrel
  obtain ⟨a0, c0, hbrc, hrd0, hac0, hne0⟩ := hR.out
  have r1 : wr.cell? ⟨br, 1, none⟩ = some (.bool bd) := hbrc.at 1 _ rfl
  clear hbrc hrd0 hac0 hne0
  by_cases hik : i < k
  case neg =>
   have hki : ¬ (i : Int) < (k : Int) := by omega
   cases bd with
   | true =>
    have HNOC := Lib.hid (hG.out.1 rfl)
    obtain ⟨cc, hcc⟩ : ∃ cc : Cmt, cc = ⟨node, S, G, idsOf i X, zeroO⟩ := ⟨_, rfl⟩
    have HCC := Lib.hid hcc
    clear hcc
    have HKE := Lib.hid (show cc.op.key.length ≤ 9223372036854775807 ∧ cc.op.elem.length ≤ 9223372036854775807 by rw [HCC.out]; exact ⟨Nat.zero_le _, Nat.zero_le _⟩)
    have HIDS := Lib.hid (show ∀ w', w'.ownsRow (bc + 1) 48 32 (.slice av i cv) i (Bs (X.take (32 * i))) → Ids w' av i cv (idsOf i X) from fun w' h => by
     obtain ⟨a', c', e, h2, _⟩ := Ids.of_own h hI.out.1
     injection e with e1 _ e2
     subst e1 e2
     exact h2)
    obtain ⟨m, hm⟩ : ∃ m, m = mayC cc := ⟨_, rfl⟩
    have HVAL := Lib.hid (show cc.val av cv = .agg #[.int .i64 node, .int .i64 S, .int .i64 G, .slice av i cv, .int .i64 0, .string ⟨#[]⟩, .string ⟨#[]⟩, .int .i64 0] by rw [HCC.out]; unfold Cmt.val Cmt.cs; simp only [idsOf_length]; rfl)
    have HMAY := Lib.hid (fun w' (h : Ids w' av i cv (idsOf i X)) => show Calls Tryz.prog 28 #[.agg #[.int .i64 node, .int .i64 S, .int .i64 G, .slice av i cv, .int .i64 0, .string ⟨#[]⟩, .string ⟨#[]⟩, .int .i64 0]] w' (fun e w'' => e = .returned (.bool m) ∧ Below w'.heap.size w' w'') by
     have h2 := cmay_ref cc av cv w' ⟨by rw [HCC.out]; show Ids w' av (idsOf i X).length cv (idsOf i X); rw [idsOf_length]; exact h, HKE.out.1, HKE.out.2⟩
     rw [← hm, HVAL.out] at h2
     exact h2)
    have HM := Lib.hid hm
    clear hm
    have p0 : wr.cell? ⟨bc, 0, none⟩ = some (.int .i64 node) := hC.out.at 0 _ rfl
    have p1 : wr.cell? ⟨bc, 1, none⟩ = some (.int .i64 S) := hC.out.at 1 _ rfl
    have p2 : wr.cell? ⟨bc, 2, none⟩ = some (.int .i64 G) := hC.out.at 2 _ rfl
    have p3 : wr.cell? ⟨bc, 3, none⟩ = some (.slice av i cv) := hC.out.at 3 _ rfl
    have p4 : wr.cell? ⟨bc, 4, none⟩ = some (.int .i64 0) := hC.out.at 4 _ rfl
    have p5 : wr.cell? ⟨bc, 5, none⟩ = some (.string ⟨#[]⟩) := hC.out.at 5 _ rfl
    have p6 : wr.cell? ⟨bc, 6, none⟩ = some (.string ⟨#[]⟩) := hC.out.at 6 _ rfl
    have p7 : wr.cell? ⟨bc, 7, none⟩ = some (.int .i64 0) := hC.out.at 7 _ rfl
    go_wp2_with fail
    refine (HMAY.out _ (HIDS.out _ hO.out)).mono ?_
    rintro e wA ⟨rfl, hb⟩
    obtain ⟨a5, c5, k1, _⟩ := hR.out
    have HZA := Lib.hid (hZ.out.step hb)
    have HBA := Lib.hid (hB.out.step hb)
    have r2 : wA.cell? ⟨br, 1, none⟩ = some (.bool true) := (k1.step hb).at 1 _ rfl
    clear k1 hb p0 p1 p2 p3 p4 p5 p6 p7 r1 HMAY
    have z0 : wA.cell? ⟨bR, 0, none⟩ = some (.int .i64 0) := HZA.out.at 0 _ rfl
    have z1 : wA.cell? ⟨bR, 1, none⟩ = some (.int .i64 0) := HZA.out.at 1 _ rfl
    have z2 : wA.cell? ⟨bR, 2, none⟩ = some (.int .i64 0) := HZA.out.at 2 _ rfl
    have z3 : wA.cell? ⟨bR, 3, none⟩ = some (.slice none 0 0) := HZA.out.at 3 _ rfl
    have z4 : wA.cell? ⟨bR, 4, none⟩ = some (.int .i64 0) := HZA.out.at 4 _ rfl
    have z5 : wA.cell? ⟨bR, 5, none⟩ = some (.string ⟨#[]⟩) := HZA.out.at 5 _ rfl
    have z6 : wA.cell? ⟨bR, 6, none⟩ = some (.string ⟨#[]⟩) := HZA.out.at 6 _ rfl
    have z7 : wA.cell? ⟨bR, 7, none⟩ = some (.int .i64 0) := HZA.out.at 7 _ rfl
    have fz0 : wA.frozen? ⟨bR, 0, none⟩ = false := HZA.out.free 0
    have fz1 : wA.frozen? ⟨bR, 1, none⟩ = false := HZA.out.free 1
    have fz2 : wA.frozen? ⟨bR, 2, none⟩ = false := HZA.out.free 2
    have fz3 : wA.frozen? ⟨bR, 3, none⟩ = false := HZA.out.free 3
    have fz4 : wA.frozen? ⟨bR, 4, none⟩ = false := HZA.out.free 4
    have fz5 : wA.frozen? ⟨bR, 5, none⟩ = false := HZA.out.free 5
    have fz6 : wA.frozen? ⟨bR, 6, none⟩ = false := HZA.out.free 6
    have fz7 : wA.frozen? ⟨bR, 7, none⟩ = false := HZA.out.free 7
    go_wp2_with fail
    generalize hwF : World.setCell (World.setCell (World.setCell (World.setCell (World.setCell (World.setCell (World.setCell (World.setCell wA _ _) _ _) _ _) _ _) _ _) _ _) _ _) _ _ = wF
    have hOF : Only wA wF bR := by rw [← hwF]; exact (((((((only_set _ _ _ _).trans (only_set _ _ _ _)).trans (only_set _ _ _ _)).trans (only_set _ _ _ _)).trans (only_set _ _ _ _)).trans (only_set _ _ _ _)).trans (only_set _ _ _ _)).trans (only_set _ _ _ _)
    have HCF := Lib.hid (show Cel wF bR 41 zeroC by rw [← hwF]; exact (((((((HZA.out.set 0 _).set 1 _).set 2 _).set 3 _).set 4 _).set 5 _).set 6 _).set 7 _)
    have HBF := Lib.hid (hOF.below HBA.out (by have := HX.out; omega))
    clear hwF hOF
    refine bodyPost_ret (v := .tuple #[.agg zeroC.toArray, .slice none 0 0, .int .i64 2]) ?_ rfl (by show CGetF l w _ _; unfold CGetF; rw [HNOC.out]; exact ⟨rfl, HBF.out⟩)
    have hl := run_loadVar_mid (P := Tryz.prog) wF bR 0 41 zeroC _ HCF.out.range Tryz.underlying41 rfl (by kernel_rfl)
    simp [results, Tryz.results46, asAddr, hl, Result.andThen]
   | false =>
    obtain rfl : k = i := by omega
    obtain ⟨hX, hd4, hlr⟩ := hG.out.2 rfl
    subst hX
    have HGC := Lib.hid (HOK.out hd4 hI.out.1)
    rw [← hlr] at HGC
    clear hd4 hlr
    by_cases hm1 : node = -1
    ·have hm' : (node != -1) = false := by simpa using hm1
     have hm2 : decide (node = -1) = true := decide_eq_true hm1
     have HGF := Lib.hid (show getC l = finC ⟨node, S, G, idsOf k X, zeroO⟩ lr from HGC.out.trans (if_pos hm1))
     obtain ⟨a7, c7, k1, k2, k3, k4⟩ := hR.out
     obtain ⟨nr, hnr⟩ : ∃ n, n = lr.length := ⟨_, rfl⟩
     rw [← hnr] at k1 k2 k4
     have HNR := Lib.hid hnr
     have HRD := Lib.hid (And.intro k1 (And.intro k2 (And.intro k3 (show nr ≤ 2000 by have := hI.out.2; omega))))
     clear hm1 k1 k2 k3 k4 hnr
     obtain ⟨cc, hcc⟩ : ∃ cc : Cmt, cc = ⟨node, S, G, idsOf k X, zeroO⟩ := ⟨_, rfl⟩
     have HCC := Lib.hid hcc
     clear hcc
     have HKE := Lib.hid (show cc.op.key.length ≤ 9223372036854775807 ∧ cc.op.elem.length ≤ 9223372036854775807 by rw [HCC.out]; exact ⟨Nat.zero_le _, Nat.zero_le _⟩)
     have HIDS := Lib.hid (show ∀ w', w'.ownsRow (bc + 1) 48 32 (.slice av k cv) k (Bs (X.take (32 * k))) → Ids w' av k cv (idsOf k X) from fun w' h => by
      obtain ⟨a', c', e, h2, _⟩ := Ids.of_own h hI.out.1
      injection e with e1 _ e2
      subst e1 e2
      exact h2)
     obtain ⟨m, hm⟩ : ∃ m, m = mayC cc := ⟨_, rfl⟩
     have HVAL := Lib.hid (show cc.val av cv = .agg #[.int .i64 node, .int .i64 S, .int .i64 G, .slice av k cv, .int .i64 0, .string ⟨#[]⟩, .string ⟨#[]⟩, .int .i64 0] by rw [HCC.out]; unfold Cmt.val Cmt.cs; simp only [idsOf_length]; rfl)
     have HMAY := Lib.hid (fun w' (h : Ids w' av k cv (idsOf k X)) => show Calls Tryz.prog 28 #[.agg #[.int .i64 node, .int .i64 S, .int .i64 G, .slice av k cv, .int .i64 0, .string ⟨#[]⟩, .string ⟨#[]⟩, .int .i64 0]] w' (fun e w'' => e = .returned (.bool m) ∧ Below w'.heap.size w' w'') by
      have h2 := cmay_ref cc av cv w' ⟨by rw [HCC.out]; show Ids w' av (idsOf k X).length cv (idsOf k X); rw [idsOf_length]; exact h, HKE.out.1, HKE.out.2⟩
      rw [← hm, HVAL.out] at h2
      exact h2)
     have HM := Lib.hid hm
     clear hm
     have p0 : wr.cell? ⟨bc, 0, none⟩ = some (.int .i64 node) := hC.out.at 0 _ rfl
     have p1 : wr.cell? ⟨bc, 1, none⟩ = some (.int .i64 S) := hC.out.at 1 _ rfl
     have p2 : wr.cell? ⟨bc, 2, none⟩ = some (.int .i64 G) := hC.out.at 2 _ rfl
     have p3 : wr.cell? ⟨bc, 3, none⟩ = some (.slice av k cv) := hC.out.at 3 _ rfl
     have p4 : wr.cell? ⟨bc, 4, none⟩ = some (.int .i64 0) := hC.out.at 4 _ rfl
     have p5 : wr.cell? ⟨bc, 5, none⟩ = some (.string ⟨#[]⟩) := hC.out.at 5 _ rfl
     have p6 : wr.cell? ⟨bc, 6, none⟩ = some (.string ⟨#[]⟩) := hC.out.at 6 _ rfl
     have p7 : wr.cell? ⟨bc, 7, none⟩ = some (.int .i64 0) := hC.out.at 7 _ rfl
     have r3 : wr.cell? ⟨br, 1, none⟩ = some (.bool false) := HRD.out.1.at 1 _ rfl
     go_wp2_with fail
     refine (HMAY.out _ (HIDS.out _ hO.out)).mono ?_
     rintro e wA ⟨rfl, hb⟩
     have HCA := Lib.hid (hC.out.step hb)
     have HZA := Lib.hid (hZ.out.step hb)
     have HBA := Lib.hid (hB.out.step hb)
     have HRA := Lib.hid (And.intro (HRD.out.1.step hb) (And.intro (HRD.out.2.1.below hb) HRD.out.2.2))
     have HIA := Lib.hid ((HIDS.out _ hO.out).below hb)
     have HFR := Lib.hid (show ∀ x, av = some x → bR < x.block from fun x hx => by have h1 := (hO.out.lt x.block (by rw [hx]; rfl)).1; have := HX.out; omega)
     have r2 : wA.cell? ⟨br, 1, none⟩ = some (.bool false) := HRA.out.1.at 1 _ rfl
     clear hb p0 p1 p2 p3 p4 p5 p6 p7 r3 HMAY
     cases m with
     | false =>
      have HNOC := Lib.hid (show getC l = none by rw [HGF.out, ← HCC.out]; unfold finC; rw [if_neg (by rw [← HM.out]; decide)])
      have z0 : wA.cell? ⟨bR, 0, none⟩ = some (.int .i64 0) := HZA.out.at 0 _ rfl
      have z1 : wA.cell? ⟨bR, 1, none⟩ = some (.int .i64 0) := HZA.out.at 1 _ rfl
      have z2 : wA.cell? ⟨bR, 2, none⟩ = some (.int .i64 0) := HZA.out.at 2 _ rfl
      have z3 : wA.cell? ⟨bR, 3, none⟩ = some (.slice none 0 0) := HZA.out.at 3 _ rfl
      have z4 : wA.cell? ⟨bR, 4, none⟩ = some (.int .i64 0) := HZA.out.at 4 _ rfl
      have z5 : wA.cell? ⟨bR, 5, none⟩ = some (.string ⟨#[]⟩) := HZA.out.at 5 _ rfl
      have z6 : wA.cell? ⟨bR, 6, none⟩ = some (.string ⟨#[]⟩) := HZA.out.at 6 _ rfl
      have z7 : wA.cell? ⟨bR, 7, none⟩ = some (.int .i64 0) := HZA.out.at 7 _ rfl
      have fz0 : wA.frozen? ⟨bR, 0, none⟩ = false := HZA.out.free 0
      have fz1 : wA.frozen? ⟨bR, 1, none⟩ = false := HZA.out.free 1
      have fz2 : wA.frozen? ⟨bR, 2, none⟩ = false := HZA.out.free 2
      have fz3 : wA.frozen? ⟨bR, 3, none⟩ = false := HZA.out.free 3
      have fz4 : wA.frozen? ⟨bR, 4, none⟩ = false := HZA.out.free 4
      have fz5 : wA.frozen? ⟨bR, 5, none⟩ = false := HZA.out.free 5
      have fz6 : wA.frozen? ⟨bR, 6, none⟩ = false := HZA.out.free 6
      have fz7 : wA.frozen? ⟨bR, 7, none⟩ = false := HZA.out.free 7
      go_wp2_with fail
      generalize hwF : World.setCell (World.setCell (World.setCell (World.setCell (World.setCell (World.setCell (World.setCell (World.setCell wA _ _) _ _) _ _) _ _) _ _) _ _) _ _) _ _ = wF
      have hOF : Only wA wF bR := by rw [← hwF]; exact (((((((only_set _ _ _ _).trans (only_set _ _ _ _)).trans (only_set _ _ _ _)).trans (only_set _ _ _ _)).trans (only_set _ _ _ _)).trans (only_set _ _ _ _)).trans (only_set _ _ _ _)).trans (only_set _ _ _ _)
      have HCF := Lib.hid (show Cel wF bR 41 zeroC by rw [← hwF]; exact (((((((HZA.out.set 0 _).set 1 _).set 2 _).set 3 _).set 4 _).set 5 _).set 6 _).set 7 _)
      have HBF := Lib.hid (hOF.below HBA.out (by have := HX.out; omega))
      clear hwF hOF
      refine bodyPost_ret (v := .tuple #[.agg zeroC.toArray, .slice none 0 0, .int .i64 2]) ?_ rfl (by show CGetF l w _ _; unfold CGetF; rw [HNOC.out]; exact ⟨rfl, HBF.out⟩)
      have hl := run_loadVar_mid (P := Tryz.prog) wF bR 0 41 zeroC _ HCF.out.range Tryz.underlying41 rfl (by kernel_rfl)
      simp [results, Tryz.results46, asAddr, hl, Result.andThen]
     | true =>
      have HFS := Lib.hid (show getC l = some (cc, lr) by rw [HGF.out, ← HCC.out]; unfold finC; rw [if_pos HM.out.symm])
      have HSA := Lib.hid (show bR + 3 ≤ wA.heap.size by have h1 := HCA.out.lt; have := HX.out; omega)
      go_upto_region 21 with fail
      clear r2
      have hD : ∀ j, j < 9 → ∀ n, n < 9 → j ≠ n → dkN [94, 95, 96, 97, 98, 99, 1006, 3, 4] j ≠ dkN [94, 95, 96, 97, 98, 99, 1006, 3, 4] n := by decide +kernel
      refine region_fun (by kernel_rfl) (by kernel_rfl) (fun gv => #[gv 0, gv 1, .pointer (some ⟨bR, 0, none⟩), gv 3, gv 4, .pointer (some ⟨br, 0, none⟩), .pointer (some ⟨bc, 0, none⟩), gv 7, gv 8, gv 9, gv 10, gv 11, gv 12, gv 13, gv 14, gv 15, gv 16, gv 17, gv 18, gv 19, gv 20, gv 21, gv 22, gv 23, gv 24, gv 25, gv 26, gv 27, gv 28, gv 29, gv 30, gv 31, gv 32, gv 33, gv 34, gv 35, gv 36, gv 37, gv 38, gv 39, gv 40, gv 41, gv 42, gv 43, gv 44, gv 45, gv 46, gv 47, gv 48, gv 49, gv 50, gv 51, gv 52, gv 53, gv 54, gv 55, gv 56, gv 57, gv 58, gv 59, gv 60, gv 61, gv 62, gv 63, gv 64, gv 65, gv 66, gv 67, gv 68, gv 69, gv 70, gv 71, gv 72, gv 73, gv 74, gv 75, gv 76, gv 77, gv 78, gv 79, gv 80, gv 81, gv 82, gv 83, gv 84, gv 85, gv 86, gv 87, gv 88, gv 89, gv 90, gv 91, gv 92, gv 93, gv 94, gv 95, gv 96, gv 97, gv 98, gv 99]) rfl (fun f gv wx => Below w.heap.size w wx ∧ (∀ j, j < 9 → (fun j => Nat.beq j 5 || Nat.beq j 7 || Nat.beq j 6) j = false → On f j → gv (dkN [94, 95, 96, 97, 98, 99, 1006, 3, 4] j) = vkN [.agg #[.int .i64 node, .int .i64 S, .int .i64 G, .slice av k cv, .int .i64 0, .string ⟨#[]⟩, .string ⟨#[]⟩, .int .i64 0], .pointer (some ⟨br, 0, none⟩), .pointer (some ⟨br, 0, none⟩), .pointer (some ⟨br, 0, none⟩), .slice a7 nr c7, undef, undef, undef, .int .i64 0] j) ∧ ((On f 5 → ∃ a c, gv 99 = .slice a nr c ∧ Rd wx a nr c lr ∧ (a = none → c = 0) ∧ ∀ x, a = some x → bR + 3 ≤ x.block)) ∧ ((On f 7 → ∃ a c, gv 3 = .slice a nr c ∧ Rd wx a nr c lr ∧ (a = none → c = 0) ∧ ∀ x, a = some x → bR + 3 ≤ x.block)) ∧ (Cel wx bc 41 [.int .i64 node, .int .i64 S, .int .i64 G, .slice av k cv, .int .i64 0, .string ⟨#[]⟩, .string ⟨#[]⟩, .int .i64 0]) ∧ ((¬ On f 6 → Cel wx bR 41 zeroC) ∧ (On f 6 → Cel wx bR 41 [.int .i64 node, .int .i64 S, .int .i64 G, .slice av k cv, .int .i64 0, .string ⟨#[]⟩, .string ⟨#[]⟩, .int .i64 0])) ∧ (Cel wx br 70 [.slice a7 nr c7, .bool false]) ∧ (Ids wx av k cv (idsOf k X)) ∧ (Rd wx a7 nr c7 lr) ∧ (bR + 3 ≤ wx.heap.size)) ?_ ?_ ?_
      ·have hoff : ∀ j, ¬ On (Array.replicate 9 false) j := by
        intro j hj; simp only [On, Array.getD_eq_getD_getElem?, Array.getElem?_replicate] at hj; split at hj <;> simp at hj
       exact ⟨HBA.out.drew, fun j _ _ x => absurd x (hoff _), fun x => absurd x (hoff _), fun x => absurd x (hoff _), HCA.out, ⟨fun _ => HZA.out, fun x => absurd x (hoff _)⟩, HRA.out.1, HIA.out.below (Below.refl _ _).drew, HRA.out.2.1.below (Below.refl _ _).drew, HSA.out⟩
      ·rintro i' o' f gv wm hio hs' hn he ⟨hBx, P, Q5, Q7, QA, QZ, QR, QI, QM, SZ⟩ KK hKK
       have hi' : i' < 9 := (Array.getElem?_eq_some_iff.1 hio).1
       replace hs' : f.size = 9 := hs'
       match i', hi' with
       | 0, _ =>
        cases hio
        have off : ¬ On f 0 := on_off (by omega) hn
        have d0 : wm.cell? ⟨bc, 0, none⟩ = some (.int .i64 node) := QA.at 0 _ rfl
        have d1 : wm.cell? ⟨bc, 1, none⟩ = some (.int .i64 S) := QA.at 1 _ rfl
        have d2 : wm.cell? ⟨bc, 2, none⟩ = some (.int .i64 G) := QA.at 2 _ rfl
        have d3 : wm.cell? ⟨bc, 3, none⟩ = some (.slice av k cv) := QA.at 3 _ rfl
        have d4 : wm.cell? ⟨bc, 4, none⟩ = some (.int .i64 0) := QA.at 4 _ rfl
        have d5 : wm.cell? ⟨bc, 5, none⟩ = some (.string ⟨#[]⟩) := QA.at 5 _ rfl
        have d6 : wm.cell? ⟨bc, 6, none⟩ = some (.string ⟨#[]⟩) := QA.at 6 _ rfl
        have d7 : wm.cell? ⟨bc, 7, none⟩ = some (.int .i64 0) := QA.at 7 _ rfl
        have HQ := Lib.hid (And.intro P (And.intro Q5 (And.intro Q7 (And.intro QA (And.intro QZ (And.intro QR (And.intro QI (And.intro QM SZ))))))))
        clear P Q5 Q7 QA QZ QR QI QM SZ
        go_simp
        obtain ⟨P, Q5, Q7, QA, QZ, QR, QI, QM, SZ⟩ := HQ.out
        obtain ⟨bk, fw, fn⟩ := on3 (f := f) (i := 0) (by omega)
        exact hKK (upd gv 94 (.agg #[.int .i64 node, .int .i64 S, .int .i64 G, .slice av k cv, .int .i64 0, .string ⟨#[]⟩, .string ⟨#[]⟩, .int .i64 0])) _ (by exact ⟨hBx, vals_step (n := 0) (v := .agg #[.int .i64 node, .int .i64 S, .int .i64 G, .slice av k cv, .int .i64 0, .string ⟨#[]⟩, .string ⟨#[]⟩, .int .i64 0]) hD (by decide) (by omega) P (fun _ => rfl), fun x => Q5 (bk 5 (by decide) x), fun x => Q7 (bk 7 (by decide) x), QA, ⟨fun x => QZ.1 (fun y => x (fw 6 y)), fun x => QZ.2 (bk 6 (by decide) x)⟩, QR, QI, QM, SZ⟩)
       | 1, _ =>
        cases hio
        have off : ¬ On f 1 := on_off (by omega) hn
        have HQ := Lib.hid (And.intro P (And.intro Q5 (And.intro Q7 (And.intro QA (And.intro QZ (And.intro QR (And.intro QI (And.intro QM SZ))))))))
        clear P Q5 Q7 QA QZ QR QI QM SZ
        go_simp
        obtain ⟨P, Q5, Q7, QA, QZ, QR, QI, QM, SZ⟩ := HQ.out
        obtain ⟨bk, fw, fn⟩ := on3 (f := f) (i := 1) (by omega)
        exact hKK (upd gv 95 (.pointer (some ⟨br, 0, none⟩))) _ (by exact ⟨hBx, vals_step (n := 1) (v := .pointer (some ⟨br, 0, none⟩)) hD (by decide) (by omega) P (fun _ => rfl), fun x => Q5 (bk 5 (by decide) x), fun x => Q7 (bk 7 (by decide) x), QA, ⟨fun x => QZ.1 (fun y => x (fw 6 y)), fun x => QZ.2 (bk 6 (by decide) x)⟩, QR, QI, QM, SZ⟩)
       | 2, _ =>
        cases hio
        have off : ¬ On f 2 := on_off (by omega) hn
        have h1 : On f 1 := he ⟨1, .data⟩ (by simp) rfl
        have e1 : gv 95 = .pointer (some ⟨br, 0, none⟩) := P 1 (by decide) rfl h1
        rw [e1]
        have HQ := Lib.hid (And.intro P (And.intro Q5 (And.intro Q7 (And.intro QA (And.intro QZ (And.intro QR (And.intro QI (And.intro QM SZ))))))))
        clear P Q5 Q7 QA QZ QR QI QM SZ
        go_simp
        obtain ⟨P, Q5, Q7, QA, QZ, QR, QI, QM, SZ⟩ := HQ.out
        obtain ⟨bk, fw, fn⟩ := on3 (f := f) (i := 2) (by omega)
        exact hKK (upd (upd gv 95 (.pointer (some ⟨br, 0, none⟩))) 96 (.pointer (some ⟨br, 0, none⟩))) _ (by rw [upd_same e1]; exact ⟨hBx, vals_step (n := 2) (v := .pointer (some ⟨br, 0, none⟩)) hD (by decide) (by omega) P (fun _ => rfl), fun x => Q5 (bk 5 (by decide) x), fun x => Q7 (bk 7 (by decide) x), QA, ⟨fun x => QZ.1 (fun y => x (fw 6 y)), fun x => QZ.2 (bk 6 (by decide) x)⟩, QR, QI, QM, SZ⟩)
       | 3, _ =>
        cases hio
        have off : ¬ On f 3 := on_off (by omega) hn
        have h2 : On f 2 := he ⟨2, .data⟩ (by simp) rfl
        have e2 : gv 96 = .pointer (some ⟨br, 0, none⟩) := P 2 (by decide) rfl h2
        rw [e2]
        have HQ := Lib.hid (And.intro P (And.intro Q5 (And.intro Q7 (And.intro QA (And.intro QZ (And.intro QR (And.intro QI (And.intro QM SZ))))))))
        clear P Q5 Q7 QA QZ QR QI QM SZ
        go_simp
        obtain ⟨P, Q5, Q7, QA, QZ, QR, QI, QM, SZ⟩ := HQ.out
        obtain ⟨bk, fw, fn⟩ := on3 (f := f) (i := 3) (by omega)
        exact hKK (upd (upd gv 96 (.pointer (some ⟨br, 0, none⟩))) 97 (.pointer (some ⟨br, 0, none⟩))) _ (by rw [upd_same e2]; exact ⟨hBx, vals_step (n := 3) (v := .pointer (some ⟨br, 0, none⟩)) hD (by decide) (by omega) P (fun _ => rfl), fun x => Q5 (bk 5 (by decide) x), fun x => Q7 (bk 7 (by decide) x), QA, ⟨fun x => QZ.1 (fun y => x (fw 6 y)), fun x => QZ.2 (bk 6 (by decide) x)⟩, QR, QI, QM, SZ⟩)
       | 4, _ =>
        cases hio
        have off : ¬ On f 4 := on_off (by omega) hn
        have h3 : On f 3 := he ⟨3, .data⟩ (by simp) rfl
        have e3 : gv 97 = .pointer (some ⟨br, 0, none⟩) := P 3 (by decide) rfl h3
        have d0 : wm.cell? ⟨br, 0, none⟩ = some (.slice a7 nr c7) := QR.at 0 _ rfl
        rw [e3]
        have HQ := Lib.hid (And.intro P (And.intro Q5 (And.intro Q7 (And.intro QA (And.intro QZ (And.intro QR (And.intro QI (And.intro QM SZ))))))))
        clear P Q5 Q7 QA QZ QR QI QM SZ
        go_simp
        obtain ⟨P, Q5, Q7, QA, QZ, QR, QI, QM, SZ⟩ := HQ.out
        obtain ⟨bk, fw, fn⟩ := on3 (f := f) (i := 4) (by omega)
        exact hKK (upd (upd gv 97 (.pointer (some ⟨br, 0, none⟩))) 98 (.slice a7 nr c7)) _ (by rw [upd_same e3]; exact ⟨hBx, vals_step (n := 4) (v := .slice a7 nr c7) hD (by decide) (by omega) P (fun _ => rfl), fun x => Q5 (bk 5 (by decide) x), fun x => Q7 (bk 7 (by decide) x), QA, ⟨fun x => QZ.1 (fun y => x (fw 6 y)), fun x => QZ.2 (bk 6 (by decide) x)⟩, QR, QI, QM, SZ⟩)
       | 5, _ =>
        cases hio
        have off : ¬ On f 5 := on_off (by omega) hn
        have h4 : On f 4 := he ⟨4, .data⟩ (by simp) rfl
        have e4 : gv 98 = .slice a7 nr c7 := P 4 (by decide) rfl h4
        have SZs := SZ
        obtain ⟨v8, w6, hrun, ho8, hb⟩ := app_own (l := []) (World.ownsRow_nil wm wm.heap.size 5 1) (Below.refl _ _) QM HRA.out.2.2.1 (by have := HRA.out.2.2.2; simp only [List.length_nil]; omega)
        rw [List.nil_append] at ho8
        have hz8 := fun a n c (h : v8 = .slice a n c) => own_none (h ▸ ho8)
        have hlo8 := fun k hk => (ho8.lt k hk).1
        obtain ⟨a8, c8, rfl, hr8⟩ := Rd.of_own ho8
        rw [← HNR.out] at hr8 hrun
        have hz8 := hz8 a8 _ c8 rfl
        have hf8 : ∀ x, a8 = some x → bR + 3 ≤ x.block := fun x hx => by
         have h1 := hlo8 x.block (by rw [hx]; rfl)
         omega
        rw [e4]
        have HQ := Lib.hid (And.intro P (And.intro Q5 (And.intro Q7 (And.intro QA (And.intro QZ (And.intro QR (And.intro QI (And.intro QM SZ))))))))
        clear P Q5 Q7 QA QZ QR QI QM SZ
        refine app_run_at (by rfl) (.const (.slice none 0 0)) (.tmp 98) 28 rfl (by rfl) (by rfl) hrun ?_
        simp only [Act.put, List.setIfInBounds_toArray]
        obtain ⟨P, Q5, Q7, QA, QZ, QR, QI, QM, SZ⟩ := HQ.out
        obtain ⟨bk, fw, fn⟩ := on3 (f := f) (i := 5) (by omega)
        exact hKK (upd (upd gv 98 (.slice a7 nr c7)) 99 (.slice a8 nr c8)) _ (by rw [upd_same e4]; exact ⟨hBx.step hb, vals_step (n := 5) (v := .slice a8 nr c8) hD (by decide) (by omega) P (fun h => nomatch (show true = false from h)), fun _ => ⟨a8, c8, rfl, hr8, hz8, hf8⟩, fun x => by obtain ⟨a9, c9, e9, hr9, hz9, hf9⟩ := Q7 (bk 7 (by decide) x); exact ⟨_, _, e9, hr9.below hb, hz9, hf9⟩, QA.step hb, ⟨fun x => (QZ.1 (fun y => x (fw 6 y))).step hb, fun x => (QZ.2 (bk 6 (by decide) x)).step hb⟩, QR.step hb, QI.below hb, QM.below hb, Nat.le_trans SZ hb.size⟩)
       | 6, _ =>
        cases hio
        have off : ¬ On f 6 := on_off (by omega) hn
        have h0 : On f 0 := he ⟨0, .data⟩ (by simp) rfl
        have e0 : gv 94 = .agg #[.int .i64 node, .int .i64 S, .int .i64 G, .slice av k cv, .int .i64 0, .string ⟨#[]⟩, .string ⟨#[]⟩, .int .i64 0] := P 0 (by decide) rfl h0
        have hq := QZ.1 off
        have hap := QM.apart hq (by intro v hv z; simp only [zeroC, List.mem_cons, List.not_mem_nil, or_false] at hv; rcases hv with rfl | rfl | rfl | rfl | rfl | rfl | rfl | rfl <;> exact fun h => nomatch h)
        rw [e0]
        have HQ := Lib.hid (And.intro P (And.intro Q5 (And.intro Q7 (And.intro QA (And.intro QZ (And.intro QR (And.intro QI (And.intro QM SZ))))))))
        clear P Q5 Q7 QA QZ QR QI QM SZ
        refine cel_store (by rfl) rfl 41 (.tmp 2) (.tmp 94) rfl (by rfl) [.int .i64 node, .int .i64 S, .int .i64 G, .slice av k cv, .int .i64 0, .string ⟨#[]⟩, .string ⟨#[]⟩, .int .i64 0] (by rfl) hq rfl info_cm (by intro v hv; simp only [List.mem_cons, List.not_mem_nil, or_false] at hv; rcases hv with rfl | rfl | rfl | rfl | rfl | rfl | rfl | rfl <;> rfl) ?_
        intro w6 hc6 ho6
        have hxx := HX.out
        obtain ⟨P, Q5, Q7, QA, QZ, QR, QI, QM, SZ⟩ := HQ.out
        obtain ⟨bk, fw, fn⟩ := on3 (f := f) (i := 6) (by omega)
        exact hKK (upd gv 94 (.agg #[.int .i64 node, .int .i64 S, .int .i64 G, .slice av k cv, .int .i64 0, .string ⟨#[]⟩, .string ⟨#[]⟩, .int .i64 0])) _ (by rw [upd_same e0]; exact ⟨ho6.below hBx (by omega), vals_keep (n := 6) (by omega) rfl P, fun x => by obtain ⟨a8, c8, e9, g2, g3, g4⟩ := Q5 (bk 5 (by decide) x); exact ⟨_, _, e9, g2.only' ho6 (fun y hy _ => by have := g4 y hy; omega), g3, g4⟩, fun x => by obtain ⟨a9, c9, e9, g2, g3, g4⟩ := Q7 (bk 7 (by decide) x); exact ⟨_, _, e9, g2.only' ho6 (fun y hy _ => by have := g4 y hy; omega), g3, g4⟩, ho6.heap QA (by omega), ⟨fun x => absurd fn x, fun _ => hc6⟩, ho6.heap QR (by omega), QI.only ho6 (fun y hy => by have := HFR.out y hy; omega), QM.only' ho6 hap, by rw [ho6.size]; exact SZ⟩)
       | 7, _ =>
        cases hio
        have off : ¬ On f 7 := on_off (by omega) hn
        have h5 : On f 5 := he ⟨5, .data⟩ (by simp) rfl
        obtain ⟨a8, c8, e5, hr8, hz8, hf8⟩ := Q5 h5
        rw [e5]
        have HQ := Lib.hid (And.intro P (And.intro Q5 (And.intro Q7 (And.intro QA (And.intro QZ (And.intro QR (And.intro QI (And.intro QM SZ))))))))
        clear P Q5 Q7 QA QZ QR QI QM SZ
        go_simp
        obtain ⟨P, Q5, Q7, QA, QZ, QR, QI, QM, SZ⟩ := HQ.out
        obtain ⟨bk, fw, fn⟩ := on3 (f := f) (i := 7) (by omega)
        exact hKK (upd (upd gv 99 (.slice a8 nr c8)) 3 (.slice a8 nr c8)) _ (by rw [upd_same e5]; exact ⟨hBx, vals_step (n := 7) (v := .slice a8 nr c8) hD (by decide) (by omega) P (fun h => nomatch (show true = false from h)), fun x => Q5 (bk 5 (by decide) x), fun _ => ⟨a8, c8, rfl, hr8, hz8, hf8⟩, QA, ⟨fun x => QZ.1 (fun y => x (fw 6 y)), fun x => QZ.2 (bk 6 (by decide) x)⟩, QR, QI, QM, SZ⟩)
       | 8, _ =>
        cases hio
        have off : ¬ On f 8 := on_off (by omega) hn
        have HQ := Lib.hid (And.intro P (And.intro Q5 (And.intro Q7 (And.intro QA (And.intro QZ (And.intro QR (And.intro QI (And.intro QM SZ))))))))
        clear P Q5 Q7 QA QZ QR QI QM SZ
        go_simp
        obtain ⟨P, Q5, Q7, QA, QZ, QR, QI, QM, SZ⟩ := HQ.out
        obtain ⟨bk, fw, fn⟩ := on3 (f := f) (i := 8) (by omega)
        exact hKK (upd gv 4 (.int .i64 0)) _ (by exact ⟨hBx, vals_step (n := 8) (v := .int .i64 0) hD (by decide) (by omega) P (fun _ => rfl), fun x => Q5 (bk 5 (by decide) x), fun x => Q7 (bk 7 (by decide) x), QA, ⟨fun x => QZ.1 (fun y => x (fw 6 y)), fun x => QZ.2 (bk 6 (by decide) x)⟩, QR, QI, QM, SZ⟩)
      ·rintro f gv w5 hall hs' ⟨hBx, P, Q5, Q7, QA, QZ, QR, QI, QM, SZ⟩
       replace hs' : f.size = 9 := hs'
       have on : ∀ j, j < 9 → On f j := fun j hj => on_all hall hs' j hj
       obtain ⟨a9, c9, e9, hr9, hz9, hf9⟩ := Q7 (on 7 (by decide))
       have e8 : gv 4 = .int .i64 0 := P 8 (by decide) rfl (on 8 (by decide))
       rw [e9, e8]
       have HCF := Lib.hid (QZ.2 (on 6 (by decide)))
       have HEND := Lib.hid (show CGetF l w (.returned (.tuple #[.agg #[.int .i64 node, .int .i64 S, .int .i64 G, .slice av k cv, .int .i64 0, .string ⟨#[]⟩, .string ⟨#[]⟩, .int .i64 0], .slice a9 nr c9, .int .i64 0])) w5 by
        unfold CGetF
        rw [HFS.out]
        exact ⟨av, cv, a9, c9, by rw [HVAL.out, ← HNR.out], ⟨by rw [HCC.out]; show Ids w5 av (idsOf k X).length cv (idsOf k X); rw [idsOf_length]; exact QI, HKE.out.1, HKE.out.2⟩, by rw [← HNR.out]; exact hr9, hz9, hBx, fun x hx => by have h1 := HFR.out x hx; have := HX.out; omega⟩)
       clear P Q5 Q7 QA QZ QR QI QM SZ hBx hall hs' on hD hr9 hz9 hf9 e9 e8
       go_wp2_with fail
       refine bodyPost_ret (v := .tuple #[.agg #[.int .i64 node, .int .i64 S, .int .i64 G, .slice av k cv, .int .i64 0, .string ⟨#[]⟩, .string ⟨#[]⟩, .int .i64 0], .slice a9 nr c9, .int .i64 0]) ?_ rfl HEND.out
       have hl := run_loadVar_mid (P := Tryz.prog) w5 bR 0 41 _ _ HCF.out.range Tryz.underlying41 rfl (by kernel_rfl)
       simp [results, Tryz.results46, asAddr, hl, Result.andThen]
    ·have hm' : (node != -1) = true := by simpa using hm1
     have hm2 : decide (node = -1) = false := decide_eq_false hm1
     have HGC2 := Lib.hid (HGC.out.trans (if_neg hm1))
     obtain ⟨a5, c5, k1, k2, k3, k4⟩ := hR.out
     have HOG := Lib.hid (opget_ref a5 lr.length c5 lr wr k2 k3 (by have := hI.out.2; omega))
     unfold GetP at HOG
     have HBR := Lib.hid k1
     obtain ⟨n5, hn5⟩ : ∃ n5, n5 = lr.length := ⟨_, rfl⟩
     rw [← hn5] at HOG HBR k1
     have r0 : wr.cell? ⟨br, 0, none⟩ = some (.slice a5 n5 c5) := k1.at 0 _ rfl
     have p0 : wr.cell? ⟨bc, 0, none⟩ = some (.int .i64 node) := hC.out.at 0 _ rfl
     clear k1 k2 k3 k4
     cases ho : getO lr with
     | none =>
      have HNOC := Lib.hid (show getC l = none by rw [HGC2.out, ho])
      simp only [ho] at HOG
      clear ho hn5 hm1
      go_wp2_with fail
      refine HOG.out.mono ?_
      rintro e w8 ⟨rfl, hb⟩
      unfold zeroOp
      have HZ8 := Lib.hid (hZ.out.step hb)
      have HB8 := Lib.hid (hB.out.step hb)
      clear hb p0 r0 r1
      go_upto_region 14 with fail
      generalize hw9 : w8.alloc (.cells _ _) = w9
      have hb89 : Below w8.heap.size w8 w9 := by rw [← hw9]; exact (Below.refl _ _).alloc (Nat.le_refl _) _
      have HZ9 := Lib.hid (HZ8.out.step hb89)
      have HB9 := Lib.hid (HB8.out.step hb89)
      clear hw9 hb89
      have z0 : w9.cell? ⟨bR, 0, none⟩ = some (.int .i64 0) := HZ9.out.at 0 _ rfl
      have z1 : w9.cell? ⟨bR, 1, none⟩ = some (.int .i64 0) := HZ9.out.at 1 _ rfl
      have z2 : w9.cell? ⟨bR, 2, none⟩ = some (.int .i64 0) := HZ9.out.at 2 _ rfl
      have z3 : w9.cell? ⟨bR, 3, none⟩ = some (.slice none 0 0) := HZ9.out.at 3 _ rfl
      have z4 : w9.cell? ⟨bR, 4, none⟩ = some (.int .i64 0) := HZ9.out.at 4 _ rfl
      have z5 : w9.cell? ⟨bR, 5, none⟩ = some (.string ⟨#[]⟩) := HZ9.out.at 5 _ rfl
      have z6 : w9.cell? ⟨bR, 6, none⟩ = some (.string ⟨#[]⟩) := HZ9.out.at 6 _ rfl
      have z7 : w9.cell? ⟨bR, 7, none⟩ = some (.int .i64 0) := HZ9.out.at 7 _ rfl
      have fz0 : w9.frozen? ⟨bR, 0, none⟩ = false := HZ9.out.free 0
      have fz1 : w9.frozen? ⟨bR, 1, none⟩ = false := HZ9.out.free 1
      have fz2 : w9.frozen? ⟨bR, 2, none⟩ = false := HZ9.out.free 2
      have fz3 : w9.frozen? ⟨bR, 3, none⟩ = false := HZ9.out.free 3
      have fz4 : w9.frozen? ⟨bR, 4, none⟩ = false := HZ9.out.free 4
      have fz5 : w9.frozen? ⟨bR, 5, none⟩ = false := HZ9.out.free 5
      have fz6 : w9.frozen? ⟨bR, 6, none⟩ = false := HZ9.out.free 6
      have fz7 : w9.frozen? ⟨bR, 7, none⟩ = false := HZ9.out.free 7
      go_wp2_with fail
      generalize hwF : World.setCell (World.setCell (World.setCell (World.setCell (World.setCell (World.setCell (World.setCell (World.setCell w9 _ _) _ _) _ _) _ _) _ _) _ _) _ _) _ _ = wF
      have hOF : Only w9 wF bR := by rw [← hwF]; exact (((((((only_set _ _ _ _).trans (only_set _ _ _ _)).trans (only_set _ _ _ _)).trans (only_set _ _ _ _)).trans (only_set _ _ _ _)).trans (only_set _ _ _ _)).trans (only_set _ _ _ _)).trans (only_set _ _ _ _)
      have HCF := Lib.hid (show Cel wF bR 41 zeroC by rw [← hwF]; exact (((((((HZ9.out.set 0 _).set 1 _).set 2 _).set 3 _).set 4 _).set 5 _).set 6 _).set 7 _)
      have HBF := Lib.hid (hOF.below HB9.out (by have := HX.out; omega))
      clear hwF hOF
      refine bodyPost_ret (v := .tuple #[.agg zeroC.toArray, .slice none 0 0, .int .i64 2]) ?_ rfl (by show CGetF l w _ _; unfold CGetF; rw [HNOC.out]; exact ⟨rfl, HBF.out⟩)
      have hl := run_loadVar_mid (P := Tryz.prog) wF bR 0 41 zeroC _ HCF.out.range Tryz.underlying41 rfl (by kernel_rfl)
      simp [results, Tryz.results46, asAddr, hl, Result.andThen]
     | some q =>
      obtain ⟨o, r⟩ := q
      obtain ⟨hmo, hro⟩ := get_got ho
      have hro2 : r.length ≤ lr.length := by rw [← hro, List.length_append]; omega
      simp only [ho] at HOG
      have HGF := Lib.hid (show getC l = finC ⟨node, S, G, idsOf k X, o⟩ r by rw [HGC2.out, ho])
      have hle := mayB_lens hmo
      obtain ⟨kind, key, elem, num⟩ := o
      unfold Opn.val at HOG
      simp only at HOG hle
      obtain ⟨s1, hs1⟩ : ∃ s : ByteArray, s = ⟨key.toArray⟩ := ⟨_, rfl⟩
      obtain ⟨s2, hs2⟩ : ∃ s : ByteArray, s = ⟨elem.toArray⟩ := ⟨_, rfl⟩
      rw [← hs1, ← hs2] at HOG
      have HSS := Lib.hid (And.intro hs1 hs2)
      have HLE := Lib.hid (show key.length ≤ 9223372036854775807 ∧ elem.length ≤ 9223372036854775807 by omega)
      obtain ⟨nr, hnr⟩ : ∃ nr, nr = r.length := ⟨_, rfl⟩
      rw [← hnr] at HOG
      have HNR := Lib.hid hnr
      have HNR2 := Lib.hid (show nr ≤ 2000 by have := hI.out.2; omega)
      clear hle hs1 hs2 hnr hro2 ho hro hmo hn5 hm1
      go_wp2_with fail
      refine HOG.out.mono ?_
      rintro e w8 ⟨a6, c6, rfl, hr6, hz6, hb⟩
      have HR8 := Lib.hid (And.intro hr6 hz6)
      have HC8 := Lib.hid (hC.out.step hb)
      have HBR8 := Lib.hid (HBR.out.step hb)
      have HZ8 := Lib.hid (hZ.out.step hb)
      have HB8 := Lib.hid (hB.out.step hb)
      have HO8 := Lib.hid (ownsRow_id_low hO.out fun k hk => hb.block k (hO.out.lt k hk).2)
      clear hb hr6 hz6 p0 r0 r1 HOG
      go_upto_region 14 with fail
      have hD0 := Cel.new w8 39 [.int .i64 kind, .string s1, .string s2, .int .i64 num]
      obtain ⟨b3, hb3⟩ : ∃ b3, b3 = w8.heap.size := ⟨_, rfl⟩
      rw [← hb3] at hD0 ⊢
      generalize hw9 : w8.alloc (.cells _ _) = w9
      have hb89 : Below w8.heap.size w8 w9 := by rw [← hw9]; exact (Below.refl _ _).alloc (Nat.le_refl _) _
      have HD9 := Lib.hid (show Cel w9 b3 39 [.int .i64 kind, .string s1, .string s2, .int .i64 num] by rw [← hw9]; exact hD0)
      have HC9 := Lib.hid (HC8.out.step hb89)
      have HBR9 := Lib.hid (HBR8.out.step hb89)
      have HZ9 := Lib.hid (HZ8.out.step hb89)
      have HB9 := Lib.hid (HB8.out.step hb89)
      have HO9 := Lib.hid (ownsRow_id_low HO8.out fun k hk => hb89.block k (HO8.out.lt k hk).2)
      have HR9 := Lib.hid (And.intro (HR8.out.1.below hb89) HR8.out.2)
      have hq0 : w9.cell? ⟨b3, 0, none⟩ = some (.int .i64 kind) := HD9.out.at 0 _ rfl
      have hq1 : w9.cell? ⟨b3, 1, none⟩ = some (.string s1) := HD9.out.at 1 _ rfl
      have hq2 : w9.cell? ⟨b3, 2, none⟩ = some (.string s2) := HD9.out.at 2 _ rfl
      have hq3 : w9.cell? ⟨b3, 3, none⟩ = some (.int .i64 num) := HD9.out.at 3 _ rfl
      have r0 : w9.cell? ⟨br, 0, none⟩ = some (.slice a5 n5 c5) := HBR9.out.at 0 _ rfl
      have fr0 : w9.frozen? ⟨br, 0, none⟩ = false := HBR9.out.free 0
      clear hD0 hb3 hw9 hb89
      have p4 : w9.cell? ⟨bc, 4, none⟩ = some (.int .i64 0) := HC9.out.at 4 _ rfl
      have p5 : w9.cell? ⟨bc, 5, none⟩ = some (.string ⟨#[]⟩) := HC9.out.at 5 _ rfl
      have p6 : w9.cell? ⟨bc, 6, none⟩ = some (.string ⟨#[]⟩) := HC9.out.at 6 _ rfl
      have p7 : w9.cell? ⟨bc, 7, none⟩ = some (.int .i64 0) := HC9.out.at 7 _ rfl
      have f4 : w9.frozen? ⟨bc, 4, none⟩ = false := HC9.out.free 4
      have f5 : w9.frozen? ⟨bc, 5, none⟩ = false := HC9.out.free 5
      have f6 : w9.frozen? ⟨bc, 6, none⟩ = false := HC9.out.free 6
      have f7 : w9.frozen? ⟨bc, 7, none⟩ = false := HC9.out.free 7
      go_upto_region 18 with fail
      generalize hwX : World.setCell (World.setCell (World.setCell (World.setCell w9 _ _) _ _) _ _) _ _ = wX
      have hOX : Only w9 wX bc := by rw [← hwX]; exact (((only_set _ _ _ _).trans (only_set _ _ _ _)).trans (only_set _ _ _ _)).trans (only_set _ _ _ _)
      have hCX : Cel wX bc 41 [.int .i64 node, .int .i64 S, .int .i64 G, .slice av k cv, .int .i64 kind, .string s1, .string s2, .int .i64 num] := by rw [← hwX]; exact (((HC9.out.set 4 _).set 5 _).set 6 _).set 7 _
      have hBX : Cel wX br 70 [.slice a5 n5 c5, .bool false] := hOX.heap HBR9.out (by have := HX.out; omega)
      have hap1 := HR9.out.1.apart HC9.out (by intro v hv z; simp only [List.mem_cons, List.not_mem_nil, or_false] at hv; rcases hv with rfl | rfl | rfl | rfl | rfl | rfl | rfl | rfl <;> exact fun h => nomatch h)
      have hRX : Rd wX a6 nr c6 r := HR9.out.1.only' hOX hap1
      have hap2 := hRX.apart hBX (by intro v hv z; simp only [List.mem_cons, List.not_mem_nil, or_false] at hv; rcases hv with rfl | rfl <;> exact fun h => nomatch h)
      clear hwX
      generalize hwY : World.setCell wX _ _ = wY
      have hOY : Only wX wY br := by rw [← hwY]; exact only_set _ _ _ _
      have HCY := Lib.hid (show Cel wY bc 41 [.int .i64 node, .int .i64 S, .int .i64 G, .slice av k cv, .int .i64 kind, .string s1, .string s2, .int .i64 num] from hOY.heap hCX (by have := HX.out; omega))
      have HRD := Lib.hid (And.intro (show Cel wY br 70 [.slice a6 nr c6, .bool false] by rw [← hwY]; exact hBX.set 0 _) (And.intro (hRX.only' hOY hap2) (And.intro HR9.out.2 HNR2.out)))
      have HZY := Lib.hid (show Cel wY bR 41 zeroC from hOY.heap (hOX.heap HZ9.out (by have := HX.out; omega)) (by have := HX.out; omega))
      have HBY := Lib.hid (hOY.below (hOX.below HB9.out (by have := HX.out; omega)) (by have := HX.out; omega))
      have HOY := Lib.hid (ownsRow_id_low (ownsRow_id_low HO9.out fun k hk => hOX.block k (by have := (HO9.out.lt k hk).1; omega)) fun k hk => hOY.block k (by have := (HO9.out.lt k hk).1; have := HX.out; omega))
      clear hOX hCX hBX hwY hOY hRX hap1 hap2 p4 p5 p6 p7 f4 f5 f6 f7 hq0 hq1 hq2 hq3 r0 fr0
      obtain ⟨cc, hcc⟩ : ∃ cc : Cmt, cc = ⟨node, S, G, idsOf k X, ⟨kind, key, elem, num⟩⟩ := ⟨_, rfl⟩
      have HCC := Lib.hid hcc
      clear hcc
      have HKE := Lib.hid (show cc.op.key.length ≤ 9223372036854775807 ∧ cc.op.elem.length ≤ 9223372036854775807 by rw [HCC.out]; exact HLE.out)
      have HIDS := Lib.hid (show ∀ w', w'.ownsRow (bc + 1) 48 32 (.slice av k cv) k (Bs (X.take (32 * k))) → Ids w' av k cv (idsOf k X) from fun w' h => by
       obtain ⟨a', c', e, h2, _⟩ := Ids.of_own h hI.out.1
       injection e with e1 _ e2
       subst e1 e2
       exact h2)
      obtain ⟨m, hm⟩ : ∃ m, m = mayC cc := ⟨_, rfl⟩
      have HVAL := Lib.hid (show cc.val av cv = .agg #[.int .i64 node, .int .i64 S, .int .i64 G, .slice av k cv, .int .i64 kind, .string s1, .string s2, .int .i64 num] by rw [HCC.out]; unfold Cmt.val Cmt.cs; simp only [idsOf_length]; rw [HSS.out.1, HSS.out.2])
      have HMAY := Lib.hid (fun w' (h : Ids w' av k cv (idsOf k X)) => show Calls Tryz.prog 28 #[.agg #[.int .i64 node, .int .i64 S, .int .i64 G, .slice av k cv, .int .i64 kind, .string s1, .string s2, .int .i64 num]] w' (fun e w'' => e = .returned (.bool m) ∧ Below w'.heap.size w' w'') by
       have h2 := cmay_ref cc av cv w' ⟨by rw [HCC.out]; show Ids w' av (idsOf k X).length cv (idsOf k X); rw [idsOf_length]; exact h, HKE.out.1, HKE.out.2⟩
       rw [← hm, HVAL.out] at h2
       exact h2)
      have HM := Lib.hid hm
      clear hm
      have p0 : wY.cell? ⟨bc, 0, none⟩ = some (.int .i64 node) := HCY.out.at 0 _ rfl
      have p1 : wY.cell? ⟨bc, 1, none⟩ = some (.int .i64 S) := HCY.out.at 1 _ rfl
      have p2 : wY.cell? ⟨bc, 2, none⟩ = some (.int .i64 G) := HCY.out.at 2 _ rfl
      have p3 : wY.cell? ⟨bc, 3, none⟩ = some (.slice av k cv) := HCY.out.at 3 _ rfl
      have p4 : wY.cell? ⟨bc, 4, none⟩ = some (.int .i64 kind) := HCY.out.at 4 _ rfl
      have p5 : wY.cell? ⟨bc, 5, none⟩ = some (.string s1) := HCY.out.at 5 _ rfl
      have p6 : wY.cell? ⟨bc, 6, none⟩ = some (.string s2) := HCY.out.at 6 _ rfl
      have p7 : wY.cell? ⟨bc, 7, none⟩ = some (.int .i64 num) := HCY.out.at 7 _ rfl
      have r3 : wY.cell? ⟨br, 1, none⟩ = some (.bool false) := HRD.out.1.at 1 _ rfl
      go_wp2_with fail
      refine (HMAY.out _ (HIDS.out _ HOY.out)).mono ?_
      rintro e wA ⟨rfl, hb⟩
      have HCA := Lib.hid (HCY.out.step hb)
      have HZA := Lib.hid (HZY.out.step hb)
      have HBA := Lib.hid (HBY.out.step hb)
      have HRA := Lib.hid (And.intro (HRD.out.1.step hb) (And.intro (HRD.out.2.1.below hb) HRD.out.2.2))
      have HIA := Lib.hid ((HIDS.out _ HOY.out).below hb)
      have HFR := Lib.hid (show ∀ x, av = some x → bR < x.block from fun x hx => by have h1 := (HOY.out.lt x.block (by rw [hx]; rfl)).1; have := HX.out; omega)
      have r2 : wA.cell? ⟨br, 1, none⟩ = some (.bool false) := HRA.out.1.at 1 _ rfl
      clear hb p0 p1 p2 p3 p4 p5 p6 p7 r3 HMAY
      cases m with
      | false =>
       have HNOC := Lib.hid (show getC l = none by rw [HGF.out, ← HCC.out]; unfold finC; rw [if_neg (by rw [← HM.out]; decide)])
       have z0 : wA.cell? ⟨bR, 0, none⟩ = some (.int .i64 0) := HZA.out.at 0 _ rfl
       have z1 : wA.cell? ⟨bR, 1, none⟩ = some (.int .i64 0) := HZA.out.at 1 _ rfl
       have z2 : wA.cell? ⟨bR, 2, none⟩ = some (.int .i64 0) := HZA.out.at 2 _ rfl
       have z3 : wA.cell? ⟨bR, 3, none⟩ = some (.slice none 0 0) := HZA.out.at 3 _ rfl
       have z4 : wA.cell? ⟨bR, 4, none⟩ = some (.int .i64 0) := HZA.out.at 4 _ rfl
       have z5 : wA.cell? ⟨bR, 5, none⟩ = some (.string ⟨#[]⟩) := HZA.out.at 5 _ rfl
       have z6 : wA.cell? ⟨bR, 6, none⟩ = some (.string ⟨#[]⟩) := HZA.out.at 6 _ rfl
       have z7 : wA.cell? ⟨bR, 7, none⟩ = some (.int .i64 0) := HZA.out.at 7 _ rfl
       have fz0 : wA.frozen? ⟨bR, 0, none⟩ = false := HZA.out.free 0
       have fz1 : wA.frozen? ⟨bR, 1, none⟩ = false := HZA.out.free 1
       have fz2 : wA.frozen? ⟨bR, 2, none⟩ = false := HZA.out.free 2
       have fz3 : wA.frozen? ⟨bR, 3, none⟩ = false := HZA.out.free 3
       have fz4 : wA.frozen? ⟨bR, 4, none⟩ = false := HZA.out.free 4
       have fz5 : wA.frozen? ⟨bR, 5, none⟩ = false := HZA.out.free 5
       have fz6 : wA.frozen? ⟨bR, 6, none⟩ = false := HZA.out.free 6
       have fz7 : wA.frozen? ⟨bR, 7, none⟩ = false := HZA.out.free 7
       go_wp2_with fail
       generalize hwF : World.setCell (World.setCell (World.setCell (World.setCell (World.setCell (World.setCell (World.setCell (World.setCell wA _ _) _ _) _ _) _ _) _ _) _ _) _ _) _ _ = wF
       have hOF : Only wA wF bR := by rw [← hwF]; exact (((((((only_set _ _ _ _).trans (only_set _ _ _ _)).trans (only_set _ _ _ _)).trans (only_set _ _ _ _)).trans (only_set _ _ _ _)).trans (only_set _ _ _ _)).trans (only_set _ _ _ _)).trans (only_set _ _ _ _)
       have HCF := Lib.hid (show Cel wF bR 41 zeroC by rw [← hwF]; exact (((((((HZA.out.set 0 _).set 1 _).set 2 _).set 3 _).set 4 _).set 5 _).set 6 _).set 7 _)
       have HBF := Lib.hid (hOF.below HBA.out (by have := HX.out; omega))
       clear hwF hOF
       refine bodyPost_ret (v := .tuple #[.agg zeroC.toArray, .slice none 0 0, .int .i64 2]) ?_ rfl (by show CGetF l w _ _; unfold CGetF; rw [HNOC.out]; exact ⟨rfl, HBF.out⟩)
       have hl := run_loadVar_mid (P := Tryz.prog) wF bR 0 41 zeroC _ HCF.out.range Tryz.underlying41 rfl (by kernel_rfl)
       simp [results, Tryz.results46, asAddr, hl, Result.andThen]
      | true =>
       have HFS := Lib.hid (show getC l = some (cc, r) by rw [HGF.out, ← HCC.out]; unfold finC; rw [if_pos HM.out.symm])
       have HSA := Lib.hid (show bR + 3 ≤ wA.heap.size by have h1 := HCA.out.lt; have := HX.out; omega)
       go_upto_region 21 with fail
       clear r2
       have hD : ∀ j, j < 9 → ∀ n, n < 9 → j ≠ n → dkN [94, 95, 96, 97, 98, 99, 1006, 3, 4] j ≠ dkN [94, 95, 96, 97, 98, 99, 1006, 3, 4] n := by decide +kernel
       refine region_fun (by kernel_rfl) (by kernel_rfl) (fun gv => #[gv 0, gv 1, .pointer (some ⟨bR, 0, none⟩), gv 3, gv 4, .pointer (some ⟨br, 0, none⟩), .pointer (some ⟨bc, 0, none⟩), gv 7, gv 8, gv 9, gv 10, gv 11, gv 12, gv 13, gv 14, gv 15, gv 16, gv 17, gv 18, gv 19, gv 20, gv 21, gv 22, gv 23, gv 24, gv 25, gv 26, gv 27, gv 28, gv 29, gv 30, gv 31, gv 32, gv 33, gv 34, gv 35, gv 36, gv 37, gv 38, gv 39, gv 40, gv 41, gv 42, gv 43, gv 44, gv 45, gv 46, gv 47, gv 48, gv 49, gv 50, gv 51, gv 52, gv 53, gv 54, gv 55, gv 56, gv 57, gv 58, gv 59, gv 60, gv 61, gv 62, gv 63, gv 64, gv 65, gv 66, gv 67, gv 68, gv 69, gv 70, gv 71, gv 72, gv 73, gv 74, gv 75, gv 76, gv 77, gv 78, gv 79, gv 80, gv 81, gv 82, gv 83, gv 84, gv 85, gv 86, gv 87, gv 88, gv 89, gv 90, gv 91, gv 92, gv 93, gv 94, gv 95, gv 96, gv 97, gv 98, gv 99]) rfl (fun f gv wx => Below w.heap.size w wx ∧ (∀ j, j < 9 → (fun j => Nat.beq j 5 || Nat.beq j 7 || Nat.beq j 6) j = false → On f j → gv (dkN [94, 95, 96, 97, 98, 99, 1006, 3, 4] j) = vkN [.agg #[.int .i64 node, .int .i64 S, .int .i64 G, .slice av k cv, .int .i64 kind, .string s1, .string s2, .int .i64 num], .pointer (some ⟨br, 0, none⟩), .pointer (some ⟨br, 0, none⟩), .pointer (some ⟨br, 0, none⟩), .slice a6 nr c6, undef, undef, undef, .int .i64 0] j) ∧ ((On f 5 → ∃ a c, gv 99 = .slice a nr c ∧ Rd wx a nr c r ∧ (a = none → c = 0) ∧ ∀ x, a = some x → bR + 3 ≤ x.block)) ∧ ((On f 7 → ∃ a c, gv 3 = .slice a nr c ∧ Rd wx a nr c r ∧ (a = none → c = 0) ∧ ∀ x, a = some x → bR + 3 ≤ x.block)) ∧ (Cel wx bc 41 [.int .i64 node, .int .i64 S, .int .i64 G, .slice av k cv, .int .i64 kind, .string s1, .string s2, .int .i64 num]) ∧ ((¬ On f 6 → Cel wx bR 41 zeroC) ∧ (On f 6 → Cel wx bR 41 [.int .i64 node, .int .i64 S, .int .i64 G, .slice av k cv, .int .i64 kind, .string s1, .string s2, .int .i64 num])) ∧ (Cel wx br 70 [.slice a6 nr c6, .bool false]) ∧ (Ids wx av k cv (idsOf k X)) ∧ (Rd wx a6 nr c6 r) ∧ (bR + 3 ≤ wx.heap.size)) ?_ ?_ ?_
       ·have hoff : ∀ j, ¬ On (Array.replicate 9 false) j := by
         intro j hj; simp only [On, Array.getD_eq_getD_getElem?, Array.getElem?_replicate] at hj; split at hj <;> simp at hj
        exact ⟨HBA.out.drew, fun j _ _ x => absurd x (hoff _), fun x => absurd x (hoff _), fun x => absurd x (hoff _), HCA.out, ⟨fun _ => HZA.out, fun x => absurd x (hoff _)⟩, HRA.out.1, HIA.out.below (Below.refl _ _).drew, HRA.out.2.1.below (Below.refl _ _).drew, HSA.out⟩
       ·rintro i' o' f gv wm hio hs' hn he ⟨hBx, P, Q5, Q7, QA, QZ, QR, QI, QM, SZ⟩ KK hKK
        have hi' : i' < 9 := (Array.getElem?_eq_some_iff.1 hio).1
        replace hs' : f.size = 9 := hs'
        match i', hi' with
        | 0, _ =>
         cases hio
         have off : ¬ On f 0 := on_off (by omega) hn
         have d0 : wm.cell? ⟨bc, 0, none⟩ = some (.int .i64 node) := QA.at 0 _ rfl
         have d1 : wm.cell? ⟨bc, 1, none⟩ = some (.int .i64 S) := QA.at 1 _ rfl
         have d2 : wm.cell? ⟨bc, 2, none⟩ = some (.int .i64 G) := QA.at 2 _ rfl
         have d3 : wm.cell? ⟨bc, 3, none⟩ = some (.slice av k cv) := QA.at 3 _ rfl
         have d4 : wm.cell? ⟨bc, 4, none⟩ = some (.int .i64 kind) := QA.at 4 _ rfl
         have d5 : wm.cell? ⟨bc, 5, none⟩ = some (.string s1) := QA.at 5 _ rfl
         have d6 : wm.cell? ⟨bc, 6, none⟩ = some (.string s2) := QA.at 6 _ rfl
         have d7 : wm.cell? ⟨bc, 7, none⟩ = some (.int .i64 num) := QA.at 7 _ rfl
         have HQ := Lib.hid (And.intro P (And.intro Q5 (And.intro Q7 (And.intro QA (And.intro QZ (And.intro QR (And.intro QI (And.intro QM SZ))))))))
         clear P Q5 Q7 QA QZ QR QI QM SZ
         go_simp
         obtain ⟨P, Q5, Q7, QA, QZ, QR, QI, QM, SZ⟩ := HQ.out
         obtain ⟨bk, fw, fn⟩ := on3 (f := f) (i := 0) (by omega)
         exact hKK (upd gv 94 (.agg #[.int .i64 node, .int .i64 S, .int .i64 G, .slice av k cv, .int .i64 kind, .string s1, .string s2, .int .i64 num])) _ (by exact ⟨hBx, vals_step (n := 0) (v := .agg #[.int .i64 node, .int .i64 S, .int .i64 G, .slice av k cv, .int .i64 kind, .string s1, .string s2, .int .i64 num]) hD (by decide) (by omega) P (fun _ => rfl), fun x => Q5 (bk 5 (by decide) x), fun x => Q7 (bk 7 (by decide) x), QA, ⟨fun x => QZ.1 (fun y => x (fw 6 y)), fun x => QZ.2 (bk 6 (by decide) x)⟩, QR, QI, QM, SZ⟩)
        | 1, _ =>
         cases hio
         have off : ¬ On f 1 := on_off (by omega) hn
         have HQ := Lib.hid (And.intro P (And.intro Q5 (And.intro Q7 (And.intro QA (And.intro QZ (And.intro QR (And.intro QI (And.intro QM SZ))))))))
         clear P Q5 Q7 QA QZ QR QI QM SZ
         go_simp
         obtain ⟨P, Q5, Q7, QA, QZ, QR, QI, QM, SZ⟩ := HQ.out
         obtain ⟨bk, fw, fn⟩ := on3 (f := f) (i := 1) (by omega)
         exact hKK (upd gv 95 (.pointer (some ⟨br, 0, none⟩))) _ (by exact ⟨hBx, vals_step (n := 1) (v := .pointer (some ⟨br, 0, none⟩)) hD (by decide) (by omega) P (fun _ => rfl), fun x => Q5 (bk 5 (by decide) x), fun x => Q7 (bk 7 (by decide) x), QA, ⟨fun x => QZ.1 (fun y => x (fw 6 y)), fun x => QZ.2 (bk 6 (by decide) x)⟩, QR, QI, QM, SZ⟩)
        | 2, _ =>
         cases hio
         have off : ¬ On f 2 := on_off (by omega) hn
         have h1 : On f 1 := he ⟨1, .data⟩ (by simp) rfl
         have e1 : gv 95 = .pointer (some ⟨br, 0, none⟩) := P 1 (by decide) rfl h1
         rw [e1]
         have HQ := Lib.hid (And.intro P (And.intro Q5 (And.intro Q7 (And.intro QA (And.intro QZ (And.intro QR (And.intro QI (And.intro QM SZ))))))))
         clear P Q5 Q7 QA QZ QR QI QM SZ
         go_simp
         obtain ⟨P, Q5, Q7, QA, QZ, QR, QI, QM, SZ⟩ := HQ.out
         obtain ⟨bk, fw, fn⟩ := on3 (f := f) (i := 2) (by omega)
         exact hKK (upd (upd gv 95 (.pointer (some ⟨br, 0, none⟩))) 96 (.pointer (some ⟨br, 0, none⟩))) _ (by rw [upd_same e1]; exact ⟨hBx, vals_step (n := 2) (v := .pointer (some ⟨br, 0, none⟩)) hD (by decide) (by omega) P (fun _ => rfl), fun x => Q5 (bk 5 (by decide) x), fun x => Q7 (bk 7 (by decide) x), QA, ⟨fun x => QZ.1 (fun y => x (fw 6 y)), fun x => QZ.2 (bk 6 (by decide) x)⟩, QR, QI, QM, SZ⟩)
        | 3, _ =>
         cases hio
         have off : ¬ On f 3 := on_off (by omega) hn
         have h2 : On f 2 := he ⟨2, .data⟩ (by simp) rfl
         have e2 : gv 96 = .pointer (some ⟨br, 0, none⟩) := P 2 (by decide) rfl h2
         rw [e2]
         have HQ := Lib.hid (And.intro P (And.intro Q5 (And.intro Q7 (And.intro QA (And.intro QZ (And.intro QR (And.intro QI (And.intro QM SZ))))))))
         clear P Q5 Q7 QA QZ QR QI QM SZ
         go_simp
         obtain ⟨P, Q5, Q7, QA, QZ, QR, QI, QM, SZ⟩ := HQ.out
         obtain ⟨bk, fw, fn⟩ := on3 (f := f) (i := 3) (by omega)
         exact hKK (upd (upd gv 96 (.pointer (some ⟨br, 0, none⟩))) 97 (.pointer (some ⟨br, 0, none⟩))) _ (by rw [upd_same e2]; exact ⟨hBx, vals_step (n := 3) (v := .pointer (some ⟨br, 0, none⟩)) hD (by decide) (by omega) P (fun _ => rfl), fun x => Q5 (bk 5 (by decide) x), fun x => Q7 (bk 7 (by decide) x), QA, ⟨fun x => QZ.1 (fun y => x (fw 6 y)), fun x => QZ.2 (bk 6 (by decide) x)⟩, QR, QI, QM, SZ⟩)
        | 4, _ =>
         cases hio
         have off : ¬ On f 4 := on_off (by omega) hn
         have h3 : On f 3 := he ⟨3, .data⟩ (by simp) rfl
         have e3 : gv 97 = .pointer (some ⟨br, 0, none⟩) := P 3 (by decide) rfl h3
         have d0 : wm.cell? ⟨br, 0, none⟩ = some (.slice a6 nr c6) := QR.at 0 _ rfl
         rw [e3]
         have HQ := Lib.hid (And.intro P (And.intro Q5 (And.intro Q7 (And.intro QA (And.intro QZ (And.intro QR (And.intro QI (And.intro QM SZ))))))))
         clear P Q5 Q7 QA QZ QR QI QM SZ
         go_simp
         obtain ⟨P, Q5, Q7, QA, QZ, QR, QI, QM, SZ⟩ := HQ.out
         obtain ⟨bk, fw, fn⟩ := on3 (f := f) (i := 4) (by omega)
         exact hKK (upd (upd gv 97 (.pointer (some ⟨br, 0, none⟩))) 98 (.slice a6 nr c6)) _ (by rw [upd_same e3]; exact ⟨hBx, vals_step (n := 4) (v := .slice a6 nr c6) hD (by decide) (by omega) P (fun _ => rfl), fun x => Q5 (bk 5 (by decide) x), fun x => Q7 (bk 7 (by decide) x), QA, ⟨fun x => QZ.1 (fun y => x (fw 6 y)), fun x => QZ.2 (bk 6 (by decide) x)⟩, QR, QI, QM, SZ⟩)
        | 5, _ =>
         cases hio
         have off : ¬ On f 5 := on_off (by omega) hn
         have h4 : On f 4 := he ⟨4, .data⟩ (by simp) rfl
         have e4 : gv 98 = .slice a6 nr c6 := P 4 (by decide) rfl h4
         have SZs := SZ
         obtain ⟨v8, w6, hrun, ho8, hb⟩ := app_own (l := []) (World.ownsRow_nil wm wm.heap.size 5 1) (Below.refl _ _) QM HRA.out.2.2.1 (by have := HRA.out.2.2.2; simp only [List.length_nil]; omega)
         rw [List.nil_append] at ho8
         have hz8 := fun a n c (h : v8 = .slice a n c) => own_none (h ▸ ho8)
         have hlo8 := fun k hk => (ho8.lt k hk).1
         obtain ⟨a8, c8, rfl, hr8⟩ := Rd.of_own ho8
         rw [← HNR.out] at hr8 hrun
         have hz8 := hz8 a8 _ c8 rfl
         have hf8 : ∀ x, a8 = some x → bR + 3 ≤ x.block := fun x hx => by
          have h1 := hlo8 x.block (by rw [hx]; rfl)
          omega
         rw [e4]
         have HQ := Lib.hid (And.intro P (And.intro Q5 (And.intro Q7 (And.intro QA (And.intro QZ (And.intro QR (And.intro QI (And.intro QM SZ))))))))
         clear P Q5 Q7 QA QZ QR QI QM SZ
         refine app_run_at (by rfl) (.const (.slice none 0 0)) (.tmp 98) 28 rfl (by rfl) (by rfl) hrun ?_
         simp only [Act.put, List.setIfInBounds_toArray]
         obtain ⟨P, Q5, Q7, QA, QZ, QR, QI, QM, SZ⟩ := HQ.out
         obtain ⟨bk, fw, fn⟩ := on3 (f := f) (i := 5) (by omega)
         exact hKK (upd (upd gv 98 (.slice a6 nr c6)) 99 (.slice a8 nr c8)) _ (by rw [upd_same e4]; exact ⟨hBx.step hb, vals_step (n := 5) (v := .slice a8 nr c8) hD (by decide) (by omega) P (fun h => nomatch (show true = false from h)), fun _ => ⟨a8, c8, rfl, hr8, hz8, hf8⟩, fun x => by obtain ⟨a9, c9, e9, hr9, hz9, hf9⟩ := Q7 (bk 7 (by decide) x); exact ⟨_, _, e9, hr9.below hb, hz9, hf9⟩, QA.step hb, ⟨fun x => (QZ.1 (fun y => x (fw 6 y))).step hb, fun x => (QZ.2 (bk 6 (by decide) x)).step hb⟩, QR.step hb, QI.below hb, QM.below hb, Nat.le_trans SZ hb.size⟩)
        | 6, _ =>
         cases hio
         have off : ¬ On f 6 := on_off (by omega) hn
         have h0 : On f 0 := he ⟨0, .data⟩ (by simp) rfl
         have e0 : gv 94 = .agg #[.int .i64 node, .int .i64 S, .int .i64 G, .slice av k cv, .int .i64 kind, .string s1, .string s2, .int .i64 num] := P 0 (by decide) rfl h0
         have hq := QZ.1 off
         have hap := QM.apart hq (by intro v hv z; simp only [zeroC, List.mem_cons, List.not_mem_nil, or_false] at hv; rcases hv with rfl | rfl | rfl | rfl | rfl | rfl | rfl | rfl <;> exact fun h => nomatch h)
         rw [e0]
         have HQ := Lib.hid (And.intro P (And.intro Q5 (And.intro Q7 (And.intro QA (And.intro QZ (And.intro QR (And.intro QI (And.intro QM SZ))))))))
         clear P Q5 Q7 QA QZ QR QI QM SZ
         refine cel_store (by rfl) rfl 41 (.tmp 2) (.tmp 94) rfl (by rfl) [.int .i64 node, .int .i64 S, .int .i64 G, .slice av k cv, .int .i64 kind, .string s1, .string s2, .int .i64 num] (by rfl) hq rfl info_cm (by intro v hv; simp only [List.mem_cons, List.not_mem_nil, or_false] at hv; rcases hv with rfl | rfl | rfl | rfl | rfl | rfl | rfl | rfl <;> rfl) ?_
         intro w6 hc6 ho6
         have hxx := HX.out
         obtain ⟨P, Q5, Q7, QA, QZ, QR, QI, QM, SZ⟩ := HQ.out
         obtain ⟨bk, fw, fn⟩ := on3 (f := f) (i := 6) (by omega)
         exact hKK (upd gv 94 (.agg #[.int .i64 node, .int .i64 S, .int .i64 G, .slice av k cv, .int .i64 kind, .string s1, .string s2, .int .i64 num])) _ (by rw [upd_same e0]; exact ⟨ho6.below hBx (by omega), vals_keep (n := 6) (by omega) rfl P, fun x => by obtain ⟨a8, c8, e9, g2, g3, g4⟩ := Q5 (bk 5 (by decide) x); exact ⟨_, _, e9, g2.only' ho6 (fun y hy _ => by have := g4 y hy; omega), g3, g4⟩, fun x => by obtain ⟨a9, c9, e9, g2, g3, g4⟩ := Q7 (bk 7 (by decide) x); exact ⟨_, _, e9, g2.only' ho6 (fun y hy _ => by have := g4 y hy; omega), g3, g4⟩, ho6.heap QA (by omega), ⟨fun x => absurd fn x, fun _ => hc6⟩, ho6.heap QR (by omega), QI.only ho6 (fun y hy => by have := HFR.out y hy; omega), QM.only' ho6 hap, by rw [ho6.size]; exact SZ⟩)
        | 7, _ =>
         cases hio
         have off : ¬ On f 7 := on_off (by omega) hn
         have h5 : On f 5 := he ⟨5, .data⟩ (by simp) rfl
         obtain ⟨a8, c8, e5, hr8, hz8, hf8⟩ := Q5 h5
         rw [e5]
         have HQ := Lib.hid (And.intro P (And.intro Q5 (And.intro Q7 (And.intro QA (And.intro QZ (And.intro QR (And.intro QI (And.intro QM SZ))))))))
         clear P Q5 Q7 QA QZ QR QI QM SZ
         go_simp
         obtain ⟨P, Q5, Q7, QA, QZ, QR, QI, QM, SZ⟩ := HQ.out
         obtain ⟨bk, fw, fn⟩ := on3 (f := f) (i := 7) (by omega)
         exact hKK (upd (upd gv 99 (.slice a8 nr c8)) 3 (.slice a8 nr c8)) _ (by rw [upd_same e5]; exact ⟨hBx, vals_step (n := 7) (v := .slice a8 nr c8) hD (by decide) (by omega) P (fun h => nomatch (show true = false from h)), fun x => Q5 (bk 5 (by decide) x), fun _ => ⟨a8, c8, rfl, hr8, hz8, hf8⟩, QA, ⟨fun x => QZ.1 (fun y => x (fw 6 y)), fun x => QZ.2 (bk 6 (by decide) x)⟩, QR, QI, QM, SZ⟩)
        | 8, _ =>
         cases hio
         have off : ¬ On f 8 := on_off (by omega) hn
         have HQ := Lib.hid (And.intro P (And.intro Q5 (And.intro Q7 (And.intro QA (And.intro QZ (And.intro QR (And.intro QI (And.intro QM SZ))))))))
         clear P Q5 Q7 QA QZ QR QI QM SZ
         go_simp
         obtain ⟨P, Q5, Q7, QA, QZ, QR, QI, QM, SZ⟩ := HQ.out
         obtain ⟨bk, fw, fn⟩ := on3 (f := f) (i := 8) (by omega)
         exact hKK (upd gv 4 (.int .i64 0)) _ (by exact ⟨hBx, vals_step (n := 8) (v := .int .i64 0) hD (by decide) (by omega) P (fun _ => rfl), fun x => Q5 (bk 5 (by decide) x), fun x => Q7 (bk 7 (by decide) x), QA, ⟨fun x => QZ.1 (fun y => x (fw 6 y)), fun x => QZ.2 (bk 6 (by decide) x)⟩, QR, QI, QM, SZ⟩)
       ·rintro f gv w5 hall hs' ⟨hBx, P, Q5, Q7, QA, QZ, QR, QI, QM, SZ⟩
        replace hs' : f.size = 9 := hs'
        have on : ∀ j, j < 9 → On f j := fun j hj => on_all hall hs' j hj
        obtain ⟨a9, c9, e9, hr9, hz9, hf9⟩ := Q7 (on 7 (by decide))
        have e8 : gv 4 = .int .i64 0 := P 8 (by decide) rfl (on 8 (by decide))
        rw [e9, e8]
        have HCF := Lib.hid (QZ.2 (on 6 (by decide)))
        have HEND := Lib.hid (show CGetF l w (.returned (.tuple #[.agg #[.int .i64 node, .int .i64 S, .int .i64 G, .slice av k cv, .int .i64 kind, .string s1, .string s2, .int .i64 num], .slice a9 nr c9, .int .i64 0])) w5 by
         unfold CGetF
         rw [HFS.out]
         exact ⟨av, cv, a9, c9, by rw [HVAL.out, ← HNR.out], ⟨by rw [HCC.out]; show Ids w5 av (idsOf k X).length cv (idsOf k X); rw [idsOf_length]; exact QI, HKE.out.1, HKE.out.2⟩, by rw [← HNR.out]; exact hr9, hz9, hBx, fun x hx => by have h1 := HFR.out x hx; have := HX.out; omega⟩)
        clear P Q5 Q7 QA QZ QR QI QM SZ hBx hall hs' on hD hr9 hz9 hf9 e9 e8
        go_wp2_with fail
        refine bodyPost_ret (v := .tuple #[.agg #[.int .i64 node, .int .i64 S, .int .i64 G, .slice av k cv, .int .i64 kind, .string s1, .string s2, .int .i64 num], .slice a9 nr c9, .int .i64 0]) ?_ rfl HEND.out
        have hl := run_loadVar_mid (P := Tryz.prog) w5 bR 0 41 _ _ HCF.out.range Tryz.underlying41 rfl (by kernel_rfl)
        simp [results, Tryz.results46, asAddr, hl, Result.andThen]
  have hki : (i : Int) < (k : Int) := by omega
  cases bd with
  | true =>
   have HNOC := Lib.hid (hG.out.1 rfl)
   obtain ⟨cc, hcc⟩ : ∃ cc : Cmt, cc = ⟨node, S, G, idsOf i X, zeroO⟩ := ⟨_, rfl⟩
   have HCC := Lib.hid hcc
   clear hcc
   have HKE := Lib.hid (show cc.op.key.length ≤ 9223372036854775807 ∧ cc.op.elem.length ≤ 9223372036854775807 by rw [HCC.out]; exact ⟨Nat.zero_le _, Nat.zero_le _⟩)
   have HIDS := Lib.hid (show ∀ w', w'.ownsRow (bc + 1) 48 32 (.slice av i cv) i (Bs (X.take (32 * i))) → Ids w' av i cv (idsOf i X) from fun w' h => by
    obtain ⟨a', c', e, h2, _⟩ := Ids.of_own h hI.out.1
    injection e with e1 _ e2
    subst e1 e2
    exact h2)
   obtain ⟨m, hm⟩ : ∃ m, m = mayC cc := ⟨_, rfl⟩
   have HVAL := Lib.hid (show cc.val av cv = .agg #[.int .i64 node, .int .i64 S, .int .i64 G, .slice av i cv, .int .i64 0, .string ⟨#[]⟩, .string ⟨#[]⟩, .int .i64 0] by rw [HCC.out]; unfold Cmt.val Cmt.cs; simp only [idsOf_length]; rfl)
   have HMAY := Lib.hid (fun w' (h : Ids w' av i cv (idsOf i X)) => show Calls Tryz.prog 28 #[.agg #[.int .i64 node, .int .i64 S, .int .i64 G, .slice av i cv, .int .i64 0, .string ⟨#[]⟩, .string ⟨#[]⟩, .int .i64 0]] w' (fun e w'' => e = .returned (.bool m) ∧ Below w'.heap.size w' w'') by
    have h2 := cmay_ref cc av cv w' ⟨by rw [HCC.out]; show Ids w' av (idsOf i X).length cv (idsOf i X); rw [idsOf_length]; exact h, HKE.out.1, HKE.out.2⟩
    rw [← hm, HVAL.out] at h2
    exact h2)
   have HM := Lib.hid hm
   clear hm
   have p0 : wr.cell? ⟨bc, 0, none⟩ = some (.int .i64 node) := hC.out.at 0 _ rfl
   have p1 : wr.cell? ⟨bc, 1, none⟩ = some (.int .i64 S) := hC.out.at 1 _ rfl
   have p2 : wr.cell? ⟨bc, 2, none⟩ = some (.int .i64 G) := hC.out.at 2 _ rfl
   have p3 : wr.cell? ⟨bc, 3, none⟩ = some (.slice av i cv) := hC.out.at 3 _ rfl
   have p4 : wr.cell? ⟨bc, 4, none⟩ = some (.int .i64 0) := hC.out.at 4 _ rfl
   have p5 : wr.cell? ⟨bc, 5, none⟩ = some (.string ⟨#[]⟩) := hC.out.at 5 _ rfl
   have p6 : wr.cell? ⟨bc, 6, none⟩ = some (.string ⟨#[]⟩) := hC.out.at 6 _ rfl
   have p7 : wr.cell? ⟨bc, 7, none⟩ = some (.int .i64 0) := hC.out.at 7 _ rfl
   go_wp2_with fail
   refine (HMAY.out _ (HIDS.out _ hO.out)).mono ?_
   rintro e wA ⟨rfl, hb⟩
   obtain ⟨a5, c5, k1, _⟩ := hR.out
   have HZA := Lib.hid (hZ.out.step hb)
   have HBA := Lib.hid (hB.out.step hb)
   have r2 : wA.cell? ⟨br, 1, none⟩ = some (.bool true) := (k1.step hb).at 1 _ rfl
   clear k1 hb p0 p1 p2 p3 p4 p5 p6 p7 r1 HMAY
   have z0 : wA.cell? ⟨bR, 0, none⟩ = some (.int .i64 0) := HZA.out.at 0 _ rfl
   have z1 : wA.cell? ⟨bR, 1, none⟩ = some (.int .i64 0) := HZA.out.at 1 _ rfl
   have z2 : wA.cell? ⟨bR, 2, none⟩ = some (.int .i64 0) := HZA.out.at 2 _ rfl
   have z3 : wA.cell? ⟨bR, 3, none⟩ = some (.slice none 0 0) := HZA.out.at 3 _ rfl
   have z4 : wA.cell? ⟨bR, 4, none⟩ = some (.int .i64 0) := HZA.out.at 4 _ rfl
   have z5 : wA.cell? ⟨bR, 5, none⟩ = some (.string ⟨#[]⟩) := HZA.out.at 5 _ rfl
   have z6 : wA.cell? ⟨bR, 6, none⟩ = some (.string ⟨#[]⟩) := HZA.out.at 6 _ rfl
   have z7 : wA.cell? ⟨bR, 7, none⟩ = some (.int .i64 0) := HZA.out.at 7 _ rfl
   have fz0 : wA.frozen? ⟨bR, 0, none⟩ = false := HZA.out.free 0
   have fz1 : wA.frozen? ⟨bR, 1, none⟩ = false := HZA.out.free 1
   have fz2 : wA.frozen? ⟨bR, 2, none⟩ = false := HZA.out.free 2
   have fz3 : wA.frozen? ⟨bR, 3, none⟩ = false := HZA.out.free 3
   have fz4 : wA.frozen? ⟨bR, 4, none⟩ = false := HZA.out.free 4
   have fz5 : wA.frozen? ⟨bR, 5, none⟩ = false := HZA.out.free 5
   have fz6 : wA.frozen? ⟨bR, 6, none⟩ = false := HZA.out.free 6
   have fz7 : wA.frozen? ⟨bR, 7, none⟩ = false := HZA.out.free 7
   go_wp2_with fail
   generalize hwF : World.setCell (World.setCell (World.setCell (World.setCell (World.setCell (World.setCell (World.setCell (World.setCell wA _ _) _ _) _ _) _ _) _ _) _ _) _ _) _ _ = wF
   have hOF : Only wA wF bR := by rw [← hwF]; exact (((((((only_set _ _ _ _).trans (only_set _ _ _ _)).trans (only_set _ _ _ _)).trans (only_set _ _ _ _)).trans (only_set _ _ _ _)).trans (only_set _ _ _ _)).trans (only_set _ _ _ _)).trans (only_set _ _ _ _)
   have HCF := Lib.hid (show Cel wF bR 41 zeroC by rw [← hwF]; exact (((((((HZA.out.set 0 _).set 1 _).set 2 _).set 3 _).set 4 _).set 5 _).set 6 _).set 7 _)
   have HBF := Lib.hid (hOF.below HBA.out (by have := HX.out; omega))
   clear hwF hOF
   refine bodyPost_ret (v := .tuple #[.agg zeroC.toArray, .slice none 0 0, .int .i64 2]) ?_ rfl (by show CGetF l w _ _; unfold CGetF; rw [HNOC.out]; exact ⟨rfl, HBF.out⟩)
   have hl := run_loadVar_mid (P := Tryz.prog) wF bR 0 41 zeroC _ HCF.out.range Tryz.underlying41 rfl (by kernel_rfl)
   simp [results, Tryz.results46, asAddr, hl, Result.andThen]
  | false =>
   obtain ⟨hX, hd4, hlr⟩ := hG.out.2 rfl
   subst hX
   have hlr32 : lr.length = X.length - 32 * i := by rw [hlr, List.length_drop]
   have hIo := hI.out
   have hq4 := HQ4.out
   have hi62 : i ≤ 62 := by omega
   obtain ⟨i1, hi1⟩ : ∃ i1, i1 = i + 1 := ⟨_, rfl⟩
   obtain ⟨x, hx⟩ : ∃ x, x = idX lr := ⟨_, rfl⟩
   have hx32 : x.length = 32 := by rw [hx]; exact idX_length lr
   have HID := Lib.hid (fun w' (h : RdR (fun k => k < bR) w' br 70 [.bool false] lr) => rid_ref _ br false lr w' h (by omega))
   obtain ⟨bd', hbd'⟩ : ∃ b, b = (false || !decide (32 ≤ lr.length)) := ⟨_, rfl⟩
   obtain ⟨lr', hlr'⟩ : ∃ b, b = idR lr := ⟨_, rfl⟩
   rw [← hx, ← hbd', ← hlr'] at HID
   unfold arr at HID
   have HNEXT := Lib.hid (show ∃ X', 32 * i1 ≤ X'.length ∧ lr'.length ≤ 2000 ∧ X'.take (32 * i1) = X.take (32 * i) ++ x ∧ (bd' = true → getC l = none) ∧ (bd' = false → X' = X ∧ d4 = false ∧ lr' = X.drop (32 * i1)) from by
    by_cases h32 : 32 ≤ lr.length
    ·refine ⟨X, by omega, ?_, ?_, fun h => ?_, fun _ => ⟨rfl, hd4, ?_⟩⟩
     ·rw [hlr', idR, if_pos h32, List.length_drop]; omega
     ·rw [hi1, show 32 * (i + 1) = 32 * i + 32 by omega, List.take_add, hx, idX, if_pos h32, hlr]
     ·rw [hbd', decide_eq_true h32] at h; cases h
     ·rw [hlr', idR, if_pos h32, hlr, List.drop_drop, hi1]; congr 1
    ·refine ⟨X.take (32 * i) ++ x, ?_, ?_, ?_, fun _ => HNO.out (.inr (by omega)), fun h => ?_⟩
     ·rw [List.length_append, List.length_take, hx32]; omega
     ·rw [hlr', idR, if_neg h32]; exact hIo.2
     ·rw [List.take_of_length_le]; rw [List.length_append, List.length_take, hx32]; omega
     ·rw [hbd', decide_eq_false h32] at h; cases h)
   have HX32 := Lib.hid hx32
   have HI1 := Lib.hid hi1
   have HI62 := Lib.hid hi62
   clear hd4 hlr hlr32 hIo hi62 hq4 hi1 hx hx32 hbd' hlr'
   go_wp2_with fail
   refine (HID.out _ hR.out).mono ?_
   rintro e w11 ⟨rfl, hr, hp⟩
   have HR11 := Lib.hid hr
   have HC11 := Lib.hid (show Cel w11 bc 41 [.int .i64 node, .int .i64 S, .int .i64 G, .slice av i cv, .int .i64 0, .string ⟨#[]⟩, .string ⟨#[]⟩, .int .i64 0] from hp.heap hC.out (by have := HX.out; omega))
   have HO11 := Lib.hid (ownsRow_id_past hO.out hp (by have := HX.out; omega))
   have HZ11 := Lib.hid (show Cel w11 bR 41 zeroC from hp.heap hZ.out (by have := HX.out; omega))
   have HB11 := Lib.hid (hp.below hB.out (by have := HX.out; omega))
   clear hr hp hC hO hR hZ hB hG HID r1
   rename_i K9 hK9
   refine hK9 _ _ ?_
   clear hK9 K9
   refine wpList_new_store rfl rfl 48 9 (.tmp 47) rfl rfl rfl rfl (Bs zero32) (Bs x) (by kernel_rfl) (by simp) rfl (by rw [Bs_length, Bs_length, zero32_length, HX32.out]) (info_x HX32.out) (Bs_one x) ?_
   intro w12 hd hb2
   obtain ⟨bi, hbi⟩ : ∃ b, b = w11.heap.size := ⟨_, rfl⟩
   rw [← hbi] at hd ⊢
   have HD12 := Lib.hid hd
   have HC12 := Lib.hid (HC11.out.step hb2)
   have HZ12 := Lib.hid (HZ11.out.step hb2)
   have HB12 := Lib.hid (HB11.out.step hb2)
   have HR12 := Lib.hid (HR11.out.below hb2)
   have hO12 := ownsRow_id_low HO11.out fun k hk => hb2.block k (HO11.out.lt k hk).2
   clear hd hb2 hbi HC11 HZ11 HB11 HR11 HO11
   have hb23 : Below w12.heap.size w12 (w12.alloc (.cells (Bs x).toArray 48)) := (Below.refl _ _).alloc (Nat.le_refl _) _
   have hO13 := ownsRow_id_low hO12 fun k hk => hb23.block k (hO12.lt k hk).2
   obtain ⟨v6, w14, hrun, hown, hg⟩ := app_id hO13 (Cel.new w12 48 (Bs x)) HX32.out (by have := HI62.out; omega) (by rw [size_alloc']; have := HC12.out.lt; omega)
   obtain ⟨X', hX1, hX2, hX3, hX4⟩ := HNEXT.out
   rw [← Bs_app, ← hX3, ← HI1.out] at hown
   have hlow : ∀ k, (Value.slice av i cv).ownBlock = some k → bc + 1 ≤ k := fun k hk => (hO13.lt k hk).1
   obtain ⟨a6, c6, rfl, hown6⟩ : ∃ a c, v6 = .slice a i1 c ∧ w14.ownsRow (bc + 1) 48 32 (.slice a i1 c) i1 (Bs (X'.take (32 * i1))) := by
    rcases hown.2 with ⟨e1, e2⟩ | ⟨g, cap, cur, e1, _⟩
    ·have := HI1.out; omega
    ·exact ⟨_, _, e1, e1 ▸ hown⟩
   have hc14 : Cel w14 bc 41 [.int .i64 node, .int .i64 S, .int .i64 G, .slice av i cv, .int .i64 0, .string ⟨#[]⟩, .string ⟨#[]⟩, .int .i64 0] := (HC12.out.step hb23).grown hg (fun k hk => hlow k hk)
   have p3 : w12.cell? ⟨bc, 3, none⟩ = some (.slice av i cv) := HC12.out.at 3 _ rfl
   have p14 : w14.cell? ⟨bc, 3, none⟩ = some (.slice av i cv) := hc14.at 3 _ rfl
   have f14 : w14.frozen? ⟨bc, 3, none⟩ = false := hc14.free 3
   have HRUN := Lib.hid hrun
   obtain ⟨i0, hi0z, hz0, hz1, _⟩ := info_parts info_idz
   have HC15 := Lib.hid (hc14.set 3 (.slice a6 i1 c6))
   have hO15 := only_set w14 bc 3 (.slice a6 i1 c6)
   have HO15 := Lib.hid (ownsRow_id_low hown6 fun k hk => hO15.block k (by have := (hown6.lt k hk).1; omega))
   have HZ15 := Lib.hid (show Cel (w14.setCell ⟨bc, 3, none⟩ (.slice a6 i1 c6)) bR 41 zeroC from hO15.heap ((HZ12.out.step hb23).grown hg (fun k hk => by have := hlow k hk; have := HX.out; omega)) (by have := HX.out; omega))
   have HB15 := Lib.hid (hO15.below (((PastN.of_below (b := br) (HB12.out.step hb23)).grown hg (fun k hk => by have := hlow k hk; have := HX.out; omega)).below (Below.refl _ _) (by have := HX.out; omega)) (by have := HX.out; omega))
   have HR15 := Lib.hid (((HR12.out.below hb23).grownb hg (fun k hk => by have := hlow k hk; have := HX.out; omega) (fun k hk => by have := hlow k hk; have := HX.out; omega)).only hO15 (by have := HX.out; omega) (fun k hk => by have := HX.out; omega))
   have HX5 := Lib.hid (And.intro hX1 (And.intro hX2 (And.intro hX3 hX4)))
   clear hO13 hown hown6 hrun hlow hg hc14 hX1 hX2 hX3 hX4 HNEXT hb23 hO12 hO15
   go_wp2_with (first
    | (refine wpList_load_mid rfl 48 (.tmp 9) rfl bi 0 (by rfl) (Bs x) _ HD12.out.range under_ids rfl (info_x HX32.out) ?_)
    | (refine wpList_one_slice rfl 22 48 (.tmp 50) rfl (Bs x) (by rfl) i0 _ Tryz.underlying22 hi0z hz0 (by rw [hz1, Bs_length, HX32.out]) (by rw [Bs_length, HX32.out]; decide) (by rw [Bs_length, HX32.out]; decide) ?_)
    | (at_builtin; refine Lib.wpList_append_run _ rfl _ _ _ _ rfl _ _ rfl rfl _ _ HRUN.out ?_))
   have hi1' := HI1.out
   have hi62' := HI62.out
   refine ⟨⟨i1, a6, c6, bd', X', lr', ⟨by omega, by have := HI62.out; omega⟩, by rw [hi1']; go_num, Lib.hid ⟨HX5.out.1, HX5.out.2.1⟩, HC15, HO15, HR15, HZ15, HB15, Lib.hid HX5.out.2.2.2⟩, ?_⟩
   simp [intOf]; omega
end Go.Proofs.YtofadpodlaakbaaGreat
