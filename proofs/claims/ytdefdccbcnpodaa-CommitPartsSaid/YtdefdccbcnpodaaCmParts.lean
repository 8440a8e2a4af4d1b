/- The statement CommitParts, walked out of the contracts of what it calls. -/
import Derived.Test.YtdefdccbcnpodaaCmPartsP
namespace Go.Proofs.Ytdefdccbcnpodaa
open Go.ChangeShapes Go.WideShapes Go.ChangeAt Go.RowKit
set_option linter.unusedVariables false
set_option linter.unusedSimpArgs false

theorem oneC (node seq gen kind num : Int) (a : Option Addr) (n c : Nat) (s t : ByteArray) : ∀ v ∈ ([.int .i64 node, .int .i64 seq, .int .i64 gen, .slice a n c, .int .i64 kind, .string s, .string t, .int .i64 num] : List Value), v.oneCell' = true := by
  intro v hv
  simp only [List.mem_cons, List.not_mem_nil, or_false] at hv
  rcases hv with rfl | rfl | rfl | rfl | rfl | rfl | rfl | rfl <;> rfl

set_option maxRecDepth 100000 in
set_option maxHeartbeats 64000000 in
theorem commitParts_walk (c : Cmt) (o : Opn) (sq : Int) (a : Option Addr) (cap : Nat) (w : World) (hr : CmR w c a cap) (ho : o.key.length ≤ 9223372036854775807 ∧ o.elem.length ≤ 9223372036854775807) :
    Calls Try.prog 8 #[c.val a cap, .agg #[.int .i64 o.kind, .string ⟨o.key.toArray⟩, .string ⟨o.elem.toArray⟩, .int .i64 o.num], .int .i64 sq] w fun e w' => e = .returned (.bool true) ∧ Below w.heap.size w w' := by
  have HFE := Lib.hid (fun w' h => fewc_any c a cap w' h)
  have HME := Lib.hid (fun w' h => cmerge_any c a cap w' h)
  have HPU := Lib.hid (fun w' h => cput_any c a cap w' h)
  have HRC := Lib.hid hr
  unfold CPutP at HPU
  obtain ⟨few, hfew⟩ : ∃ b, b = fewC c := ⟨_, rfl⟩
  obtain ⟨may, hmay⟩ : ∃ b, b = mayC c := ⟨_, rfl⟩
  obtain ⟨mer, hmer⟩ : ∃ b, b = mergeC c := ⟨_, rfl⟩
  obtain ⟨mA, hmA⟩ : ∃ b, b = mayC ⟨c.node, c.seq, c.gen, c.par, o⟩ := ⟨_, rfl⟩
  obtain ⟨mB, hmB⟩ : ∃ b, b = mayC ⟨c.node, sq, c.gen, c.par, c.op⟩ := ⟨_, rfl⟩
  obtain ⟨X, hX⟩ : ∃ X, X = putC c := ⟨_, rfl⟩
  obtain ⟨Y, hY⟩ : ∃ X, X = putC ⟨c.node, c.seq, c.gen, c.par, o⟩ := ⟨_, rfl⟩
  obtain ⟨Z, hZ⟩ : ∃ X, X = putC ⟨c.node, sq, c.gen, c.par, c.op⟩ := ⟨_, rfl⟩
  obtain ⟨lx, hlx⟩ : ∃ l, l = X.length := ⟨_, rfl⟩
  obtain ⟨ly, hly⟩ : ∃ l, l = Y.length := ⟨_, rfl⟩
  obtain ⟨lz, hlz⟩ : ∃ l, l = Z.length := ⟨_, rfl⟩
  obtain ⟨e1, he1⟩ : ∃ b, b = decide (o = c.op) := ⟨_, rfl⟩
  obtain ⟨e2, he2⟩ : ∃ b, b = decide (sq = c.seq) := ⟨_, rfl⟩
  have HPA := Lib.hid (fun w' (h : CmR w' c a cap) => show Calls Try.prog 11 #[.agg #[.int .i64 c.node, .int .i64 c.seq, .int .i64 c.gen, .slice a c.par.length cap, .int .i64 o.kind, .string ⟨o.key.toArray⟩, .string ⟨o.elem.toArray⟩, .int .i64 o.num]] w' (fun e w'' => if mA = true then ∃ a cap, e = .returned (.tuple #[.slice a ly cap, .int .i64 0]) ∧ Rd w'' a ly cap Y ∧ (a = none → cap = 0) ∧ Below w'.heap.size w' w'' else e = .returned (.tuple #[.slice none 0 0, .int .i64 1]) ∧ Below w'.heap.size w' w'') by
    rw [hly, hY, hmA]
    exact cput_any ⟨c.node, c.seq, c.gen, c.par, o⟩ a cap w' ⟨h.ids, ho.1, ho.2⟩)
  have HPB := Lib.hid (fun w' (h : CmR w' c a cap) => show Calls Try.prog 11 #[.agg #[.int .i64 c.node, .int .i64 sq, .int .i64 c.gen, .slice a c.par.length cap, .int .i64 c.op.kind, .string ⟨c.op.key.toArray⟩, .string ⟨c.op.elem.toArray⟩, .int .i64 c.op.num]] w' (fun e w'' => if mB = true then ∃ a cap, e = .returned (.tuple #[.slice a lz cap, .int .i64 0]) ∧ Rd w'' a lz cap Z ∧ (a = none → cap = 0) ∧ Below w'.heap.size w' w'' else e = .returned (.tuple #[.slice none 0 0, .int .i64 1]) ∧ Below w'.heap.size w' w'') by
    rw [hlz, hZ, hmB]
    exact cput_any ⟨c.node, sq, c.gen, c.par, c.op⟩ a cap w' ⟨h.ids, h.key, h.elem⟩)
  have HMS := Lib.hid (fun w' g cap' x y r (hp : c.par = x :: y :: r) (hm : may = true) (h : Ids w' (some ⟨g, 0, none⟩) c.par.length cap' (y :: x :: r)) => show Calls Try.prog 18 #[.agg #[.int .i64 c.node, .int .i64 c.seq, .int .i64 c.gen, .slice (some ⟨g, 0, none⟩) c.par.length cap', .int .i64 c.op.kind, .string ⟨c.op.key.toArray⟩, .string ⟨c.op.elem.toArray⟩, .int .i64 c.op.num]] w' (fun e w'' => e = .returned (.bool false) ∧ Below w'.heap.size w' w'') by
    have h1 := swap_not c.node c.seq c.gen x y r c.op (by rw [← hp, ← hm, hmay])
    have hl : (y :: x :: r).length = c.par.length := by rw [hp]; rfl
    rw [← hl] at h ⊢
    have h2 := cmay_any ⟨c.node, c.seq, c.gen, y :: x :: r, c.op⟩ (some ⟨g, 0, none⟩) cap' w' ⟨h, hr.key, hr.elem⟩
    rw [h1] at h2
    exact h2)
  have HE1 := Lib.hid (show may = true → mA = true → decide (X = Y) = e1 from fun h1 h2 => by rw [hX, hY, he1]; exact put_op c o (by rw [← hmay, h1]) (by rw [← hmA, h2]) hr.ids.is32)
  have HE2 := Lib.hid (show may = true → mB = true → decide (X = Z) = e2 from fun h1 h2 => by rw [hX, hZ, he2]; exact put_seq c sq (by rw [← hmay, h1]) (by rw [← hmB, h2]) hr.ids.is32)
  have HEO := Lib.hid (fun w' => show (Op.equalIn 10000 26 (.agg #[.int .i64 o.kind, .string ⟨o.key.toArray⟩, .string ⟨o.elem.toArray⟩, .int .i64 o.num]) (.agg #[.int .i64 c.op.kind, .string ⟨c.op.key.toArray⟩, .string ⟨c.op.elem.toArray⟩, .int .i64 c.op.num])).run Try.prog w' = .ok e1 w' by rw [he1, opn_eq]; exact eq_ops _ _ _ _ _ _ _ _ w')
  have HEI := Lib.hid (fun wm : World => eq_if o.kind c.op.kind o.num c.op.num (ByteArray.toList ⟨o.key.toArray⟩) (ByteArray.toList ⟨c.op.key.toArray⟩) (ByteArray.toList ⟨o.elem.toArray⟩) (ByteArray.toList ⟨c.op.elem.toArray⟩) wm e1 (by rw [he1, opn_eq]))
  have HES := Lib.hid (show (sq == c.seq) = e2 by rw [he2]; by_cases h : sq = c.seq <;> simp [h])
  have HLO := Lib.hid (show may = true → mer = false → 32 * c.par.length + 7 ≤ lx ∧ c.par.length ≤ 8 from fun h1 h2 => ⟨by rw [hlx, hX]; exact putC_long c (by rw [← hmay, h1]) (by rw [← hmer, h2]) hr.ids.is32, (mayC_parts (show mayC c = true by rw [← hmay, h1])).2.1⟩)
  have hn63 : c.par.length ≤ 9223372036854775807 := Nat.le_trans hr.ids.le hr.ids.cap
  obtain ⟨m1, hm1⟩ : ∃ m, m = o.key.length := ⟨_, rfl⟩
  obtain ⟨m2, hm2⟩ : ∃ m, m = o.elem.length := ⟨_, rfl⟩
  have hz1 : (⟨o.key.toArray⟩ : ByteArray).size = m1 := by rw [hm1]; simp [ByteArray.size]
  have hz2 : (⟨o.elem.toArray⟩ : ByteArray).size = m2 := by rw [hm2]; simp [ByteArray.size]
  have hk63 : m1 ≤ 9223372036854775807 := by rw [hm1]; exact ho.1
  have hj63 : m2 ≤ 9223372036854775807 := by rw [hm2]; exact ho.2
  rw [← hfew] at HFE
  rw [← hmay, ← hX, ← hlx] at HPU
  rw [← hmer] at HME
  obtain ⟨par, hpar⟩ : ∃ p, p = c.par := ⟨_, rfl⟩
  have HPAR := Lib.hid hpar
  have HID := Lib.hid (fun w' (h : CmR w' c a cap) => h.ids)
  unfold Cmt.val Cmt.cs at HFE HME HPU ⊢
  obtain ⟨n, hn⟩ : ∃ x, x = c.par.length := ⟨_, rfl⟩
  obtain ⟨node, hnode⟩ : ∃ x, x = c.node := ⟨_, rfl⟩
  obtain ⟨seq, hseq⟩ : ∃ x, x = c.seq := ⟨_, rfl⟩
  obtain ⟨gen, hgen⟩ : ∃ x, x = c.gen := ⟨_, rfl⟩
  obtain ⟨kind, hkind⟩ : ∃ x, x = c.op.kind := ⟨_, rfl⟩
  obtain ⟨num, hnum⟩ : ∃ x, x = c.op.num := ⟨_, rfl⟩
  obtain ⟨s1, hs1⟩ : ∃ s : ByteArray, s = ⟨c.op.key.toArray⟩ := ⟨_, rfl⟩
  obtain ⟨s2, hs2⟩ : ∃ s : ByteArray, s = ⟨c.op.elem.toArray⟩ := ⟨_, rfl⟩
  try rw [← hn] at HFE
  try rw [← hnode] at HFE
  try rw [← hseq] at HFE
  try rw [← hgen] at HFE
  try rw [← hkind] at HFE
  try rw [← hnum] at HFE
  try rw [← hs1] at HFE
  try rw [← hs2] at HFE
  try rw [← hn] at HME
  try rw [← hnode] at HME
  try rw [← hseq] at HME
  try rw [← hgen] at HME
  try rw [← hkind] at HME
  try rw [← hnum] at HME
  try rw [← hs1] at HME
  try rw [← hs2] at HME
  try rw [← hn] at HPU
  try rw [← hnode] at HPU
  try rw [← hseq] at HPU
  try rw [← hgen] at HPU
  try rw [← hkind] at HPU
  try rw [← hnum] at HPU
  try rw [← hs1] at HPU
  try rw [← hs2] at HPU
  try rw [← hn] at HPA
  try rw [← hnode] at HPA
  try rw [← hseq] at HPA
  try rw [← hgen] at HPA
  try rw [← hkind] at HPA
  try rw [← hnum] at HPA
  try rw [← hs1] at HPA
  try rw [← hs2] at HPA
  try rw [← hn] at HPB
  try rw [← hnode] at HPB
  try rw [← hseq] at HPB
  try rw [← hgen] at HPB
  try rw [← hkind] at HPB
  try rw [← hnum] at HPB
  try rw [← hs1] at HPB
  try rw [← hs2] at HPB
  try rw [← hn] at HMS
  try rw [← hnode] at HMS
  try rw [← hseq] at HMS
  try rw [← hgen] at HMS
  try rw [← hkind] at HMS
  try rw [← hnum] at HMS
  try rw [← hs1] at HMS
  try rw [← hs2] at HMS
  try rw [← hn] at HEO
  try rw [← hnode] at HEO
  try rw [← hseq] at HEO
  try rw [← hgen] at HEO
  try rw [← hkind] at HEO
  try rw [← hnum] at HEO
  try rw [← hs1] at HEO
  try rw [← hs2] at HEO
  try rw [← hn] at HEI
  try rw [← hnode] at HEI
  try rw [← hseq] at HEI
  try rw [← hgen] at HEI
  try rw [← hkind] at HEI
  try rw [← hnum] at HEI
  try rw [← hs1] at HEI
  try rw [← hs2] at HEI
  try rw [← hn] at HES
  try rw [← hnode] at HES
  try rw [← hseq] at HES
  try rw [← hgen] at HES
  try rw [← hkind] at HES
  try rw [← hnum] at HES
  try rw [← hs1] at HES
  try rw [← hs2] at HES
  try rw [← hn] at HLO
  try rw [← hnode] at HLO
  try rw [← hseq] at HLO
  try rw [← hgen] at HLO
  try rw [← hkind] at HLO
  try rw [← hnum] at HLO
  try rw [← hs1] at HLO
  try rw [← hs2] at HLO
  try rw [← hn] at hn63
  try rw [← hnode] at hn63
  try rw [← hseq] at hn63
  try rw [← hgen] at hn63
  try rw [← hkind] at hn63
  try rw [← hnum] at hn63
  try rw [← hs1] at hn63
  try rw [← hs2] at hn63
  try rw [← hn] at HID
  try rw [← hnode] at HID
  try rw [← hseq] at HID
  try rw [← hgen] at HID
  try rw [← hkind] at HID
  try rw [← hnum] at HID
  try rw [← hs1] at HID
  try rw [← hs2] at HID
  try rw [← hn] at ⊢
  try rw [← hnode] at ⊢
  try rw [← hseq] at ⊢
  try rw [← hgen] at ⊢
  try rw [← hkind] at ⊢
  try rw [← hnum] at ⊢
  try rw [← hs1] at ⊢
  try rw [← hs2] at ⊢
  obtain ⟨ki, hki⟩ : ∃ x, x = o.kind := ⟨_, rfl⟩
  obtain ⟨nu, hnu⟩ : ∃ x, x = o.num := ⟨_, rfl⟩
  obtain ⟨t1, ht1⟩ : ∃ s : ByteArray, s = ⟨o.key.toArray⟩ := ⟨_, rfl⟩
  obtain ⟨t2, ht2⟩ : ∃ s : ByteArray, s = ⟨o.elem.toArray⟩ := ⟨_, rfl⟩
  try rw [← hki] at HPA
  try rw [← hnu] at HPA
  try rw [← ht1] at HPA
  try rw [← ht2] at HPA
  try rw [← hki] at HEO
  try rw [← hnu] at HEO
  try rw [← ht1] at HEO
  try rw [← ht2] at HEO
  try rw [← hki] at HEI
  try rw [← hnu] at HEI
  try rw [← ht1] at HEI
  try rw [← ht2] at HEI
  try rw [← hki] at hz1
  try rw [← hnu] at hz1
  try rw [← ht1] at hz1
  try rw [← ht2] at hz1
  try rw [← hki] at hz2
  try rw [← hnu] at hz2
  try rw [← ht1] at hz2
  try rw [← ht2] at hz2
  try rw [← hki] at ⊢
  try rw [← hnu] at ⊢
  try rw [← ht1] at ⊢
  try rw [← ht2] at ⊢
  have HN := Lib.hid hn
  clear hr ho hfew hmay hmer hmA hmB hX hY hZ hlx hly hlz he1 he2 hm1 hm2 hpar hki hnu ht1 ht2 hn hnode hseq hgen hkind hnum hs1 hs2
  go_enter Try.func8, Try.ntmps8
  go_upto_region 1 with fail
  obtain ⟨w1, hw1⟩ : ∃ w1, w1 = w.alloc (.cells ([.int .i64 node, .int .i64 seq, .int .i64 gen, .slice a n cap, .int .i64 kind, .string s1, .string s2, .int .i64 num] : List Value).toArray 28) := ⟨_, rfl⟩
  obtain ⟨w2, hw2⟩ : ∃ w2, w2 = w1.alloc (.cells ([.int .i64 ki, .string t1, .string t2, .int .i64 nu] : List Value).toArray 26) := ⟨_, rfl⟩
  have z1 : w1.heap.size = w.heap.size + 1 := by rw [hw1]; exact size_alloc' _ _
  have b01 : Below w.heap.size w w1 := by rw [hw1]; exact (Below.refl _ _).alloc (Nat.le_refl _) _
  have b12 : Below w1.heap.size w1 w2 := by rw [hw2]; exact (Below.refl _ _).alloc (Nat.le_refl _) _
  have c1 : Cel w1 w.heap.size 28 [.int .i64 node, .int .i64 seq, .int .i64 gen, .slice a n cap, .int .i64 kind, .string s1, .string s2, .int .i64 num] := by rw [hw1]; exact Cel.new w _ _
  have c2 : Cel w2 (w.heap.size + 1) 26 [.int .i64 ki, .string t1, .string t2, .int .i64 nu] := by rw [hw2, ← z1]; exact Cel.new w1 _ _
  generalize hwg : World.alloc (World.alloc w _) _ = wG
  obtain rfl : w2 = wG := by rw [← hwg, hw2, hw1]
  obtain ⟨b1, hb1⟩ : ∃ b, b = w.heap.size := ⟨_, rfl⟩
  obtain ⟨b2, hb2⟩ : ∃ b, b = w.heap.size + 1 := ⟨_, rfl⟩
  rw [← hb2] at c2 ⊢
  rw [← hb1] at c1 ⊢
  have HC2 := Lib.hid (c1.step b12)
  have HO2 := Lib.hid c2
  have HB2 := Lib.hid (b01.step b12)
  have HS2 := Lib.hid (show b1 = w.heap.size ∧ b2 = w.heap.size + 1 from ⟨hb1, hb2⟩)
  clear hwg hw1 hw2 z1 b01 b12 c1 c2 hb1 hb2
  go_wp2_with fail
  refine (awake10 _).mono ?_
  rintro e w3 ⟨rfl, hb⟩
  have HC3 := Lib.hid (HC2.out.step hb)
  have HO3 := Lib.hid (HO2.out.step hb)
  have HB3 := Lib.hid (HB2.out.step hb)
  clear hb
  have p0 : w3.cell? ⟨b1, 0, none⟩ = some (.int .i64 node) := HC3.out.at 0 _ rfl
  have p1 : w3.cell? ⟨b1, 1, none⟩ = some (.int .i64 seq) := HC3.out.at 1 _ rfl
  have p2 : w3.cell? ⟨b1, 2, none⟩ = some (.int .i64 gen) := HC3.out.at 2 _ rfl
  have p3 : w3.cell? ⟨b1, 3, none⟩ = some (.slice a n cap) := HC3.out.at 3 _ rfl
  have p4 : w3.cell? ⟨b1, 4, none⟩ = some (.int .i64 kind) := HC3.out.at 4 _ rfl
  have p5 : w3.cell? ⟨b1, 5, none⟩ = some (.string s1) := HC3.out.at 5 _ rfl
  have p6 : w3.cell? ⟨b1, 6, none⟩ = some (.string s2) := HC3.out.at 6 _ rfl
  have p7 : w3.cell? ⟨b1, 7, none⟩ = some (.int .i64 num) := HC3.out.at 7 _ rfl
  have q0 : w3.cell? ⟨b2, 0, none⟩ = some (.int .i64 ki) := HO3.out.at 0 _ rfl
  have q1 : w3.cell? ⟨b2, 1, none⟩ = some (.string t1) := HO3.out.at 1 _ rfl
  have q2 : w3.cell? ⟨b2, 2, none⟩ = some (.string t2) := HO3.out.at 2 _ rfl
  have q3 : w3.cell? ⟨b2, 3, none⟩ = some (.int .i64 nu) := HO3.out.at 3 _ rfl
  go_wp2_with fail
  refine (HFE.out _ (HRC.out.below HB3.out)).mono ?_
  rintro e w4 ⟨rfl, hb⟩
  have HC4 := Lib.hid (HC3.out.step hb)
  have HO4 := Lib.hid (HO3.out.step hb)
  have HB4 := Lib.hid (HB3.out.step hb)
  clear p0 p1 p2 p3 p4 p5 p6 p7 q0 q1 q2 q3
  clear hb
  have p0 : w4.cell? ⟨b1, 0, none⟩ = some (.int .i64 node) := HC4.out.at 0 _ rfl
  have p1 : w4.cell? ⟨b1, 1, none⟩ = some (.int .i64 seq) := HC4.out.at 1 _ rfl
  have p2 : w4.cell? ⟨b1, 2, none⟩ = some (.int .i64 gen) := HC4.out.at 2 _ rfl
  have p3 : w4.cell? ⟨b1, 3, none⟩ = some (.slice a n cap) := HC4.out.at 3 _ rfl
  have p4 : w4.cell? ⟨b1, 4, none⟩ = some (.int .i64 kind) := HC4.out.at 4 _ rfl
  have p5 : w4.cell? ⟨b1, 5, none⟩ = some (.string s1) := HC4.out.at 5 _ rfl
  have p6 : w4.cell? ⟨b1, 6, none⟩ = some (.string s2) := HC4.out.at 6 _ rfl
  have p7 : w4.cell? ⟨b1, 7, none⟩ = some (.int .i64 num) := HC4.out.at 7 _ rfl
  have q0 : w4.cell? ⟨b2, 0, none⟩ = some (.int .i64 ki) := HO4.out.at 0 _ rfl
  have q1 : w4.cell? ⟨b2, 1, none⟩ = some (.string t1) := HO4.out.at 1 _ rfl
  have q2 : w4.cell? ⟨b2, 2, none⟩ = some (.string t2) := HO4.out.at 2 _ rfl
  have q3 : w4.cell? ⟨b2, 3, none⟩ = some (.int .i64 nu) := HO4.out.at 3 _ rfl
  cases may with
  | false =>
    simp only [Bool.false_eq_true, if_false] at HPU
    go_wp2_with fail
    refine (HPU.out _ (HRC.out.below HB4.out)).mono ?_
    rintro e w5 ⟨rfl, hb⟩
    have HC5 := Lib.hid (HC4.out.step hb)
    have HO5 := Lib.hid (HO4.out.step hb)
    have HB5 := Lib.hid (HB4.out.step hb)
    clear p0 p1 p2 p3 p4 p5 p6 p7 q0 q1 q2 q3
    clear hb
    cases few with
    | false =>
      go_wp2_with fail
      go_ret
      exact ⟨rfl, HB5.out⟩
    | true =>
      go_wp2_with fail
      go_ret
      exact ⟨rfl, HB5.out⟩
  | true =>
  simp only [if_true] at HPU
  go_wp2_with fail
  refine (HPU.out _ (HRC.out.below HB4.out)).mono ?_
  rintro e w5 ⟨a5, c5, rfl, hr5, hz5, hb⟩
  have HC5 := Lib.hid (HC4.out.step hb)
  have HO5 := Lib.hid (HO4.out.step hb)
  have HB5 := Lib.hid (HB4.out.step hb)
  have HX5 := Lib.hid (And.intro hr5 hz5)
  clear hr5 hz5
  clear p0 p1 p2 p3 p4 p5 p6 p7 q0 q1 q2 q3
  clear hb
  have p0 : w5.cell? ⟨b1, 0, none⟩ = some (.int .i64 node) := HC5.out.at 0 _ rfl
  have p1 : w5.cell? ⟨b1, 1, none⟩ = some (.int .i64 seq) := HC5.out.at 1 _ rfl
  have p2 : w5.cell? ⟨b1, 2, none⟩ = some (.int .i64 gen) := HC5.out.at 2 _ rfl
  have p3 : w5.cell? ⟨b1, 3, none⟩ = some (.slice a n cap) := HC5.out.at 3 _ rfl
  have p4 : w5.cell? ⟨b1, 4, none⟩ = some (.int .i64 kind) := HC5.out.at 4 _ rfl
  have p5 : w5.cell? ⟨b1, 5, none⟩ = some (.string s1) := HC5.out.at 5 _ rfl
  have p6 : w5.cell? ⟨b1, 6, none⟩ = some (.string s2) := HC5.out.at 6 _ rfl
  have p7 : w5.cell? ⟨b1, 7, none⟩ = some (.int .i64 num) := HC5.out.at 7 _ rfl
  have q0 : w5.cell? ⟨b2, 0, none⟩ = some (.int .i64 ki) := HO5.out.at 0 _ rfl
  have q1 : w5.cell? ⟨b2, 1, none⟩ = some (.string t1) := HO5.out.at 1 _ rfl
  have q2 : w5.cell? ⟨b2, 2, none⟩ = some (.string t2) := HO5.out.at 2 _ rfl
  have q3 : w5.cell? ⟨b2, 3, none⟩ = some (.int .i64 nu) := HO5.out.at 3 _ rfl
  cases few with
  | false =>
    go_wp2_with fail
    go_ret
    exact ⟨rfl, HB5.out⟩
  | true =>
  go_wp2_with fail
  refine (HME.out _ (HRC.out.below HB5.out)).mono ?_
  rintro e w6 ⟨rfl, hb⟩
  have HC6 := Lib.hid (HC5.out.step hb)
  have HO6 := Lib.hid (HO5.out.step hb)
  have HB6 := Lib.hid (HB5.out.step hb)
  have HX6 := Lib.hid (HX5.out.1.below hb)
  clear p0 p1 p2 p3 p4 p5 p6 p7 q0 q1 q2 q3
  clear hb
  have p0 : w6.cell? ⟨b1, 0, none⟩ = some (.int .i64 node) := HC6.out.at 0 _ rfl
  have p1 : w6.cell? ⟨b1, 1, none⟩ = some (.int .i64 seq) := HC6.out.at 1 _ rfl
  have p2 : w6.cell? ⟨b1, 2, none⟩ = some (.int .i64 gen) := HC6.out.at 2 _ rfl
  have p3 : w6.cell? ⟨b1, 3, none⟩ = some (.slice a n cap) := HC6.out.at 3 _ rfl
  have p4 : w6.cell? ⟨b1, 4, none⟩ = some (.int .i64 kind) := HC6.out.at 4 _ rfl
  have p5 : w6.cell? ⟨b1, 5, none⟩ = some (.string s1) := HC6.out.at 5 _ rfl
  have p6 : w6.cell? ⟨b1, 6, none⟩ = some (.string s2) := HC6.out.at 6 _ rfl
  have p7 : w6.cell? ⟨b1, 7, none⟩ = some (.int .i64 num) := HC6.out.at 7 _ rfl
  have q0 : w6.cell? ⟨b2, 0, none⟩ = some (.int .i64 ki) := HO6.out.at 0 _ rfl
  have q1 : w6.cell? ⟨b2, 1, none⟩ = some (.string t1) := HO6.out.at 1 _ rfl
  have q2 : w6.cell? ⟨b2, 2, none⟩ = some (.string t2) := HO6.out.at 2 _ rfl
  have q3 : w6.cell? ⟨b2, 3, none⟩ = some (.int .i64 nu) := HO6.out.at 3 _ rfl
  cases mer with
  | true =>
    go_wp2_with fail
    go_ret
    exact ⟨rfl, HB6.out⟩
  | false =>
  obtain ⟨hlo, hn8⟩ := HLO.out (by first | rfl | trivial) (by first | rfl | trivial)
  have HLX := Lib.hid hlo
  clear hlo
  by_cases h1 : 100 < (m1 : Int)
  · go_wp2_with fail
    go_ret
    exact ⟨rfl, HB6.out⟩
  by_cases h2 : 100 < (m2 : Int)
  · go_wp2_with fail
    go_ret
    exact ⟨rfl, HB6.out⟩
  go_upto_region 7 with fail
  obtain ⟨b3, hb3⟩ : ∃ b, b = w6.heap.size := ⟨_, rfl⟩
  have hC0 := Cel.new w6 28 [.int .i64 node, .int .i64 seq, .int .i64 gen, .slice a n cap, .int .i64 kind, .string s1, .string s2, .int .i64 num]
  rw [← hb3] at hC0 ⊢
  generalize hw7 : w6.alloc (.cells _ _) = w7
  have HD7 := Lib.hid (show Cel w7 b3 28 [.int .i64 node, .int .i64 seq, .int .i64 gen, .slice a n cap, .int .i64 kind, .string s1, .string s2, .int .i64 num] by rw [← hw7]; exact hC0)
  have hb67 : Below w6.heap.size w6 w7 := by rw [← hw7]; exact (Below.refl _ _).alloc (Nat.le_refl _) _
  have HC7 := Lib.hid (HC6.out.step hb67)
  have HO7 := Lib.hid (HO6.out.step hb67)
  have HB7 := Lib.hid (HB6.out.step hb67)
  have HX7 := Lib.hid (HX6.out.below hb67)
  have HS7 := Lib.hid (show b1 < b3 ∧ b2 < b3 ∧ w6.heap.size ≤ b3 from ⟨by rw [hb3]; exact HC6.out.lt, by rw [hb3]; exact HO6.out.lt, by rw [hb3]; exact Nat.le_refl _⟩)
  clear hC0 hw7 hb67 hb3 p0 p1 p2 p3 p4 p5 p6 p7 q0 q1 q2 q3
  have q0 : w7.cell? ⟨b2, 0, none⟩ = some (.int .i64 ki) := HO7.out.at 0 _ rfl
  have q1 : w7.cell? ⟨b2, 1, none⟩ = some (.string t1) := HO7.out.at 1 _ rfl
  have q2 : w7.cell? ⟨b2, 2, none⟩ = some (.string t2) := HO7.out.at 2 _ rfl
  have q3 : w7.cell? ⟨b2, 3, none⟩ = some (.int .i64 nu) := HO7.out.at 3 _ rfl
  have r4 : w7.cell? ⟨b3, 4, none⟩ = some (.int .i64 kind) := HD7.out.at 4 _ rfl
  have r5 : w7.cell? ⟨b3, 5, none⟩ = some (.string s1) := HD7.out.at 5 _ rfl
  have r6 : w7.cell? ⟨b3, 6, none⟩ = some (.string s2) := HD7.out.at 6 _ rfl
  have r7 : w7.cell? ⟨b3, 7, none⟩ = some (.int .i64 num) := HD7.out.at 7 _ rfl
  have f4 : w7.frozen? ⟨b3, 4, none⟩ = false := HD7.out.free 4
  have f5 : w7.frozen? ⟨b3, 5, none⟩ = false := HD7.out.free 5
  have f6 : w7.frozen? ⟨b3, 6, none⟩ = false := HD7.out.free 6
  have f7 : w7.frozen? ⟨b3, 7, none⟩ = false := HD7.out.free 7
  go_upto_region 8 with fail
  generalize hw8 : World.setCell (World.setCell (World.setCell (World.setCell w7 _ _) _ _) _ _) _ _ = w8
  have ho8 : Only w7 w8 b3 := by rw [← hw8]; exact (((only_set _ _ _ _).trans (only_set _ _ _ _)).trans (only_set _ _ _ _)).trans (only_set _ _ _ _)
  have HD8 := Lib.hid (show Cel w8 b3 28 [.int .i64 node, .int .i64 seq, .int .i64 gen, .slice a n cap, .int .i64 ki, .string t1, .string t2, .int .i64 nu] by rw [← hw8]; exact (((HD7.out.set 4 _).set 5 _).set 6 _).set 7 _)
  have hs7 := HS7.out
  have hs6 := HB6.out.size
  have HC8 := Lib.hid (show Cel w8 b1 28 [.int .i64 node, .int .i64 seq, .int .i64 gen, .slice a n cap, .int .i64 kind, .string s1, .string s2, .int .i64 num] from ho8.heap HC7.out (by omega))
  have HO8 := Lib.hid (show Cel w8 b2 26 [.int .i64 ki, .string t1, .string t2, .int .i64 nu] from ho8.heap HO7.out (by omega))
  have HB8 := Lib.hid (ho8.below HB7.out (by omega))
  have HX8 := Lib.hid (HX7.out.only' ho8 (HX7.out.apart HD7.out (by intro v hv z; simp only [List.mem_cons, List.not_mem_nil, or_false] at hv; rcases hv with rfl | rfl | rfl | rfl | rfl | rfl | rfl | rfl <;> exact fun h => nomatch h)))
  clear hw8 ho8 hs7 hs6 r4 r5 r6 r7 f4 f5 f6 f7 q0 q1 q2 q3
  have r0 : w8.cell? ⟨b3, 0, none⟩ = some (.int .i64 node) := HD8.out.at 0 _ rfl
  have r1 : w8.cell? ⟨b3, 1, none⟩ = some (.int .i64 seq) := HD8.out.at 1 _ rfl
  have r2 : w8.cell? ⟨b3, 2, none⟩ = some (.int .i64 gen) := HD8.out.at 2 _ rfl
  have r3 : w8.cell? ⟨b3, 3, none⟩ = some (.slice a n cap) := HD8.out.at 3 _ rfl
  have r4 : w8.cell? ⟨b3, 4, none⟩ = some (.int .i64 ki) := HD8.out.at 4 _ rfl
  have r5 : w8.cell? ⟨b3, 5, none⟩ = some (.string t1) := HD8.out.at 5 _ rfl
  have r6 : w8.cell? ⟨b3, 6, none⟩ = some (.string t2) := HD8.out.at 6 _ rfl
  have r7 : w8.cell? ⟨b3, 7, none⟩ = some (.int .i64 nu) := HD8.out.at 7 _ rfl
  go_wp2_with fail
  refine (HPA.out _ (HRC.out.below HB8.out)).mono ?_
  intro e w9 hpa
  cases mA with
  | true =>
    rw [if_pos rfl] at hpa
    obtain ⟨a9, c9, rfl, hr9, _, hb⟩ := hpa
    have HY9 := Lib.hid hr9
    have HE1T := Lib.hid (HE1.out (by first | rfl | trivial) (by first | rfl | trivial))
    clear hr9
    have HC9 := Lib.hid (HC8.out.step hb)
    have HO9 := Lib.hid (HO8.out.step hb)
    have HB9 := Lib.hid (HB8.out.step hb)
    have HX9 := Lib.hid (HX8.out.below hb)
    clear hb r0 r1 r2 r3 r4 r5 r6 r7
    have p0 : w9.cell? ⟨b1, 0, none⟩ = some (.int .i64 node) := HC9.out.at 0 _ rfl
    have p1 : w9.cell? ⟨b1, 1, none⟩ = some (.int .i64 seq) := HC9.out.at 1 _ rfl
    have p2 : w9.cell? ⟨b1, 2, none⟩ = some (.int .i64 gen) := HC9.out.at 2 _ rfl
    have p3 : w9.cell? ⟨b1, 3, none⟩ = some (.slice a n cap) := HC9.out.at 3 _ rfl
    have p4 : w9.cell? ⟨b1, 4, none⟩ = some (.int .i64 kind) := HC9.out.at 4 _ rfl
    have p5 : w9.cell? ⟨b1, 5, none⟩ = some (.string s1) := HC9.out.at 5 _ rfl
    have p6 : w9.cell? ⟨b1, 6, none⟩ = some (.string s2) := HC9.out.at 6 _ rfl
    have p7 : w9.cell? ⟨b1, 7, none⟩ = some (.int .i64 num) := HC9.out.at 7 _ rfl
    go_upto_region 10 with fail
    obtain ⟨b4, hb4⟩ : ∃ b, b = w9.heap.size := ⟨_, rfl⟩
    have hC0 := Cel.new w9 28 [.int .i64 node, .int .i64 seq, .int .i64 gen, .slice a n cap, .int .i64 kind, .string s1, .string s2, .int .i64 num]
    rw [← hb4] at hC0 ⊢
    generalize hw10 : w9.alloc (.cells _ _) = w10
    have HD10 := Lib.hid (show Cel w10 b4 28 [.int .i64 node, .int .i64 seq, .int .i64 gen, .slice a n cap, .int .i64 kind, .string s1, .string s2, .int .i64 num] by rw [← hw10]; exact hC0)
    have hb910 : Below w9.heap.size w9 w10 := by rw [← hw10]; exact (Below.refl _ _).alloc (Nat.le_refl _) _
    have HC10 := Lib.hid (HC9.out.step hb910)
    have HO10 := Lib.hid (HO9.out.step hb910)
    have HB10 := Lib.hid (HB9.out.step hb910)
    have HX10 := Lib.hid (HX9.out.below hb910)
    have HY10 := Lib.hid (HY9.out.below hb910)
    have HS10 := Lib.hid (show b1 < b4 ∧ b2 < b4 ∧ w9.heap.size ≤ b4 from ⟨by rw [hb4]; exact HC9.out.lt, by rw [hb4]; exact HO9.out.lt, by rw [hb4]; exact Nat.le_refl _⟩)
    clear hC0 hw10 hb910 hb4 p0 p1 p2 p3 p4 p5 p6 p7
    have r1 : w10.cell? ⟨b4, 1, none⟩ = some (.int .i64 seq) := HD10.out.at 1 _ rfl
    have f1 : w10.frozen? ⟨b4, 1, none⟩ = false := HD10.out.free 1
    go_upto_region 11 with fail
    generalize hw11 : World.setCell w10 _ _ = w11
    have ho11 : Only w10 w11 b4 := by rw [← hw11]; exact only_set _ _ _ _
    have HD11 := Lib.hid (show Cel w11 b4 28 [.int .i64 node, .int .i64 sq, .int .i64 gen, .slice a n cap, .int .i64 kind, .string s1, .string s2, .int .i64 num] by rw [← hw11]; exact HD10.out.set 1 _)
    have hs7 := HS10.out
    have hs6 := HB9.out.size
    have HC11 := Lib.hid (show Cel w11 b1 28 [.int .i64 node, .int .i64 seq, .int .i64 gen, .slice a n cap, .int .i64 kind, .string s1, .string s2, .int .i64 num] from ho11.heap HC10.out (by omega))
    have HO11 := Lib.hid (show Cel w11 b2 26 [.int .i64 ki, .string t1, .string t2, .int .i64 nu] from ho11.heap HO10.out (by omega))
    have HB11 := Lib.hid (ho11.below HB10.out (by omega))
    have HX11 := Lib.hid (HX10.out.only' ho11 (HX10.out.apart HD10.out (by intro v hv z; simp only [List.mem_cons, List.not_mem_nil, or_false] at hv; rcases hv with rfl | rfl | rfl | rfl | rfl | rfl | rfl | rfl <;> exact fun h => nomatch h)))
    have HY11 := Lib.hid (HY10.out.only' ho11 (HY10.out.apart HD10.out (by intro v hv z; simp only [List.mem_cons, List.not_mem_nil, or_false] at hv; rcases hv with rfl | rfl | rfl | rfl | rfl | rfl | rfl | rfl <;> exact fun h => nomatch h)))
    clear hw11 ho11 hs7 hs6 r1 f1
    have r0 : w11.cell? ⟨b4, 0, none⟩ = some (.int .i64 node) := HD11.out.at 0 _ rfl
    have r1 : w11.cell? ⟨b4, 1, none⟩ = some (.int .i64 sq) := HD11.out.at 1 _ rfl
    have r2 : w11.cell? ⟨b4, 2, none⟩ = some (.int .i64 gen) := HD11.out.at 2 _ rfl
    have r3 : w11.cell? ⟨b4, 3, none⟩ = some (.slice a n cap) := HD11.out.at 3 _ rfl
    have r4 : w11.cell? ⟨b4, 4, none⟩ = some (.int .i64 kind) := HD11.out.at 4 _ rfl
    have r5 : w11.cell? ⟨b4, 5, none⟩ = some (.string s1) := HD11.out.at 5 _ rfl
    have r6 : w11.cell? ⟨b4, 6, none⟩ = some (.string s2) := HD11.out.at 6 _ rfl
    have r7 : w11.cell? ⟨b4, 7, none⟩ = some (.int .i64 num) := HD11.out.at 7 _ rfl
    go_wp2_with fail
    refine (HPB.out _ (HRC.out.below HB11.out)).mono ?_
    intro e w12 hpb
    cases mB with
    | true =>
      rw [if_pos rfl] at hpb
      obtain ⟨a12, c12, rfl, hr12, _, hb⟩ := hpb
      have HZ12 := Lib.hid hr12
      have HE2T := Lib.hid (HE2.out (by first | rfl | trivial) (by first | rfl | trivial))
      clear hr12
      have HC12 := Lib.hid (HC11.out.step hb)
      have HO12 := Lib.hid (HO11.out.step hb)
      have HB12 := Lib.hid (HB11.out.step hb)
      have HX12 := Lib.hid (HX11.out.below hb)
      have HY12 := Lib.hid (HY11.out.below hb)
      clear hb r0 r1 r2 r3 r4 r5 r6 r7
      go_upto_region 12 with fail
      have hD : ∀ j, j < 41 → ∀ n, n < 41 → j ≠ n → dkN [70, 71, 72, 73, 74, 75, 76, 77, 78, 79, 80, 81, 82, 83, 84, 85, 86, 87, 88, 89, 90, 91, 92, 93, 94, 95, 96, 97, 98, 99, 100, 101, 102, 103, 104, 105, 106, 107, 108, 109, 110] j ≠ dkN [70, 71, 72, 73, 74, 75, 76, 77, 78, 79, 80, 81, 82, 83, 84, 85, 86, 87, 88, 89, 90, 91, 92, 93, 94, 95, 96, 97, 98, 99, 100, 101, 102, 103, 104, 105, 106, 107, 108, 109, 110] n := by decide +kernel
      refine region_fun (by kernel_rfl) (by kernel_rfl) (fun gv => #[gv 0, gv 1, .int .i64 sq, .pointer (some ⟨b1, 0, none⟩), .pointer (some ⟨b2, 0, none⟩), gv 5, gv 6, gv 7, gv 8, .slice a5 lx c5, gv 10, gv 11, .slice a9 ly c9, .int .i64 0, gv 14, .slice a12 lz c12, .int .i64 0, gv 17, gv 18, gv 19, gv 20, gv 21, gv 22, gv 23, gv 24, gv 25, gv 26, gv 27, gv 28, gv 29, gv 30, gv 31, gv 32, gv 33, gv 34, gv 35, gv 36, gv 37, gv 38, gv 39, gv 40, gv 41, gv 42, gv 43, gv 44, gv 45, gv 46, gv 47, gv 48, gv 49, gv 50, gv 51, gv 52, gv 53, gv 54, gv 55, gv 56, gv 57, gv 58, gv 59, gv 60, gv 61, gv 62, gv 63, gv 64, gv 65, gv 66, gv 67, gv 68, gv 69, gv 70, gv 71, gv 72, gv 73, gv 74, gv 75, gv 76, gv 77, gv 78, gv 79, gv 80, gv 81, gv 82, gv 83, gv 84, gv 85, gv 86, gv 87, gv 88, gv 89, gv 90, gv 91, gv 92, gv 93, gv 94, gv 95, gv 96, gv 97, gv 98, gv 99, gv 100, gv 101, gv 102, gv 103, gv 104, gv 105, gv 106, gv 107, gv 108, gv 109, gv 110, gv 111, gv 112, gv 113, gv 114, gv 115, gv 116, gv 117, gv 118, gv 119, gv 120, gv 121, gv 122, gv 123, gv 124, gv 125, gv 126, gv 127, gv 128, gv 129, gv 130, gv 131, gv 132, gv 133, gv 134, gv 135, gv 136]) rfl (fun f gv wx => Below w12.heap.size w12 wx ∧ (∀ j, j < 41 → (fun j => false) j = false → On f j → gv (dkN [70, 71, 72, 73, 74, 75, 76, 77, 78, 79, 80, 81, 82, 83, 84, 85, 86, 87, 88, 89, 90, 91, 92, 93, 94, 95, 96, 97, 98, 99, 100, 101, 102, 103, 104, 105, 106, 107, 108, 109, 110] j) = vkN [.slice a5 lx c5, .int .i64 (lx : Int), .pointer (some ⟨b1, 3, none⟩), .slice a n cap, .int .i64 (n : Int), .int .i64 (32 * (n : Int)), .int .i64 (32 * (n : Int) + 7), .bool false, .bool false, .int .i64 0, .bool true, .bool true, .slice a5 lx c5, .string ⟨X.toArray⟩, .slice a9 ly c9, .string ⟨Y.toArray⟩, .bool e1, .agg #[.int .i64 ki, .string t1, .string t2, .int .i64 nu], .pointer (some ⟨b1, 4, none⟩), .agg #[.int .i64 kind, .string s1, .string s2, .int .i64 num], .bool e1, .bool false, .bool false, .bool false, .bool false, .int .i64 0, .bool true, .bool true, .slice a5 lx c5, .string ⟨X.toArray⟩, .slice a12 lz c12, .string ⟨Z.toArray⟩, .bool e2, .int .i64 sq, .pointer (some ⟨b1, 0, none⟩), .pointer (some ⟨b1, 1, none⟩), .int .i64 seq, .bool e2, .bool false, .bool false, .bool false] j) ∧ (Cel wx b1 28 [.int .i64 node, .int .i64 seq, .int .i64 gen, .slice a n cap, .int .i64 kind, .string s1, .string s2, .int .i64 num]) ∧ (Cel wx b2 26 [.int .i64 ki, .string t1, .string t2, .int .i64 nu]) ∧ (Rd wx a5 lx c5 X) ∧ (Rd wx a9 ly c9 Y) ∧ (Rd wx a12 lz c12 Z)) ?_ ?_ ?_
      · have hoff : ∀ j, ¬ On (Array.replicate 41 false) j := by
          intro j hj; simp only [On, Array.getD_eq_getD_getElem?, Array.getElem?_replicate] at hj; split at hj <;> simp at hj
        exact ⟨(Below.refl _ _).drew, fun j _ _ x => absurd x (hoff _), HC12.out.step (below_drewNw _ _), HO12.out.step (below_drewNw _ _), HX12.out.below (below_drewNw _ _), HY12.out.below (below_drewNw _ _), HZ12.out.below (below_drewNw _ _)⟩
      · rintro i' o' f gv wm hio hs' hn he ⟨hBx, P, QC, QO, QX, QY, QZ⟩ KK hKK
        have hi' : i' < 41 := (Array.getElem?_eq_some_iff.1 hio).1
        replace hs' : f.size = 41 := hs'
        match i', hi' with
        | 0, _ =>
          cases hio
          have HQ := Lib.hid (And.intro P (And.intro QC (And.intro QO (And.intro QX (And.intro QY QZ)))))
          clear P QC QO QX QY QZ
          go_simp
          obtain ⟨P, QC, QO, QX, QY, QZ⟩ := HQ.out
          exact hKK (upd gv 70 (.slice a5 lx c5)) _ (by exact ⟨hBx, vals_step (n := 0) (v := .slice a5 lx c5) hD (by decide) (by omega) P (fun _ => rfl), QC, QO, QX, QY, QZ⟩)
        | 1, _ =>
          cases hio
          have h0 : On f 0 := he ⟨0, .data⟩ (by simp) rfl
          have e0 : gv 70 = .slice a5 lx c5 := P 0 (by decide) rfl h0
          rw [e0]
          have HQ := Lib.hid (And.intro P (And.intro QC (And.intro QO (And.intro QX (And.intro QY QZ)))))
          clear P QC QO QX QY QZ
          go_simp
          obtain ⟨P, QC, QO, QX, QY, QZ⟩ := HQ.out
          exact hKK (upd (upd gv 70 (.slice a5 lx c5)) 71 (.int .i64 (lx : Int))) _ (by rw [upd_same e0]; exact ⟨hBx, vals_step (n := 1) (v := .int .i64 (lx : Int)) hD (by decide) (by omega) P (fun _ => rfl), QC, QO, QX, QY, QZ⟩)
        | 2, _ =>
          cases hio
          have HQ := Lib.hid (And.intro P (And.intro QC (And.intro QO (And.intro QX (And.intro QY QZ)))))
          clear P QC QO QX QY QZ
          go_simp
          obtain ⟨P, QC, QO, QX, QY, QZ⟩ := HQ.out
          exact hKK (upd gv 72 (.pointer (some ⟨b1, 3, none⟩))) _ (by exact ⟨hBx, vals_step (n := 2) (v := .pointer (some ⟨b1, 3, none⟩)) hD (by decide) (by omega) P (fun _ => rfl), QC, QO, QX, QY, QZ⟩)
        | 3, _ =>
          cases hio
          have h2 : On f 2 := he ⟨2, .data⟩ (by simp) rfl
          have e2 : gv 72 = .pointer (some ⟨b1, 3, none⟩) := P 2 (by decide) rfl h2
          have d3 : wm.cell? ⟨b1, 3, none⟩ = some (.slice a n cap) := QC.at 3 _ rfl
          rw [e2]
          have HQ := Lib.hid (And.intro P (And.intro QC (And.intro QO (And.intro QX (And.intro QY QZ)))))
          clear P QC QO QX QY QZ
          go_simp
          obtain ⟨P, QC, QO, QX, QY, QZ⟩ := HQ.out
          exact hKK (upd (upd gv 72 (.pointer (some ⟨b1, 3, none⟩))) 73 (.slice a n cap)) _ (by rw [upd_same e2]; exact ⟨hBx, vals_step (n := 3) (v := .slice a n cap) hD (by decide) (by omega) P (fun _ => rfl), QC, QO, QX, QY, QZ⟩)
        | 4, _ =>
          cases hio
          have h3 : On f 3 := he ⟨3, .data⟩ (by simp) rfl
          have e3 : gv 73 = .slice a n cap := P 3 (by decide) rfl h3
          rw [e3]
          have HQ := Lib.hid (And.intro P (And.intro QC (And.intro QO (And.intro QX (And.intro QY QZ)))))
          clear P QC QO QX QY QZ
          go_simp
          obtain ⟨P, QC, QO, QX, QY, QZ⟩ := HQ.out
          exact hKK (upd (upd gv 73 (.slice a n cap)) 74 (.int .i64 (n : Int))) _ (by rw [upd_same e3]; exact ⟨hBx, vals_step (n := 4) (v := .int .i64 (n : Int)) hD (by decide) (by omega) P (fun _ => rfl), QC, QO, QX, QY, QZ⟩)
        | 5, _ =>
          cases hio
          have h4 : On f 4 := he ⟨4, .data⟩ (by simp) rfl
          have e4 : gv 74 = .int .i64 (n : Int) := P 4 (by decide) rfl h4
          have hw5 : IntKind.i64.wrap (32 * (n : Int)) = 32 * (n : Int) := by rw [IntWalk.i64_in _ ⟨by omega, by omega⟩]
          rw [e4]
          have HQ := Lib.hid (And.intro P (And.intro QC (And.intro QO (And.intro QX (And.intro QY QZ)))))
          clear P QC QO QX QY QZ
          go_simp
          obtain ⟨P, QC, QO, QX, QY, QZ⟩ := HQ.out
          exact hKK (upd (upd gv 74 (.int .i64 (n : Int))) 75 (.int .i64 (32 * (n : Int)))) _ (by rw [upd_same e4]; exact ⟨hBx, vals_step (n := 5) (v := .int .i64 (32 * (n : Int))) hD (by decide) (by omega) P (fun _ => rfl), QC, QO, QX, QY, QZ⟩)
        | 6, _ =>
          cases hio
          have h5 : On f 5 := he ⟨5, .data⟩ (by simp) rfl
          have e5 : gv 75 = .int .i64 (32 * (n : Int)) := P 5 (by decide) rfl h5
          have hw5 : IntKind.i64.wrap (32 * (n : Int) + 7) = 32 * (n : Int) + 7 := by rw [IntWalk.i64_in _ ⟨by omega, by omega⟩]
          rw [e5]
          have HQ := Lib.hid (And.intro P (And.intro QC (And.intro QO (And.intro QX (And.intro QY QZ)))))
          clear P QC QO QX QY QZ
          go_simp
          obtain ⟨P, QC, QO, QX, QY, QZ⟩ := HQ.out
          exact hKK (upd (upd gv 75 (.int .i64 (32 * (n : Int)))) 76 (.int .i64 (32 * (n : Int) + 7))) _ (by rw [upd_same e5]; exact ⟨hBx, vals_step (n := 6) (v := .int .i64 (32 * (n : Int) + 7)) hD (by decide) (by omega) P (fun _ => rfl), QC, QO, QX, QY, QZ⟩)
        | 7, _ =>
          cases hio
          have h1 : On f 1 := he ⟨1, .data⟩ (by simp) rfl
          have e1 : gv 71 = .int .i64 (lx : Int) := P 1 (by decide) rfl h1
          have h6 : On f 6 := he ⟨6, .data⟩ (by simp) rfl
          have e6 : gv 76 = .int .i64 (32 * (n : Int) + 7) := P 6 (by decide) rfl h6
          have hq : ¬ (lx : Int) < 32 * (n : Int) + 7 := by have := HLX.out; omega
          rw [e1, e6]
          have HQ := Lib.hid (And.intro P (And.intro QC (And.intro QO (And.intro QX (And.intro QY QZ)))))
          clear P QC QO QX QY QZ
          go_simp
          obtain ⟨P, QC, QO, QX, QY, QZ⟩ := HQ.out
          exact hKK (upd (upd (upd gv 71 (.int .i64 (lx : Int))) 76 (.int .i64 (32 * (n : Int) + 7))) 77 (.bool false)) _ (by rw [upd_same e1]; rw [upd_same e6]; exact ⟨hBx, vals_step (n := 7) (v := .bool false) hD (by decide) (by omega) P (fun _ => rfl), QC, QO, QX, QY, QZ⟩)
        | 8, _ =>
          cases hio
          have h7 : On f 7 := he ⟨7, .data⟩ (by simp) rfl
          have e7 : gv 77 = .bool false := P 7 (by decide) rfl h7
          rw [e7]
          have HQ := Lib.hid (And.intro P (And.intro QC (And.intro QO (And.intro QX (And.intro QY QZ)))))
          clear P QC QO QX QY QZ
          go_simp
          obtain ⟨P, QC, QO, QX, QY, QZ⟩ := HQ.out
          exact hKK (upd (upd gv 77 (.bool false)) 78 (.bool false)) _ (by rw [upd_same e7]; exact ⟨hBx, vals_step (n := 8) (v := .bool false) hD (by decide) (by omega) P (fun _ => rfl), QC, QO, QX, QY, QZ⟩)
        | 9, _ =>
          cases hio
          have h8 : On f 8 := he ⟨8, .guard⟩ (by simp) rfl
          have e8 : gv 78 = .bool false := P 8 (by decide) rfl h8
          rw [e8]
          rw [if_pos (by rfl)]
          have HQ := Lib.hid (And.intro P (And.intro QC (And.intro QO (And.intro QX (And.intro QY QZ)))))
          clear P QC QO QX QY QZ
          go_simp
          obtain ⟨P, QC, QO, QX, QY, QZ⟩ := HQ.out
          exact hKK (upd (upd gv 78 (.bool false)) 79 (.int .i64 0)) _ (by rw [upd_same e8]; exact ⟨hBx, vals_step (n := 9) (v := .int .i64 0) hD (by decide) (by omega) P (fun _ => rfl), QC, QO, QX, QY, QZ⟩)
        | 10, _ =>
          cases hio
          have h8 : On f 8 := he ⟨8, .guard⟩ (by simp) rfl
          have e8 : gv 78 = .bool false := P 8 (by decide) rfl h8
          have h9 : On f 9 := he ⟨9, .data⟩ (by simp) rfl
          have e9 : gv 79 = .int .i64 0 := P 9 (by decide) rfl h9
          rw [e8, e9]
          rw [if_pos (by rfl)]
          have HQ := Lib.hid (And.intro P (And.intro QC (And.intro QO (And.intro QX (And.intro QY QZ)))))
          clear P QC QO QX QY QZ
          go_simp
          obtain ⟨P, QC, QO, QX, QY, QZ⟩ := HQ.out
          exact hKK (upd (upd (upd gv 78 (.bool false)) 79 (.int .i64 0)) 80 (.bool true)) _ (by rw [upd_same e8]; rw [upd_same e9]; exact ⟨hBx, vals_step (n := 10) (v := .bool true) hD (by decide) (by omega) P (fun _ => rfl), QC, QO, QX, QY, QZ⟩)
        | 11, _ =>
          cases hio
          have h8 : On f 8 := he ⟨8, .guard⟩ (by simp) rfl
          have e8 : gv 78 = .bool false := P 8 (by decide) rfl h8
          have h10 : On f 10 := he ⟨10, .data⟩ (by simp) rfl
          have e10 : gv 80 = .bool true := P 10 (by decide) rfl h10
          rw [e8, e10]
          rw [if_pos (by rfl)]
          have HQ := Lib.hid (And.intro P (And.intro QC (And.intro QO (And.intro QX (And.intro QY QZ)))))
          clear P QC QO QX QY QZ
          go_simp
          obtain ⟨P, QC, QO, QX, QY, QZ⟩ := HQ.out
          exact hKK (upd (upd (upd gv 78 (.bool false)) 80 (.bool true)) 81 (.bool true)) _ (by rw [upd_same e8]; rw [upd_same e10]; exact ⟨hBx, vals_step (n := 11) (v := .bool true) hD (by decide) (by omega) P (fun _ => rfl), QC, QO, QX, QY, QZ⟩)
        | 12, _ =>
          cases hio
          have h11 : On f 11 := he ⟨11, .guard⟩ (by simp) rfl
          have e11 : gv 81 = .bool true := P 11 (by decide) rfl h11
          rw [e11]
          rw [if_pos (by rfl)]
          have HQ := Lib.hid (And.intro P (And.intro QC (And.intro QO (And.intro QX (And.intro QY QZ)))))
          clear P QC QO QX QY QZ
          go_simp
          obtain ⟨P, QC, QO, QX, QY, QZ⟩ := HQ.out
          exact hKK (upd (upd gv 81 (.bool true)) 82 (.slice a5 lx c5)) _ (by rw [upd_same e11]; exact ⟨hBx, vals_step (n := 12) (v := .slice a5 lx c5) hD (by decide) (by omega) P (fun _ => rfl), QC, QO, QX, QY, QZ⟩)
        | 13, _ =>
          cases hio
          have h11 : On f 11 := he ⟨11, .guard⟩ (by simp) rfl
          have e11 : gv 81 = .bool true := P 11 (by decide) rfl h11
          have h12 : On f 12 := he ⟨12, .data⟩ (by simp) rfl
          have e12 : gv 82 = .slice a5 lx c5 := P 12 (by decide) rfl h12
          have hcv : (convert 31 9 (.slice a5 lx c5)).run Try.prog wm = .ok (.string ⟨X.toArray⟩) wm := str_drew QX 0
          rw [e11, e12]
          rw [if_pos (by rfl)]
          have HQ := Lib.hid (And.intro P (And.intro QC (And.intro QO (And.intro QX (And.intro QY QZ)))))
          clear P QC QO QX QY QZ
          go_simp
          obtain ⟨P, QC, QO, QX, QY, QZ⟩ := HQ.out
          exact hKK (upd (upd (upd gv 81 (.bool true)) 82 (.slice a5 lx c5)) 83 (.string ⟨X.toArray⟩)) _ (by rw [upd_same e11]; rw [upd_same e12]; exact ⟨hBx, vals_step (n := 13) (v := .string ⟨X.toArray⟩) hD (by decide) (by omega) P (fun _ => rfl), QC, QO, QX, QY, QZ⟩)
        | 14, _ =>
          cases hio
          have h11 : On f 11 := he ⟨11, .guard⟩ (by simp) rfl
          have e11 : gv 81 = .bool true := P 11 (by decide) rfl h11
          rw [e11]
          rw [if_pos (by rfl)]
          have HQ := Lib.hid (And.intro P (And.intro QC (And.intro QO (And.intro QX (And.intro QY QZ)))))
          clear P QC QO QX QY QZ
          go_simp
          obtain ⟨P, QC, QO, QX, QY, QZ⟩ := HQ.out
          exact hKK (upd (upd gv 81 (.bool true)) 84 (.slice a9 ly c9)) _ (by rw [upd_same e11]; exact ⟨hBx, vals_step (n := 14) (v := .slice a9 ly c9) hD (by decide) (by omega) P (fun _ => rfl), QC, QO, QX, QY, QZ⟩)
        | 15, _ =>
          cases hio
          have h11 : On f 11 := he ⟨11, .guard⟩ (by simp) rfl
          have e11 : gv 81 = .bool true := P 11 (by decide) rfl h11
          have h14 : On f 14 := he ⟨14, .data⟩ (by simp) rfl
          have e14 : gv 84 = .slice a9 ly c9 := P 14 (by decide) rfl h14
          have hcv : (convert 31 9 (.slice a9 ly c9)).run Try.prog wm = .ok (.string ⟨Y.toArray⟩) wm := str_drew QY 0
          rw [e11, e14]
          rw [if_pos (by rfl)]
          have HQ := Lib.hid (And.intro P (And.intro QC (And.intro QO (And.intro QX (And.intro QY QZ)))))
          clear P QC QO QX QY QZ
          go_simp
          obtain ⟨P, QC, QO, QX, QY, QZ⟩ := HQ.out
          exact hKK (upd (upd (upd gv 81 (.bool true)) 84 (.slice a9 ly c9)) 85 (.string ⟨Y.toArray⟩)) _ (by rw [upd_same e11]; rw [upd_same e14]; exact ⟨hBx, vals_step (n := 15) (v := .string ⟨Y.toArray⟩) hD (by decide) (by omega) P (fun _ => rfl), QC, QO, QX, QY, QZ⟩)
        | 16, _ =>
          cases hio
          have h11 : On f 11 := he ⟨11, .guard⟩ (by simp) rfl
          have e11 : gv 81 = .bool true := P 11 (by decide) rfl h11
          have h13 : On f 13 := he ⟨13, .data⟩ (by simp) rfl
          have e13 : gv 83 = .string ⟨X.toArray⟩ := P 13 (by decide) rfl h13
          have h15 : On f 15 := he ⟨15, .data⟩ (by simp) rfl
          have e15 : gv 85 = .string ⟨Y.toArray⟩ := P 15 (by decide) rfl h15
          have hq : (X == Y) = e1 := by rw [← HE1T.out]; by_cases h : X = Y <;> simp [h]
          have hq2 : (ByteArray.toList ⟨X.toArray⟩ == ByteArray.toList ⟨Y.toArray⟩) = e1 := by rw [toList_bytes, toList_bytes]; exact hq
          rw [e11, e13, e15]
          rw [if_pos (by rfl)]
          have HQ := Lib.hid (And.intro P (And.intro QC (And.intro QO (And.intro QX (And.intro QY QZ)))))
          clear P QC QO QX QY QZ
          go_simp
          obtain ⟨P, QC, QO, QX, QY, QZ⟩ := HQ.out
          exact hKK (upd (upd (upd (upd gv 81 (.bool true)) 83 (.string ⟨X.toArray⟩)) 85 (.string ⟨Y.toArray⟩)) 86 (.bool e1)) _ (by rw [upd_same e11]; rw [upd_same e13]; rw [upd_same e15]; exact ⟨hBx, vals_step (n := 16) (v := .bool e1) hD (by decide) (by omega) P (fun _ => rfl), QC, QO, QX, QY, QZ⟩)
        | 17, _ =>
          cases hio
          have h11 : On f 11 := he ⟨11, .guard⟩ (by simp) rfl
          have e11 : gv 81 = .bool true := P 11 (by decide) rfl h11
          have d0 : wm.cell? ⟨b2, 0, none⟩ = some (.int .i64 ki) := QO.at 0 _ rfl
          have d1 : wm.cell? ⟨b2, 1, none⟩ = some (.string t1) := QO.at 1 _ rfl
          have d2 : wm.cell? ⟨b2, 2, none⟩ = some (.string t2) := QO.at 2 _ rfl
          have d3 : wm.cell? ⟨b2, 3, none⟩ = some (.int .i64 nu) := QO.at 3 _ rfl
          rw [e11]
          rw [if_pos (by rfl)]
          have HQ := Lib.hid (And.intro P (And.intro QC (And.intro QO (And.intro QX (And.intro QY QZ)))))
          clear P QC QO QX QY QZ
          go_simp
          obtain ⟨P, QC, QO, QX, QY, QZ⟩ := HQ.out
          exact hKK (upd (upd gv 81 (.bool true)) 87 (.agg #[.int .i64 ki, .string t1, .string t2, .int .i64 nu])) _ (by rw [upd_same e11]; exact ⟨hBx, vals_step (n := 17) (v := .agg #[.int .i64 ki, .string t1, .string t2, .int .i64 nu]) hD (by decide) (by omega) P (fun _ => rfl), QC, QO, QX, QY, QZ⟩)
        | 18, _ =>
          cases hio
          have h11 : On f 11 := he ⟨11, .guard⟩ (by simp) rfl
          have e11 : gv 81 = .bool true := P 11 (by decide) rfl h11
          rw [e11]
          rw [if_pos (by rfl)]
          have HQ := Lib.hid (And.intro P (And.intro QC (And.intro QO (And.intro QX (And.intro QY QZ)))))
          clear P QC QO QX QY QZ
          go_simp
          obtain ⟨P, QC, QO, QX, QY, QZ⟩ := HQ.out
          exact hKK (upd (upd gv 81 (.bool true)) 88 (.pointer (some ⟨b1, 4, none⟩))) _ (by rw [upd_same e11]; exact ⟨hBx, vals_step (n := 18) (v := .pointer (some ⟨b1, 4, none⟩)) hD (by decide) (by omega) P (fun _ => rfl), QC, QO, QX, QY, QZ⟩)
        | 19, _ =>
          cases hio
          have h11 : On f 11 := he ⟨11, .guard⟩ (by simp) rfl
          have e11 : gv 81 = .bool true := P 11 (by decide) rfl h11
          have h18 : On f 18 := he ⟨18, .data⟩ (by simp) rfl
          have e18 : gv 88 = .pointer (some ⟨b1, 4, none⟩) := P 18 (by decide) rfl h18
          have d4 : wm.cell? ⟨b1, 4, none⟩ = some (.int .i64 kind) := QC.at 4 _ rfl
          have d5 : wm.cell? ⟨b1, 5, none⟩ = some (.string s1) := QC.at 5 _ rfl
          have d6 : wm.cell? ⟨b1, 6, none⟩ = some (.string s2) := QC.at 6 _ rfl
          have d7 : wm.cell? ⟨b1, 7, none⟩ = some (.int .i64 num) := QC.at 7 _ rfl
          rw [e11, e18]
          rw [if_pos (by rfl)]
          have HQ := Lib.hid (And.intro P (And.intro QC (And.intro QO (And.intro QX (And.intro QY QZ)))))
          clear P QC QO QX QY QZ
          go_simp
          obtain ⟨P, QC, QO, QX, QY, QZ⟩ := HQ.out
          exact hKK (upd (upd (upd gv 81 (.bool true)) 88 (.pointer (some ⟨b1, 4, none⟩))) 89 (.agg #[.int .i64 kind, .string s1, .string s2, .int .i64 num])) _ (by rw [upd_same e11]; rw [upd_same e18]; exact ⟨hBx, vals_step (n := 19) (v := .agg #[.int .i64 kind, .string s1, .string s2, .int .i64 num]) hD (by decide) (by omega) P (fun _ => rfl), QC, QO, QX, QY, QZ⟩)
        | 20, _ =>
          cases hio
          have h11 : On f 11 := he ⟨11, .guard⟩ (by simp) rfl
          have e11 : gv 81 = .bool true := P 11 (by decide) rfl h11
          have h17 : On f 17 := he ⟨17, .data⟩ (by simp) rfl
          have e17 : gv 87 = .agg #[.int .i64 ki, .string t1, .string t2, .int .i64 nu] := P 17 (by decide) rfl h17
          have h19 : On f 19 := he ⟨19, .data⟩ (by simp) rfl
          have e19 : gv 89 = .agg #[.int .i64 kind, .string s1, .string s2, .int .i64 num] := P 19 (by decide) rfl h19
          rw [e11, e17, e19]
          rw [if_pos (by rfl)]
          have HQ := Lib.hid (And.intro P (And.intro QC (And.intro QO (And.intro QX (And.intro QY QZ)))))
          clear P QC QO QX QY QZ
          go_simp
          rw [HEI.out wm]
          obtain ⟨P, QC, QO, QX, QY, QZ⟩ := HQ.out
          exact hKK (upd (upd (upd (upd gv 81 (.bool true)) 87 (.agg #[.int .i64 ki, .string t1, .string t2, .int .i64 nu])) 89 (.agg #[.int .i64 kind, .string s1, .string s2, .int .i64 num])) 90 (.bool e1)) _ (by rw [upd_same e11]; rw [upd_same e17]; rw [upd_same e19]; exact ⟨hBx, vals_step (n := 20) (v := .bool e1) hD (by decide) (by omega) P (fun _ => rfl), QC, QO, QX, QY, QZ⟩)
        | 21, _ =>
          cases hio
          have h11 : On f 11 := he ⟨11, .guard⟩ (by simp) rfl
          have e11 : gv 81 = .bool true := P 11 (by decide) rfl h11
          have h16 : On f 16 := he ⟨16, .data⟩ (by simp) rfl
          have e16 : gv 86 = .bool e1 := P 16 (by decide) rfl h16
          have h20 : On f 20 := he ⟨20, .data⟩ (by simp) rfl
          have e20 : gv 90 = .bool e1 := P 20 (by decide) rfl h20
          rw [e11, e16, e20]
          rw [if_pos (by rfl)]
          have HQ := Lib.hid (And.intro P (And.intro QC (And.intro QO (And.intro QX (And.intro QY QZ)))))
          clear P QC QO QX QY QZ
          go_simp
          obtain ⟨P, QC, QO, QX, QY, QZ⟩ := HQ.out
          exact hKK (upd (upd (upd (upd gv 81 (.bool true)) 86 (.bool e1)) 90 (.bool e1)) 91 (.bool false)) _ (by rw [upd_same e11]; rw [upd_same e16]; rw [upd_same e20]; exact ⟨hBx, vals_step (n := 21) (v := .bool false) hD (by decide) (by omega) P (fun _ => rfl), QC, QO, QX, QY, QZ⟩)
        | 22, _ =>
          cases hio
          have h8 : On f 8 := he ⟨8, .guard⟩ (by simp) rfl
          have e8 : gv 78 = .bool false := P 8 (by decide) rfl h8
          have h11 : On f 11 := he ⟨11, .data⟩ (by simp) rfl
          have e11 : gv 81 = .bool true := P 11 (by decide) rfl h11
          have h21 : On f 21 := he ⟨21, .data⟩ (by simp) rfl
          have e21 : gv 91 = .bool false := P 21 (by decide) rfl h21
          rw [e8, e11, e21]
          rw [if_pos (by rfl)]
          have HQ := Lib.hid (And.intro P (And.intro QC (And.intro QO (And.intro QX (And.intro QY QZ)))))
          clear P QC QO QX QY QZ
          go_simp
          obtain ⟨P, QC, QO, QX, QY, QZ⟩ := HQ.out
          exact hKK (upd (upd (upd (upd gv 78 (.bool false)) 81 (.bool true)) 91 (.bool false)) 92 (.bool false)) _ (by rw [upd_same e8]; rw [upd_same e11]; rw [upd_same e21]; exact ⟨hBx, vals_step (n := 22) (v := .bool false) hD (by decide) (by omega) P (fun _ => rfl), QC, QO, QX, QY, QZ⟩)
        | 23, _ =>
          cases hio
          have h8 : On f 8 := he ⟨8, .data⟩ (by simp) rfl
          have e8 : gv 78 = .bool false := P 8 (by decide) rfl h8
          have h22 : On f 22 := he ⟨22, .data⟩ (by simp) rfl
          have e22 : gv 92 = .bool false := P 22 (by decide) rfl h22
          rw [e8, e22]
          have HQ := Lib.hid (And.intro P (And.intro QC (And.intro QO (And.intro QX (And.intro QY QZ)))))
          clear P QC QO QX QY QZ
          go_simp
          obtain ⟨P, QC, QO, QX, QY, QZ⟩ := HQ.out
          exact hKK (upd (upd (upd gv 78 (.bool false)) 92 (.bool false)) 93 (.bool false)) _ (by rw [upd_same e8]; rw [upd_same e22]; exact ⟨hBx, vals_step (n := 23) (v := .bool false) hD (by decide) (by omega) P (fun _ => rfl), QC, QO, QX, QY, QZ⟩)
        | 24, _ =>
          cases hio
          have h23 : On f 23 := he ⟨23, .data⟩ (by simp) rfl
          have e23 : gv 93 = .bool false := P 23 (by decide) rfl h23
          rw [e23]
          have HQ := Lib.hid (And.intro P (And.intro QC (And.intro QO (And.intro QX (And.intro QY QZ)))))
          clear P QC QO QX QY QZ
          go_simp
          obtain ⟨P, QC, QO, QX, QY, QZ⟩ := HQ.out
          exact hKK (upd (upd gv 93 (.bool false)) 94 (.bool false)) _ (by rw [upd_same e23]; exact ⟨hBx, vals_step (n := 24) (v := .bool false) hD (by decide) (by omega) P (fun _ => rfl), QC, QO, QX, QY, QZ⟩)
        | 25, _ =>
          cases hio
          have h24 : On f 24 := he ⟨24, .guard⟩ (by simp) rfl
          have e24 : gv 94 = .bool false := P 24 (by decide) rfl h24
          rw [e24]
          rw [if_pos (by rfl)]
          have HQ := Lib.hid (And.intro P (And.intro QC (And.intro QO (And.intro QX (And.intro QY QZ)))))
          clear P QC QO QX QY QZ
          go_simp
          obtain ⟨P, QC, QO, QX, QY, QZ⟩ := HQ.out
          exact hKK (upd (upd gv 94 (.bool false)) 95 (.int .i64 0)) _ (by rw [upd_same e24]; exact ⟨hBx, vals_step (n := 25) (v := .int .i64 0) hD (by decide) (by omega) P (fun _ => rfl), QC, QO, QX, QY, QZ⟩)
        | 26, _ =>
          cases hio
          have h24 : On f 24 := he ⟨24, .guard⟩ (by simp) rfl
          have e24 : gv 94 = .bool false := P 24 (by decide) rfl h24
          have h25 : On f 25 := he ⟨25, .data⟩ (by simp) rfl
          have e25 : gv 95 = .int .i64 0 := P 25 (by decide) rfl h25
          rw [e24, e25]
          rw [if_pos (by rfl)]
          have HQ := Lib.hid (And.intro P (And.intro QC (And.intro QO (And.intro QX (And.intro QY QZ)))))
          clear P QC QO QX QY QZ
          go_simp
          obtain ⟨P, QC, QO, QX, QY, QZ⟩ := HQ.out
          exact hKK (upd (upd (upd gv 94 (.bool false)) 95 (.int .i64 0)) 96 (.bool true)) _ (by rw [upd_same e24]; rw [upd_same e25]; exact ⟨hBx, vals_step (n := 26) (v := .bool true) hD (by decide) (by omega) P (fun _ => rfl), QC, QO, QX, QY, QZ⟩)
        | 27, _ =>
          cases hio
          have h24 : On f 24 := he ⟨24, .guard⟩ (by simp) rfl
          have e24 : gv 94 = .bool false := P 24 (by decide) rfl h24
          have h26 : On f 26 := he ⟨26, .data⟩ (by simp) rfl
          have e26 : gv 96 = .bool true := P 26 (by decide) rfl h26
          rw [e24, e26]
          rw [if_pos (by rfl)]
          have HQ := Lib.hid (And.intro P (And.intro QC (And.intro QO (And.intro QX (And.intro QY QZ)))))
          clear P QC QO QX QY QZ
          go_simp
          obtain ⟨P, QC, QO, QX, QY, QZ⟩ := HQ.out
          exact hKK (upd (upd (upd gv 94 (.bool false)) 96 (.bool true)) 97 (.bool true)) _ (by rw [upd_same e24]; rw [upd_same e26]; exact ⟨hBx, vals_step (n := 27) (v := .bool true) hD (by decide) (by omega) P (fun _ => rfl), QC, QO, QX, QY, QZ⟩)
        | 28, _ =>
          cases hio
          have h27 : On f 27 := he ⟨27, .guard⟩ (by simp) rfl
          have e27 : gv 97 = .bool true := P 27 (by decide) rfl h27
          rw [e27]
          rw [if_pos (by rfl)]
          have HQ := Lib.hid (And.intro P (And.intro QC (And.intro QO (And.intro QX (And.intro QY QZ)))))
          clear P QC QO QX QY QZ
          go_simp
          obtain ⟨P, QC, QO, QX, QY, QZ⟩ := HQ.out
          exact hKK (upd (upd gv 97 (.bool true)) 98 (.slice a5 lx c5)) _ (by rw [upd_same e27]; exact ⟨hBx, vals_step (n := 28) (v := .slice a5 lx c5) hD (by decide) (by omega) P (fun _ => rfl), QC, QO, QX, QY, QZ⟩)
        | 29, _ =>
          cases hio
          have h27 : On f 27 := he ⟨27, .guard⟩ (by simp) rfl
          have e27 : gv 97 = .bool true := P 27 (by decide) rfl h27
          have h28 : On f 28 := he ⟨28, .data⟩ (by simp) rfl
          have e28 : gv 98 = .slice a5 lx c5 := P 28 (by decide) rfl h28
          have hcv : (convert 31 9 (.slice a5 lx c5)).run Try.prog wm = .ok (.string ⟨X.toArray⟩) wm := str_drew QX 0
          rw [e27, e28]
          rw [if_pos (by rfl)]
          have HQ := Lib.hid (And.intro P (And.intro QC (And.intro QO (And.intro QX (And.intro QY QZ)))))
          clear P QC QO QX QY QZ
          go_simp
          obtain ⟨P, QC, QO, QX, QY, QZ⟩ := HQ.out
          exact hKK (upd (upd (upd gv 97 (.bool true)) 98 (.slice a5 lx c5)) 99 (.string ⟨X.toArray⟩)) _ (by rw [upd_same e27]; rw [upd_same e28]; exact ⟨hBx, vals_step (n := 29) (v := .string ⟨X.toArray⟩) hD (by decide) (by omega) P (fun _ => rfl), QC, QO, QX, QY, QZ⟩)
        | 30, _ =>
          cases hio
          have h27 : On f 27 := he ⟨27, .guard⟩ (by simp) rfl
          have e27 : gv 97 = .bool true := P 27 (by decide) rfl h27
          rw [e27]
          rw [if_pos (by rfl)]
          have HQ := Lib.hid (And.intro P (And.intro QC (And.intro QO (And.intro QX (And.intro QY QZ)))))
          clear P QC QO QX QY QZ
          go_simp
          obtain ⟨P, QC, QO, QX, QY, QZ⟩ := HQ.out
          exact hKK (upd (upd gv 97 (.bool true)) 100 (.slice a12 lz c12)) _ (by rw [upd_same e27]; exact ⟨hBx, vals_step (n := 30) (v := .slice a12 lz c12) hD (by decide) (by omega) P (fun _ => rfl), QC, QO, QX, QY, QZ⟩)
        | 31, _ =>
          cases hio
          have h27 : On f 27 := he ⟨27, .guard⟩ (by simp) rfl
          have e27 : gv 97 = .bool true := P 27 (by decide) rfl h27
          have h30 : On f 30 := he ⟨30, .data⟩ (by simp) rfl
          have e30 : gv 100 = .slice a12 lz c12 := P 30 (by decide) rfl h30
          have hcv : (convert 31 9 (.slice a12 lz c12)).run Try.prog wm = .ok (.string ⟨Z.toArray⟩) wm := str_drew QZ 0
          rw [e27, e30]
          rw [if_pos (by rfl)]
          have HQ := Lib.hid (And.intro P (And.intro QC (And.intro QO (And.intro QX (And.intro QY QZ)))))
          clear P QC QO QX QY QZ
          go_simp
          obtain ⟨P, QC, QO, QX, QY, QZ⟩ := HQ.out
          exact hKK (upd (upd (upd gv 97 (.bool true)) 100 (.slice a12 lz c12)) 101 (.string ⟨Z.toArray⟩)) _ (by rw [upd_same e27]; rw [upd_same e30]; exact ⟨hBx, vals_step (n := 31) (v := .string ⟨Z.toArray⟩) hD (by decide) (by omega) P (fun _ => rfl), QC, QO, QX, QY, QZ⟩)
        | 32, _ =>
          cases hio
          have h27 : On f 27 := he ⟨27, .guard⟩ (by simp) rfl
          have e27 : gv 97 = .bool true := P 27 (by decide) rfl h27
          have h29 : On f 29 := he ⟨29, .data⟩ (by simp) rfl
          have e29 : gv 99 = .string ⟨X.toArray⟩ := P 29 (by decide) rfl h29
          have h31 : On f 31 := he ⟨31, .data⟩ (by simp) rfl
          have e31 : gv 101 = .string ⟨Z.toArray⟩ := P 31 (by decide) rfl h31
          have hq : (X == Z) = e2 := by rw [← HE2T.out]; by_cases h : X = Z <;> simp [h]
          have hq2 : (ByteArray.toList ⟨X.toArray⟩ == ByteArray.toList ⟨Z.toArray⟩) = e2 := by rw [toList_bytes, toList_bytes]; exact hq
          rw [e27, e29, e31]
          rw [if_pos (by rfl)]
          have HQ := Lib.hid (And.intro P (And.intro QC (And.intro QO (And.intro QX (And.intro QY QZ)))))
          clear P QC QO QX QY QZ
          go_simp
          obtain ⟨P, QC, QO, QX, QY, QZ⟩ := HQ.out
          exact hKK (upd (upd (upd (upd gv 97 (.bool true)) 99 (.string ⟨X.toArray⟩)) 101 (.string ⟨Z.toArray⟩)) 102 (.bool e2)) _ (by rw [upd_same e27]; rw [upd_same e29]; rw [upd_same e31]; exact ⟨hBx, vals_step (n := 32) (v := .bool e2) hD (by decide) (by omega) P (fun _ => rfl), QC, QO, QX, QY, QZ⟩)
        | 33, _ =>
          cases hio
          have h27 : On f 27 := he ⟨27, .guard⟩ (by simp) rfl
          have e27 : gv 97 = .bool true := P 27 (by decide) rfl h27
          rw [e27]
          rw [if_pos (by rfl)]
          have HQ := Lib.hid (And.intro P (And.intro QC (And.intro QO (And.intro QX (And.intro QY QZ)))))
          clear P QC QO QX QY QZ
          go_simp
          obtain ⟨P, QC, QO, QX, QY, QZ⟩ := HQ.out
          exact hKK (upd (upd gv 97 (.bool true)) 103 (.int .i64 sq)) _ (by rw [upd_same e27]; exact ⟨hBx, vals_step (n := 33) (v := .int .i64 sq) hD (by decide) (by omega) P (fun _ => rfl), QC, QO, QX, QY, QZ⟩)
        | 34, _ =>
          cases hio
          have h27 : On f 27 := he ⟨27, .guard⟩ (by simp) rfl
          have e27 : gv 97 = .bool true := P 27 (by decide) rfl h27
          rw [e27]
          rw [if_pos (by rfl)]
          have HQ := Lib.hid (And.intro P (And.intro QC (And.intro QO (And.intro QX (And.intro QY QZ)))))
          clear P QC QO QX QY QZ
          go_simp
          obtain ⟨P, QC, QO, QX, QY, QZ⟩ := HQ.out
          exact hKK (upd (upd gv 97 (.bool true)) 104 (.pointer (some ⟨b1, 0, none⟩))) _ (by rw [upd_same e27]; exact ⟨hBx, vals_step (n := 34) (v := .pointer (some ⟨b1, 0, none⟩)) hD (by decide) (by omega) P (fun _ => rfl), QC, QO, QX, QY, QZ⟩)
        | 35, _ =>
          cases hio
          have h27 : On f 27 := he ⟨27, .guard⟩ (by simp) rfl
          have e27 : gv 97 = .bool true := P 27 (by decide) rfl h27
          have h34 : On f 34 := he ⟨34, .data⟩ (by simp) rfl
          have e34 : gv 104 = .pointer (some ⟨b1, 0, none⟩) := P 34 (by decide) rfl h34
          rw [e27, e34]
          rw [if_pos (by rfl)]
          have HQ := Lib.hid (And.intro P (And.intro QC (And.intro QO (And.intro QX (And.intro QY QZ)))))
          clear P QC QO QX QY QZ
          go_simp
          obtain ⟨P, QC, QO, QX, QY, QZ⟩ := HQ.out
          exact hKK (upd (upd (upd gv 97 (.bool true)) 104 (.pointer (some ⟨b1, 0, none⟩))) 105 (.pointer (some ⟨b1, 1, none⟩))) _ (by rw [upd_same e27]; rw [upd_same e34]; exact ⟨hBx, vals_step (n := 35) (v := .pointer (some ⟨b1, 1, none⟩)) hD (by decide) (by omega) P (fun _ => rfl), QC, QO, QX, QY, QZ⟩)
        | 36, _ =>
          cases hio
          have h27 : On f 27 := he ⟨27, .guard⟩ (by simp) rfl
          have e27 : gv 97 = .bool true := P 27 (by decide) rfl h27
          have h35 : On f 35 := he ⟨35, .data⟩ (by simp) rfl
          have e35 : gv 105 = .pointer (some ⟨b1, 1, none⟩) := P 35 (by decide) rfl h35
          have d1 : wm.cell? ⟨b1, 1, none⟩ = some (.int .i64 seq) := QC.at 1 _ rfl
          rw [e27, e35]
          rw [if_pos (by rfl)]
          have HQ := Lib.hid (And.intro P (And.intro QC (And.intro QO (And.intro QX (And.intro QY QZ)))))
          clear P QC QO QX QY QZ
          go_simp
          obtain ⟨P, QC, QO, QX, QY, QZ⟩ := HQ.out
          exact hKK (upd (upd (upd gv 97 (.bool true)) 105 (.pointer (some ⟨b1, 1, none⟩))) 106 (.int .i64 seq)) _ (by rw [upd_same e27]; rw [upd_same e35]; exact ⟨hBx, vals_step (n := 36) (v := .int .i64 seq) hD (by decide) (by omega) P (fun _ => rfl), QC, QO, QX, QY, QZ⟩)
        | 37, _ =>
          cases hio
          have h27 : On f 27 := he ⟨27, .guard⟩ (by simp) rfl
          have e27 : gv 97 = .bool true := P 27 (by decide) rfl h27
          have h33 : On f 33 := he ⟨33, .data⟩ (by simp) rfl
          have e33 : gv 103 = .int .i64 sq := P 33 (by decide) rfl h33
          have h36 : On f 36 := he ⟨36, .data⟩ (by simp) rfl
          have e36 : gv 106 = .int .i64 seq := P 36 (by decide) rfl h36
          have hq := HES.out
          rw [e27, e33, e36]
          rw [if_pos (by rfl)]
          have HQ := Lib.hid (And.intro P (And.intro QC (And.intro QO (And.intro QX (And.intro QY QZ)))))
          clear P QC QO QX QY QZ
          go_simp
          obtain ⟨P, QC, QO, QX, QY, QZ⟩ := HQ.out
          exact hKK (upd (upd (upd (upd gv 97 (.bool true)) 103 (.int .i64 sq)) 106 (.int .i64 seq)) 107 (.bool e2)) _ (by rw [upd_same e27]; rw [upd_same e33]; rw [upd_same e36]; exact ⟨hBx, vals_step (n := 37) (v := .bool e2) hD (by decide) (by omega) P (fun _ => rfl), QC, QO, QX, QY, QZ⟩)
        | 38, _ =>
          cases hio
          have h27 : On f 27 := he ⟨27, .guard⟩ (by simp) rfl
          have e27 : gv 97 = .bool true := P 27 (by decide) rfl h27
          have h32 : On f 32 := he ⟨32, .data⟩ (by simp) rfl
          have e32 : gv 102 = .bool e2 := P 32 (by decide) rfl h32
          have h37 : On f 37 := he ⟨37, .data⟩ (by simp) rfl
          have e37 : gv 107 = .bool e2 := P 37 (by decide) rfl h37
          rw [e27, e32, e37]
          rw [if_pos (by rfl)]
          have HQ := Lib.hid (And.intro P (And.intro QC (And.intro QO (And.intro QX (And.intro QY QZ)))))
          clear P QC QO QX QY QZ
          go_simp
          obtain ⟨P, QC, QO, QX, QY, QZ⟩ := HQ.out
          exact hKK (upd (upd (upd (upd gv 97 (.bool true)) 102 (.bool e2)) 107 (.bool e2)) 108 (.bool false)) _ (by rw [upd_same e27]; rw [upd_same e32]; rw [upd_same e37]; exact ⟨hBx, vals_step (n := 38) (v := .bool false) hD (by decide) (by omega) P (fun _ => rfl), QC, QO, QX, QY, QZ⟩)
        | 39, _ =>
          cases hio
          have h24 : On f 24 := he ⟨24, .guard⟩ (by simp) rfl
          have e24 : gv 94 = .bool false := P 24 (by decide) rfl h24
          have h27 : On f 27 := he ⟨27, .data⟩ (by simp) rfl
          have e27 : gv 97 = .bool true := P 27 (by decide) rfl h27
          have h38 : On f 38 := he ⟨38, .data⟩ (by simp) rfl
          have e38 : gv 108 = .bool false := P 38 (by decide) rfl h38
          rw [e24, e27, e38]
          rw [if_pos (by rfl)]
          have HQ := Lib.hid (And.intro P (And.intro QC (And.intro QO (And.intro QX (And.intro QY QZ)))))
          clear P QC QO QX QY QZ
          go_simp
          obtain ⟨P, QC, QO, QX, QY, QZ⟩ := HQ.out
          exact hKK (upd (upd (upd (upd gv 94 (.bool false)) 97 (.bool true)) 108 (.bool false)) 109 (.bool false)) _ (by rw [upd_same e24]; rw [upd_same e27]; rw [upd_same e38]; exact ⟨hBx, vals_step (n := 39) (v := .bool false) hD (by decide) (by omega) P (fun _ => rfl), QC, QO, QX, QY, QZ⟩)
        | 40, _ =>
          cases hio
          have h24 : On f 24 := he ⟨24, .data⟩ (by simp) rfl
          have e24 : gv 94 = .bool false := P 24 (by decide) rfl h24
          have h39 : On f 39 := he ⟨39, .data⟩ (by simp) rfl
          have e39 : gv 109 = .bool false := P 39 (by decide) rfl h39
          rw [e24, e39]
          have HQ := Lib.hid (And.intro P (And.intro QC (And.intro QO (And.intro QX (And.intro QY QZ)))))
          clear P QC QO QX QY QZ
          go_simp
          obtain ⟨P, QC, QO, QX, QY, QZ⟩ := HQ.out
          exact hKK (upd (upd (upd gv 94 (.bool false)) 109 (.bool false)) 110 (.bool false)) _ (by rw [upd_same e24]; rw [upd_same e39]; exact ⟨hBx, vals_step (n := 40) (v := .bool false) hD (by decide) (by omega) P (fun _ => rfl), QC, QO, QX, QY, QZ⟩)
      · rintro f gv w5 hall hs' ⟨hBx, P, QC, QO, QX, QY, QZ⟩
        replace hs' : f.size = 41 := hs'
        have on : ∀ j, j < 41 → On f j := fun j hj => on_all hall hs' j hj
        have e110 : gv 110 = .bool false := P 40 (by decide) rfl (on 40 (by decide))
        have HC13 := Lib.hid QC
        have HB13 := Lib.hid (HB12.out.step hBx)
        have HID13 := Lib.hid (HID.out _ (HRC.out.below HB13.out))
        clear P QC QO QX QY QZ hBx hall hs' on hD
        rw [e110]
        clear e110
        have p0 : w5.cell? ⟨b1, 0, none⟩ = some (.int .i64 node) := HC13.out.at 0 _ rfl
        have p1 : w5.cell? ⟨b1, 1, none⟩ = some (.int .i64 seq) := HC13.out.at 1 _ rfl
        have p2 : w5.cell? ⟨b1, 2, none⟩ = some (.int .i64 gen) := HC13.out.at 2 _ rfl
        have p3 : w5.cell? ⟨b1, 3, none⟩ = some (.slice a n cap) := HC13.out.at 3 _ rfl
        have p4 : w5.cell? ⟨b1, 4, none⟩ = some (.int .i64 kind) := HC13.out.at 4 _ rfl
        have p5 : w5.cell? ⟨b1, 5, none⟩ = some (.string s1) := HC13.out.at 5 _ rfl
        have p6 : w5.cell? ⟨b1, 6, none⟩ = some (.string s2) := HC13.out.at 6 _ rfl
        have p7 : w5.cell? ⟨b1, 7, none⟩ = some (.int .i64 num) := HC13.out.at 7 _ rfl
        by_cases hn2 : (n : Int) < 2
        · go_wp2_with fail
          go_ret
          exact ⟨rfl, HB13.out⟩
        go_upto_region 17 with fail
        obtain ⟨b5, hb5⟩ : ∃ b, b = w5.heap.size := ⟨_, rfl⟩
        have hC0 := Cel.new w5 28 [.int .i64 node, .int .i64 seq, .int .i64 gen, .slice a n cap, .int .i64 kind, .string s1, .string s2, .int .i64 num]
        rw [← hb5] at hC0 ⊢
        generalize hw14 : w5.alloc (.cells _ _) = w14
        have HD14 := Lib.hid (show Cel w14 b5 28 [.int .i64 node, .int .i64 seq, .int .i64 gen, .slice a n cap, .int .i64 kind, .string s1, .string s2, .int .i64 num] by rw [← hw14]; exact hC0)
        have hb514 : Below w5.heap.size w5 w14 := by rw [← hw14]; exact (Below.refl _ _).alloc (Nat.le_refl _) _
        have HC14 := Lib.hid (HC13.out.step hb514)
        have HB14 := Lib.hid (HB13.out.step hb514)
        have hs0 := HC13.out.lt
        have hs1 := HB13.out.size
        have hs2 := HD14.out.lt
        have hidx := HID.out _ (HRC.out.below HB14.out)
        obtain ⟨ba, oa, rfl⟩ : ∃ b off, a = some ⟨b, off, none⟩ := by
          rcases hidx.cells with h0 | ⟨b', off', e, _⟩
          · omega
          · exact ⟨b', off', e⟩
        have hba : ba < w14.heap.size := by
          rcases hidx.cells with h0 | ⟨b', off', e, hc⟩
          · omega
          · cases e
            have hx := hc 0 (by omega) 0 _ (List.getElem?_eq_getElem (by rw [Bs_length, hidx.at32 0 (by omega)]; decide))
            have := World.block_lt_of_cell? w14 _ hx
            simpa using this
        obtain ⟨g, capg, rest, w15, hrun, hcg, hnc, hcm, hg, hb⟩ := app_ids hidx (by omega) hn8
        obtain ⟨x, y, r, hp⟩ : ∃ x y r, c.par = x :: y :: r := by
          have := HN.out
          match hcp : c.par with
          | [] => rw [hcp] at this; simp at this; omega
          | [_] => rw [hcp] at this; simp at this; omega
          | x :: y :: r => exact ⟨x, y, r, rfl⟩
        have hx32 := hidx.is32
        rw [hp] at hcg hx32
        have HXY := Lib.hid (show x.length = 32 ∧ y.length = 32 ∧ all32 r from ⟨hx32 x (by simp), hx32 y (by simp), fun z hz => hx32 z (by simp [hz])⟩)
        have HRUN := Lib.hid hrun
        have HP := Lib.hid hp
        have HCP := Lib.hid (And.intro hnc hcm)
        obtain ⟨R, hR⟩ : ∃ R, R = Bs r.flatten ++ rest := ⟨_, rfl⟩
        have HR := Lib.hid hR
        have HG15 := Lib.hid (show Cel w15 g 36 ([] ++ (Bs x ++ (Bs y ++ R))) by rw [hR]; simpa [Bs, List.map_append, List.append_assoc] using hcg)
        have HD15 := Lib.hid (HD14.out.step hb)
        have HC15 := Lib.hid (HC14.out.step hb)
        have HB15 := Lib.hid (HB14.out.step hb)
        have HS15 := Lib.hid (show b1 < b5 ∧ b5 < g ∧ ba < g ∧ w.heap.size ≤ g ∧ w.heap.size ≤ b5 from ⟨by omega, by omega, by omega, by omega, by omega⟩)
        have p3 : w14.cell? ⟨b1, 3, none⟩ = some (.slice (some ⟨ba, oa, none⟩) n cap) := HC14.out.at 3 _ rfl
        have r3 : w15.cell? ⟨b5, 3, none⟩ = some (.slice (some ⟨ba, oa, none⟩) n cap) := HD15.out.at 3 _ rfl
        have f3 : w15.frozen? ⟨b5, 3, none⟩ = false := HD15.out.free 3
        clear hC0 hw14 hb514 hb5 hs0 hs1 hs2 hidx hba hrun hcg hnc hcm hg hp hx32 hb hR p0 p1 p2 p4 p5 p6 p7
        go_upto_region 18 with (at_builtin; refine Lib.wpList_append_run _ rfl _ _ _ _ rfl _ _ rfl rfl _ _ HRUN.out ?_)
        generalize hw16 : World.setCell w15 _ _ = w16
        have ho16 : Only w15 w16 b5 := by rw [← hw16]; exact only_set _ _ _ _
        have HD16 := Lib.hid (show Cel w16 b5 28 [.int .i64 node, .int .i64 seq, .int .i64 gen, .slice (some ⟨g, 0, none⟩) n capg, .int .i64 kind, .string s1, .string s2, .int .i64 num] by rw [← hw16]; exact HD15.out.set 3 _)
        have hs := HS15.out
        have HC16 := Lib.hid (show Cel w16 b1 28 [.int .i64 node, .int .i64 seq, .int .i64 gen, .slice (some ⟨ba, oa, none⟩) n cap, .int .i64 kind, .string s1, .string s2, .int .i64 num] from ho16.heap HC15.out (by omega))
        have HG16 := Lib.hid (show Cel w16 g 36 ([] ++ (Bs x ++ (Bs y ++ R))) from ho16.heap HG15.out (by omega))
        have HB16 := Lib.hid (ho16.below HB15.out (by omega))
        have HI16 := Lib.hid (HID.out _ (HRC.out.below HB16.out))
        have hi1 : (1 : Int) < (n : Int) := by omega
        have hi0 : (0 : Int) < (n : Int) := by omega
        have hi1' : 1 < n := by omega
        have hi0' : 0 < n := by omega
        clear hw16 ho16 hs p3 r3 f3
        have hD : ∀ j, j < 8 → ∀ n, n < 8 → j ≠ n → dkN [120, 121, 122, 123, 124, 125, 126, 1007] j ≠ dkN [120, 121, 122, 123, 124, 125, 126, 1007] n := by decide +kernel
        refine region_fun (by kernel_rfl) (by kernel_rfl) (fun gv => #[gv 0, gv 1, gv 2, .pointer (some ⟨b1, 0, none⟩), gv 4, gv 5, gv 6, gv 7, gv 8, gv 9, gv 10, gv 11, gv 12, gv 13, gv 14, gv 15, gv 16, .pointer (some ⟨b5, 0, none⟩), gv 18, gv 19, gv 20, gv 21, gv 22, gv 23, gv 24, gv 25, gv 26, gv 27, gv 28, gv 29, gv 30, gv 31, gv 32, gv 33, gv 34, gv 35, gv 36, gv 37, gv 38, gv 39, gv 40, gv 41, gv 42, gv 43, gv 44, gv 45, gv 46, gv 47, gv 48, gv 49, gv 50, gv 51, gv 52, gv 53, gv 54, gv 55, gv 56, gv 57, gv 58, gv 59, gv 60, gv 61, gv 62, gv 63, gv 64, gv 65, gv 66, gv 67, gv 68, gv 69, gv 70, gv 71, gv 72, gv 73, gv 74, gv 75, gv 76, gv 77, gv 78, gv 79, gv 80, gv 81, gv 82, gv 83, gv 84, gv 85, gv 86, gv 87, gv 88, gv 89, gv 90, gv 91, gv 92, gv 93, gv 94, gv 95, gv 96, gv 97, gv 98, gv 99, gv 100, gv 101, gv 102, gv 103, gv 104, gv 105, gv 106, gv 107, gv 108, gv 109, gv 110, gv 111, gv 112, gv 113, gv 114, gv 115, gv 116, gv 117, gv 118, gv 119, gv 120, gv 121, gv 122, gv 123, gv 124, gv 125, gv 126, gv 127, gv 128, gv 129, gv 130, gv 131, gv 132, gv 133, gv 134, gv 135, gv 136]) rfl (fun f gv wx => Below w.heap.size w wx ∧ (∀ j, j < 8 → (fun j => Nat.beq j 7) j = false → On f j → gv (dkN [120, 121, 122, 123, 124, 125, 126, 1007] j) = vkN [.pointer (some ⟨b5, 3, none⟩), .slice (some ⟨g, 0, none⟩) n capg, .pointer (some ⟨b1, 3, none⟩), .slice (some ⟨ba, oa, none⟩) n cap, .pointer (some ⟨ba, oa + 32, none⟩), .agg (Bs y).toArray, .pointer (some ⟨g, 0, none⟩), undef] j) ∧ (Cel wx b1 28 [.int .i64 node, .int .i64 seq, .int .i64 gen, .slice (some ⟨ba, oa, none⟩) n cap, .int .i64 kind, .string s1, .string s2, .int .i64 num]) ∧ (Cel wx b5 28 [.int .i64 node, .int .i64 seq, .int .i64 gen, .slice (some ⟨g, 0, none⟩) n capg, .int .i64 kind, .string s1, .string s2, .int .i64 num]) ∧ ((¬ On f 7 → Cel wx g 36 ([] ++ (Bs x ++ (Bs y ++ R)))) ∧ (On f 7 → Cel wx g 36 ([] ++ (Bs y ++ (Bs y ++ R))))) ∧ (Ids wx (some ⟨ba, oa, none⟩) n cap c.par)) ?_ ?_ ?_
        · have hoff : ∀ j, ¬ On (Array.replicate 8 false) j := by
            intro j hj; simp only [On, Array.getD_eq_getD_getElem?, Array.getElem?_replicate] at hj; split at hj <;> simp at hj
          exact ⟨HB16.out.drew, fun j _ _ x => absurd x (hoff _), HC16.out.step (below_drewNw _ _), HD16.out.step (below_drewNw _ _), ⟨fun _ => HG16.out.step (below_drewNw _ _), fun x => absurd x (hoff _)⟩, HI16.out.below (below_drewNw _ _)⟩
        · rintro i' o' f gv wm hio hs' hn he ⟨hBx, P, QC, QD, QG, QI⟩ KK hKK
          have hi' : i' < 8 := (Array.getElem?_eq_some_iff.1 hio).1
          replace hs' : f.size = 8 := hs'
          match i', hi' with
          | 0, _ =>
            cases hio
            have HQ := Lib.hid (And.intro P (And.intro QC (And.intro QD (And.intro QG QI))))
            clear P QC QD QG QI
            go_simp
            obtain ⟨P, QC, QD, QG, QI⟩ := HQ.out
            have bk : ∀ j, j ≠ 0 → On (f.setIfInBounds 0 true) j → On f j := fun j hj x => on_back (by omega) x hj
            have fw : ∀ j, On f j → On (f.setIfInBounds 0 true) j := fun j x => (on_put (by omega)).2 (.inr x)
            exact hKK (upd gv 120 (.pointer (some ⟨b5, 3, none⟩))) _ (by exact ⟨hBx, vals_step (n := 0) (v := .pointer (some ⟨b5, 3, none⟩)) hD (by decide) (by omega) P (fun _ => rfl), QC, QD, ⟨fun x => QG.1 (fun y => x (fw 7 y)), fun x => QG.2 (bk 7 (by decide) x)⟩, QI⟩)
          | 1, _ =>
            cases hio
            have h0 : On f 0 := he ⟨0, .data⟩ (by simp) rfl
            have e0 : gv 120 = .pointer (some ⟨b5, 3, none⟩) := P 0 (by decide) rfl h0
            have d3 : wm.cell? ⟨b5, 3, none⟩ = some (.slice (some ⟨g, 0, none⟩) n capg) := QD.at 3 _ rfl
            rw [e0]
            have HQ := Lib.hid (And.intro P (And.intro QC (And.intro QD (And.intro QG QI))))
            clear P QC QD QG QI
            go_simp
            obtain ⟨P, QC, QD, QG, QI⟩ := HQ.out
            have bk : ∀ j, j ≠ 1 → On (f.setIfInBounds 1 true) j → On f j := fun j hj x => on_back (by omega) x hj
            have fw : ∀ j, On f j → On (f.setIfInBounds 1 true) j := fun j x => (on_put (by omega)).2 (.inr x)
            exact hKK (upd (upd gv 120 (.pointer (some ⟨b5, 3, none⟩))) 121 (.slice (some ⟨g, 0, none⟩) n capg)) _ (by rw [upd_same e0]; exact ⟨hBx, vals_step (n := 1) (v := .slice (some ⟨g, 0, none⟩) n capg) hD (by decide) (by omega) P (fun _ => rfl), QC, QD, ⟨fun x => QG.1 (fun y => x (fw 7 y)), fun x => QG.2 (bk 7 (by decide) x)⟩, QI⟩)
          | 2, _ =>
            cases hio
            have HQ := Lib.hid (And.intro P (And.intro QC (And.intro QD (And.intro QG QI))))
            clear P QC QD QG QI
            go_simp
            obtain ⟨P, QC, QD, QG, QI⟩ := HQ.out
            have bk : ∀ j, j ≠ 2 → On (f.setIfInBounds 2 true) j → On f j := fun j hj x => on_back (by omega) x hj
            have fw : ∀ j, On f j → On (f.setIfInBounds 2 true) j := fun j x => (on_put (by omega)).2 (.inr x)
            exact hKK (upd gv 122 (.pointer (some ⟨b1, 3, none⟩))) _ (by exact ⟨hBx, vals_step (n := 2) (v := .pointer (some ⟨b1, 3, none⟩)) hD (by decide) (by omega) P (fun _ => rfl), QC, QD, ⟨fun x => QG.1 (fun y => x (fw 7 y)), fun x => QG.2 (bk 7 (by decide) x)⟩, QI⟩)
          | 3, _ =>
            cases hio
            have h2 : On f 2 := he ⟨2, .data⟩ (by simp) rfl
            have e2 : gv 122 = .pointer (some ⟨b1, 3, none⟩) := P 2 (by decide) rfl h2
            have d3 : wm.cell? ⟨b1, 3, none⟩ = some (.slice (some ⟨ba, oa, none⟩) n cap) := QC.at 3 _ rfl
            rw [e2]
            have HQ := Lib.hid (And.intro P (And.intro QC (And.intro QD (And.intro QG QI))))
            clear P QC QD QG QI
            go_simp
            obtain ⟨P, QC, QD, QG, QI⟩ := HQ.out
            have bk : ∀ j, j ≠ 3 → On (f.setIfInBounds 3 true) j → On f j := fun j hj x => on_back (by omega) x hj
            have fw : ∀ j, On f j → On (f.setIfInBounds 3 true) j := fun j x => (on_put (by omega)).2 (.inr x)
            exact hKK (upd (upd gv 122 (.pointer (some ⟨b1, 3, none⟩))) 123 (.slice (some ⟨ba, oa, none⟩) n cap)) _ (by rw [upd_same e2]; exact ⟨hBx, vals_step (n := 3) (v := .slice (some ⟨ba, oa, none⟩) n cap) hD (by decide) (by omega) P (fun _ => rfl), QC, QD, ⟨fun x => QG.1 (fun y => x (fw 7 y)), fun x => QG.2 (bk 7 (by decide) x)⟩, QI⟩)
          | 4, _ =>
            cases hio
            have h3 : On f 3 := he ⟨3, .data⟩ (by simp) rfl
            have e3 : gv 123 = .slice (some ⟨ba, oa, none⟩) n cap := P 3 (by decide) rfl h3
            rw [e3]
            have HQ := Lib.hid (And.intro P (And.intro QC (And.intro QD (And.intro QG QI))))
            clear P QC QD QG QI
            go_simp
            obtain ⟨P, QC, QD, QG, QI⟩ := HQ.out
            have bk : ∀ j, j ≠ 4 → On (f.setIfInBounds 4 true) j → On f j := fun j hj x => on_back (by omega) x hj
            have fw : ∀ j, On f j → On (f.setIfInBounds 4 true) j := fun j x => (on_put (by omega)).2 (.inr x)
            exact hKK (upd (upd gv 123 (.slice (some ⟨ba, oa, none⟩) n cap)) 124 (.pointer (some ⟨ba, oa + 32, none⟩))) _ (by rw [upd_same e3]; exact ⟨hBx, vals_step (n := 4) (v := .pointer (some ⟨ba, oa + 32, none⟩)) hD (by decide) (by omega) P (fun _ => rfl), QC, QD, ⟨fun x => QG.1 (fun y => x (fw 7 y)), fun x => QG.2 (bk 7 (by decide) x)⟩, QI⟩)
          | 5, _ =>
            cases hio
            have h4 : On f 4 := he ⟨4, .data⟩ (by simp) rfl
            have e4 : gv 124 = .pointer (some ⟨ba, oa + 32, none⟩) := P 4 (by decide) rfl h4
            have hrg : wm.rangeAt ba (oa + 32) (Bs y) := by
              rcases QI.cells with h0 | ⟨b9, o9, e9, hc⟩
              · omega
              · cases e9
                have h9 := hc 1 (by omega)
                rw [HP.out] at h9
                simpa using h9
            rw [e4]
            have HQ := Lib.hid (And.intro P (And.intro QC (And.intro QD (And.intro QG QI))))
            clear P QC QD QG QI
            refine rng_load (by rfl) 125 rfl 36 (.tmp 124) rfl (by rfl) (Bs y) _ hrg under_ids rfl (info_x HXY.out.2.1) ?_
            simp only [List.setIfInBounds_toArray]
            obtain ⟨P, QC, QD, QG, QI⟩ := HQ.out
            have bk : ∀ j, j ≠ 5 → On (f.setIfInBounds 5 true) j → On f j := fun j hj x => on_back (by omega) x hj
            have fw : ∀ j, On f j → On (f.setIfInBounds 5 true) j := fun j x => (on_put (by omega)).2 (.inr x)
            exact hKK (upd (upd gv 124 (.pointer (some ⟨ba, oa + 32, none⟩))) 125 (.agg (Bs y).toArray)) _ (by rw [upd_same e4]; exact ⟨hBx, vals_step (n := 5) (v := .agg (Bs y).toArray) hD (by decide) (by omega) P (fun _ => rfl), QC, QD, ⟨fun x => QG.1 (fun y => x (fw 7 y)), fun x => QG.2 (bk 7 (by decide) x)⟩, QI⟩)
          | 6, _ =>
            cases hio
            have h1 : On f 1 := he ⟨1, .data⟩ (by simp) rfl
            have e1 : gv 121 = .slice (some ⟨g, 0, none⟩) n capg := P 1 (by decide) rfl h1
            rw [e1]
            have HQ := Lib.hid (And.intro P (And.intro QC (And.intro QD (And.intro QG QI))))
            clear P QC QD QG QI
            go_simp
            obtain ⟨P, QC, QD, QG, QI⟩ := HQ.out
            have bk : ∀ j, j ≠ 6 → On (f.setIfInBounds 6 true) j → On f j := fun j hj x => on_back (by omega) x hj
            have fw : ∀ j, On f j → On (f.setIfInBounds 6 true) j := fun j x => (on_put (by omega)).2 (.inr x)
            exact hKK (upd (upd gv 121 (.slice (some ⟨g, 0, none⟩) n capg)) 126 (.pointer (some ⟨g, 0, none⟩))) _ (by rw [upd_same e1]; exact ⟨hBx, vals_step (n := 6) (v := .pointer (some ⟨g, 0, none⟩)) hD (by decide) (by omega) P (fun _ => rfl), QC, QD, ⟨fun x => QG.1 (fun y => x (fw 7 y)), fun x => QG.2 (bk 7 (by decide) x)⟩, QI⟩)
          | 7, _ =>
            cases hio
            have off : ¬ On f 7 := on_off (by omega) hn
            have h5 : On f 5 := he ⟨5, .data⟩ (by simp) rfl
            have e5 : gv 125 = .agg (Bs y).toArray := P 5 (by decide) rfl h5
            have h6 : On f 6 := he ⟨6, .data⟩ (by simp) rfl
            have e6 : gv 126 = .pointer (some ⟨g, 0, none⟩) := P 6 (by decide) rfl h6
            have hq := QG.1 off
            rw [e5, e6]
            have HQ := Lib.hid (And.intro P (And.intro QC (And.intro QD (And.intro QG QI))))
            clear P QC QD QG QI
            refine mid_store (by rfl) rfl 36 (.tmp 126) (.tmp 125) rfl (by rfl) (Bs y) (by rfl) hq rfl ?_ ?_ (Bs_one _) ?_
            · rw [Bs_length, Bs_length, HXY.out.1, HXY.out.2.1]
            · exact info_x HXY.out.2.1
            intro w6 hc6 ho6
            have hxx := HS15.out
            obtain ⟨P, QC, QD, QG, QI⟩ := HQ.out
            have fn : On (f.setIfInBounds 7 true) 7 := (on_put (by omega)).2 (.inl rfl)
            exact hKK (upd (upd gv 125 (.agg (Bs y).toArray)) 126 (.pointer (some ⟨g, 0, none⟩))) _ (by rw [upd_same e5]; rw [upd_same e6]; exact ⟨ho6.below hBx (by omega), vals_keep (n := 7) (by omega) rfl P, ho6.heap QC (by omega), ho6.heap QD (by omega), ⟨fun x => absurd fn x, fun _ => hc6⟩, QI.only ho6 (fun z hz => by injection hz with hz; rw [← hz]; show ba ≠ g; omega)⟩)
        · rintro f gv w5 hall hs' ⟨hBx, P, QC, QD, QG, QI⟩
          replace hs' : f.size = 8 := hs'
          have on : ∀ j, j < 8 → On f j := fun j hj => on_all hall hs' j hj
          have HG18 := Lib.hid (QG.2 (on 7 (by decide)))
          have HC18 := Lib.hid QC
          have HD18 := Lib.hid QD
          have HI18 := Lib.hid QI
          have HB18 := Lib.hid hBx
          clear P QC QD QG QI hBx hall hs' on hD
          go_upto_region 19 with fail
          have hD : ∀ j, j < 8 → ∀ n, n < 8 → j ≠ n → dkN [127, 128, 129, 130, 131, 132, 133, 1007] j ≠ dkN [127, 128, 129, 130, 131, 132, 133, 1007] n := by decide +kernel
          refine region_fun (by kernel_rfl) (by kernel_rfl) (fun gv => #[gv 0, gv 1, gv 2, .pointer (some ⟨b1, 0, none⟩), gv 4, gv 5, gv 6, gv 7, gv 8, gv 9, gv 10, gv 11, gv 12, gv 13, gv 14, gv 15, gv 16, .pointer (some ⟨b5, 0, none⟩), gv 18, gv 19, gv 20, gv 21, gv 22, gv 23, gv 24, gv 25, gv 26, gv 27, gv 28, gv 29, gv 30, gv 31, gv 32, gv 33, gv 34, gv 35, gv 36, gv 37, gv 38, gv 39, gv 40, gv 41, gv 42, gv 43, gv 44, gv 45, gv 46, gv 47, gv 48, gv 49, gv 50, gv 51, gv 52, gv 53, gv 54, gv 55, gv 56, gv 57, gv 58, gv 59, gv 60, gv 61, gv 62, gv 63, gv 64, gv 65, gv 66, gv 67, gv 68, gv 69, gv 70, gv 71, gv 72, gv 73, gv 74, gv 75, gv 76, gv 77, gv 78, gv 79, gv 80, gv 81, gv 82, gv 83, gv 84, gv 85, gv 86, gv 87, gv 88, gv 89, gv 90, gv 91, gv 92, gv 93, gv 94, gv 95, gv 96, gv 97, gv 98, gv 99, gv 100, gv 101, gv 102, gv 103, gv 104, gv 105, gv 106, gv 107, gv 108, gv 109, gv 110, gv 111, gv 112, gv 113, gv 114, gv 115, gv 116, gv 117, gv 118, gv 119, gv 120, gv 121, gv 122, gv 123, gv 124, gv 125, gv 126, gv 127, gv 128, gv 129, gv 130, gv 131, gv 132, gv 133, gv 134, gv 135, gv 136]) rfl (fun f gv wx => Below w.heap.size w wx ∧ (∀ j, j < 8 → (fun j => Nat.beq j 7) j = false → On f j → gv (dkN [127, 128, 129, 130, 131, 132, 133, 1007] j) = vkN [.pointer (some ⟨b5, 3, none⟩), .slice (some ⟨g, 0, none⟩) n capg, .pointer (some ⟨b1, 3, none⟩), .slice (some ⟨ba, oa, none⟩) n cap, .pointer (some ⟨ba, oa, none⟩), .agg (Bs x).toArray, .pointer (some ⟨g, 32, none⟩), undef] j) ∧ (Cel wx b1 28 [.int .i64 node, .int .i64 seq, .int .i64 gen, .slice (some ⟨ba, oa, none⟩) n cap, .int .i64 kind, .string s1, .string s2, .int .i64 num]) ∧ (Cel wx b5 28 [.int .i64 node, .int .i64 seq, .int .i64 gen, .slice (some ⟨g, 0, none⟩) n capg, .int .i64 kind, .string s1, .string s2, .int .i64 num]) ∧ ((¬ On f 7 → Cel wx g 36 (Bs y ++ (Bs y ++ R))) ∧ (On f 7 → Cel wx g 36 (Bs y ++ (Bs x ++ R)))) ∧ (Ids wx (some ⟨ba, oa, none⟩) n cap c.par)) ?_ ?_ ?_
          · have hoff : ∀ j, ¬ On (Array.replicate 8 false) j := by
              intro j hj; simp only [On, Array.getD_eq_getD_getElem?, Array.getElem?_replicate] at hj; split at hj <;> simp at hj
            exact ⟨HB18.out.drew, fun j _ _ x => absurd x (hoff _), HC18.out.step (below_drewNw _ _), HD18.out.step (below_drewNw _ _), ⟨fun _ => HG18.out.step (below_drewNw _ _), fun x => absurd x (hoff _)⟩, HI18.out.below (below_drewNw _ _)⟩
          · rintro i' o' f gv wm hio hs' hn he ⟨hBx, P, QC, QD, QG, QI⟩ KK hKK
            have hi' : i' < 8 := (Array.getElem?_eq_some_iff.1 hio).1
            replace hs' : f.size = 8 := hs'
            match i', hi' with
            | 0, _ =>
              cases hio
              have HQ := Lib.hid (And.intro P (And.intro QC (And.intro QD (And.intro QG QI))))
              clear P QC QD QG QI
              go_simp
              obtain ⟨P, QC, QD, QG, QI⟩ := HQ.out
              have bk : ∀ j, j ≠ 0 → On (f.setIfInBounds 0 true) j → On f j := fun j hj x => on_back (by omega) x hj
              have fw : ∀ j, On f j → On (f.setIfInBounds 0 true) j := fun j x => (on_put (by omega)).2 (.inr x)
              exact hKK (upd gv 127 (.pointer (some ⟨b5, 3, none⟩))) _ (by exact ⟨hBx, vals_step (n := 0) (v := .pointer (some ⟨b5, 3, none⟩)) hD (by decide) (by omega) P (fun _ => rfl), QC, QD, ⟨fun x => QG.1 (fun y => x (fw 7 y)), fun x => QG.2 (bk 7 (by decide) x)⟩, QI⟩)
            | 1, _ =>
              cases hio
              have h0 : On f 0 := he ⟨0, .data⟩ (by simp) rfl
              have e0 : gv 127 = .pointer (some ⟨b5, 3, none⟩) := P 0 (by decide) rfl h0
              have d3 : wm.cell? ⟨b5, 3, none⟩ = some (.slice (some ⟨g, 0, none⟩) n capg) := QD.at 3 _ rfl
              rw [e0]
              have HQ := Lib.hid (And.intro P (And.intro QC (And.intro QD (And.intro QG QI))))
              clear P QC QD QG QI
              go_simp
              obtain ⟨P, QC, QD, QG, QI⟩ := HQ.out
              have bk : ∀ j, j ≠ 1 → On (f.setIfInBounds 1 true) j → On f j := fun j hj x => on_back (by omega) x hj
              have fw : ∀ j, On f j → On (f.setIfInBounds 1 true) j := fun j x => (on_put (by omega)).2 (.inr x)
              exact hKK (upd (upd gv 127 (.pointer (some ⟨b5, 3, none⟩))) 128 (.slice (some ⟨g, 0, none⟩) n capg)) _ (by rw [upd_same e0]; exact ⟨hBx, vals_step (n := 1) (v := .slice (some ⟨g, 0, none⟩) n capg) hD (by decide) (by omega) P (fun _ => rfl), QC, QD, ⟨fun x => QG.1 (fun y => x (fw 7 y)), fun x => QG.2 (bk 7 (by decide) x)⟩, QI⟩)
            | 2, _ =>
              cases hio
              have HQ := Lib.hid (And.intro P (And.intro QC (And.intro QD (And.intro QG QI))))
              clear P QC QD QG QI
              go_simp
              obtain ⟨P, QC, QD, QG, QI⟩ := HQ.out
              have bk : ∀ j, j ≠ 2 → On (f.setIfInBounds 2 true) j → On f j := fun j hj x => on_back (by omega) x hj
              have fw : ∀ j, On f j → On (f.setIfInBounds 2 true) j := fun j x => (on_put (by omega)).2 (.inr x)
              exact hKK (upd gv 129 (.pointer (some ⟨b1, 3, none⟩))) _ (by exact ⟨hBx, vals_step (n := 2) (v := .pointer (some ⟨b1, 3, none⟩)) hD (by decide) (by omega) P (fun _ => rfl), QC, QD, ⟨fun x => QG.1 (fun y => x (fw 7 y)), fun x => QG.2 (bk 7 (by decide) x)⟩, QI⟩)
            | 3, _ =>
              cases hio
              have h2 : On f 2 := he ⟨2, .data⟩ (by simp) rfl
              have e2 : gv 129 = .pointer (some ⟨b1, 3, none⟩) := P 2 (by decide) rfl h2
              have d3 : wm.cell? ⟨b1, 3, none⟩ = some (.slice (some ⟨ba, oa, none⟩) n cap) := QC.at 3 _ rfl
              rw [e2]
              have HQ := Lib.hid (And.intro P (And.intro QC (And.intro QD (And.intro QG QI))))
              clear P QC QD QG QI
              go_simp
              obtain ⟨P, QC, QD, QG, QI⟩ := HQ.out
              have bk : ∀ j, j ≠ 3 → On (f.setIfInBounds 3 true) j → On f j := fun j hj x => on_back (by omega) x hj
              have fw : ∀ j, On f j → On (f.setIfInBounds 3 true) j := fun j x => (on_put (by omega)).2 (.inr x)
              exact hKK (upd (upd gv 129 (.pointer (some ⟨b1, 3, none⟩))) 130 (.slice (some ⟨ba, oa, none⟩) n cap)) _ (by rw [upd_same e2]; exact ⟨hBx, vals_step (n := 3) (v := .slice (some ⟨ba, oa, none⟩) n cap) hD (by decide) (by omega) P (fun _ => rfl), QC, QD, ⟨fun x => QG.1 (fun y => x (fw 7 y)), fun x => QG.2 (bk 7 (by decide) x)⟩, QI⟩)
            | 4, _ =>
              cases hio
              have h3 : On f 3 := he ⟨3, .data⟩ (by simp) rfl
              have e3 : gv 130 = .slice (some ⟨ba, oa, none⟩) n cap := P 3 (by decide) rfl h3
              rw [e3]
              have HQ := Lib.hid (And.intro P (And.intro QC (And.intro QD (And.intro QG QI))))
              clear P QC QD QG QI
              go_simp
              obtain ⟨P, QC, QD, QG, QI⟩ := HQ.out
              have bk : ∀ j, j ≠ 4 → On (f.setIfInBounds 4 true) j → On f j := fun j hj x => on_back (by omega) x hj
              have fw : ∀ j, On f j → On (f.setIfInBounds 4 true) j := fun j x => (on_put (by omega)).2 (.inr x)
              exact hKK (upd (upd gv 130 (.slice (some ⟨ba, oa, none⟩) n cap)) 131 (.pointer (some ⟨ba, oa, none⟩))) _ (by rw [upd_same e3]; exact ⟨hBx, vals_step (n := 4) (v := .pointer (some ⟨ba, oa, none⟩)) hD (by decide) (by omega) P (fun _ => rfl), QC, QD, ⟨fun x => QG.1 (fun y => x (fw 7 y)), fun x => QG.2 (bk 7 (by decide) x)⟩, QI⟩)
            | 5, _ =>
              cases hio
              have h4 : On f 4 := he ⟨4, .data⟩ (by simp) rfl
              have e4 : gv 131 = .pointer (some ⟨ba, oa, none⟩) := P 4 (by decide) rfl h4
              have hrg : wm.rangeAt ba (oa) (Bs x) := by
                rcases QI.cells with h0 | ⟨b9, o9, e9, hc⟩
                · omega
                · cases e9
                  have h9 := hc 0 (by omega)
                  rw [HP.out] at h9
                  simpa using h9
              rw [e4]
              have HQ := Lib.hid (And.intro P (And.intro QC (And.intro QD (And.intro QG QI))))
              clear P QC QD QG QI
              refine rng_load (by rfl) 132 rfl 36 (.tmp 131) rfl (by rfl) (Bs x) _ hrg under_ids rfl (info_x HXY.out.1) ?_
              simp only [List.setIfInBounds_toArray]
              obtain ⟨P, QC, QD, QG, QI⟩ := HQ.out
              have bk : ∀ j, j ≠ 5 → On (f.setIfInBounds 5 true) j → On f j := fun j hj x => on_back (by omega) x hj
              have fw : ∀ j, On f j → On (f.setIfInBounds 5 true) j := fun j x => (on_put (by omega)).2 (.inr x)
              exact hKK (upd (upd gv 131 (.pointer (some ⟨ba, oa, none⟩))) 132 (.agg (Bs x).toArray)) _ (by rw [upd_same e4]; exact ⟨hBx, vals_step (n := 5) (v := .agg (Bs x).toArray) hD (by decide) (by omega) P (fun _ => rfl), QC, QD, ⟨fun x => QG.1 (fun y => x (fw 7 y)), fun x => QG.2 (bk 7 (by decide) x)⟩, QI⟩)
            | 6, _ =>
              cases hio
              have h1 : On f 1 := he ⟨1, .data⟩ (by simp) rfl
              have e1 : gv 128 = .slice (some ⟨g, 0, none⟩) n capg := P 1 (by decide) rfl h1
              rw [e1]
              have HQ := Lib.hid (And.intro P (And.intro QC (And.intro QD (And.intro QG QI))))
              clear P QC QD QG QI
              go_simp
              obtain ⟨P, QC, QD, QG, QI⟩ := HQ.out
              have bk : ∀ j, j ≠ 6 → On (f.setIfInBounds 6 true) j → On f j := fun j hj x => on_back (by omega) x hj
              have fw : ∀ j, On f j → On (f.setIfInBounds 6 true) j := fun j x => (on_put (by omega)).2 (.inr x)
              exact hKK (upd (upd gv 128 (.slice (some ⟨g, 0, none⟩) n capg)) 133 (.pointer (some ⟨g, 32, none⟩))) _ (by rw [upd_same e1]; exact ⟨hBx, vals_step (n := 6) (v := .pointer (some ⟨g, 32, none⟩)) hD (by decide) (by omega) P (fun _ => rfl), QC, QD, ⟨fun x => QG.1 (fun y => x (fw 7 y)), fun x => QG.2 (bk 7 (by decide) x)⟩, QI⟩)
            | 7, _ =>
              cases hio
              have off : ¬ On f 7 := on_off (by omega) hn
              have h5 : On f 5 := he ⟨5, .data⟩ (by simp) rfl
              have e5 : gv 132 = .agg (Bs x).toArray := P 5 (by decide) rfl h5
              have h6 : On f 6 := he ⟨6, .data⟩ (by simp) rfl
              have e6 : gv 133 = .pointer (some ⟨g, 32, none⟩) := P 6 (by decide) rfl h6
              have hq := QG.1 off
              rw [e5, e6]
              have HQ := Lib.hid (And.intro P (And.intro QC (And.intro QD (And.intro QG QI))))
              clear P QC QD QG QI
              refine mid_store (by rfl) rfl 36 (.tmp 133) (.tmp 132) rfl (by rfl) (Bs x) (by rfl) hq (by rw [Bs_length]; exact HXY.out.2.1) ?_ ?_ (Bs_one _) ?_
              · rw [Bs_length, Bs_length, HXY.out.1, HXY.out.2.1]
              · exact info_x HXY.out.1
              intro w6 hc6 ho6
              have hxx := HS15.out
              obtain ⟨P, QC, QD, QG, QI⟩ := HQ.out
              have fn : On (f.setIfInBounds 7 true) 7 := (on_put (by omega)).2 (.inl rfl)
              exact hKK (upd (upd gv 132 (.agg (Bs x).toArray)) 133 (.pointer (some ⟨g, 32, none⟩))) _ (by rw [upd_same e5]; rw [upd_same e6]; exact ⟨ho6.below hBx (by omega), vals_keep (n := 7) (by omega) rfl P, ho6.heap QC (by omega), ho6.heap QD (by omega), ⟨fun x => absurd fn x, fun _ => hc6⟩, QI.only ho6 (fun z hz => by injection hz with hz; rw [← hz]; show ba ≠ g; omega)⟩)
          · rintro f gv w5 hall hs' ⟨hBx, P, QC, QD, QG, QI⟩
            replace hs' : f.size = 8 := hs'
            have on : ∀ j, j < 8 → On f j := fun j hj => on_all hall hs' j hj
            have HG19 := Lib.hid (QG.2 (on 7 (by decide)))
            have HD19 := Lib.hid QD
            have HB19 := Lib.hid hBx
            clear P QC QD QG QI hBx hall hs' on hD
            have HIS := Lib.hid (show Ids w5 (some ⟨g, 0, none⟩) n capg (y :: x :: r) from Ids.of_cel (rest := rest) (t := 36) (by have := HG19.out; rw [HR.out] at this; simpa [Bs, List.map_append, List.append_assoc] using this) (by rw [HN.out, HP.out]; rfl) (fun z hz => by
              have := HXY.out
              simp only [List.mem_cons] at hz
              rcases hz with rfl | rfl | hz
              · exact this.2.1
              · exact this.1
              · exact this.2.2 z hz) HCP.out.1 HCP.out.2)
            have p0 : w5.cell? ⟨b5, 0, none⟩ = some (.int .i64 node) := HD19.out.at 0 _ rfl
            have p1 : w5.cell? ⟨b5, 1, none⟩ = some (.int .i64 seq) := HD19.out.at 1 _ rfl
            have p2 : w5.cell? ⟨b5, 2, none⟩ = some (.int .i64 gen) := HD19.out.at 2 _ rfl
            have p3 : w5.cell? ⟨b5, 3, none⟩ = some (.slice (some ⟨g, 0, none⟩) n capg) := HD19.out.at 3 _ rfl
            have p4 : w5.cell? ⟨b5, 4, none⟩ = some (.int .i64 kind) := HD19.out.at 4 _ rfl
            have p5 : w5.cell? ⟨b5, 5, none⟩ = some (.string s1) := HD19.out.at 5 _ rfl
            have p6 : w5.cell? ⟨b5, 6, none⟩ = some (.string s2) := HD19.out.at 6 _ rfl
            have p7 : w5.cell? ⟨b5, 7, none⟩ = some (.int .i64 num) := HD19.out.at 7 _ rfl
            go_wp2_with fail
            refine (HMS.out _ g capg x y r HP.out (by first | rfl | trivial) HIS.out).mono ?_
            rintro e w20 ⟨rfl, hb⟩
            have HB20 := Lib.hid (HB19.out.step hb)
            go_wp2_with fail
            go_ret
            exact ⟨rfl, HB20.out⟩
    | false =>
      rw [if_neg (by decide)] at hpb
      obtain ⟨rfl, hb⟩ := hpb
      have HC12 := Lib.hid (HC11.out.step hb)
      have HO12 := Lib.hid (HO11.out.step hb)
      have HB12 := Lib.hid (HB11.out.step hb)
      have HX12 := Lib.hid (HX11.out.below hb)
      have HY12 := Lib.hid (HY11.out.below hb)
      clear hb r0 r1 r2 r3 r4 r5 r6 r7
      go_upto_region 12 with fail
      have hD : ∀ j, j < 41 → ∀ n, n < 41 → j ≠ n → dkN [70, 71, 72, 73, 74, 75, 76, 77, 78, 79, 80, 81, 82, 83, 84, 85, 86, 87, 88, 89, 90, 91, 92, 93, 94, 95, 96, 97, 98, 99, 100, 101, 102, 103, 104, 105, 106, 107, 108, 109, 110] j ≠ dkN [70, 71, 72, 73, 74, 75, 76, 77, 78, 79, 80, 81, 82, 83, 84, 85, 86, 87, 88, 89, 90, 91, 92, 93, 94, 95, 96, 97, 98, 99, 100, 101, 102, 103, 104, 105, 106, 107, 108, 109, 110] n := by decide +kernel
      refine region_fun (by kernel_rfl) (by kernel_rfl) (fun gv => #[gv 0, gv 1, .int .i64 sq, .pointer (some ⟨b1, 0, none⟩), .pointer (some ⟨b2, 0, none⟩), gv 5, gv 6, gv 7, gv 8, .slice a5 lx c5, gv 10, gv 11, .slice a9 ly c9, .int .i64 0, gv 14, .slice none 0 0, .int .i64 1, gv 17, gv 18, gv 19, gv 20, gv 21, gv 22, gv 23, gv 24, gv 25, gv 26, gv 27, gv 28, gv 29, gv 30, gv 31, gv 32, gv 33, gv 34, gv 35, gv 36, gv 37, gv 38, gv 39, gv 40, gv 41, gv 42, gv 43, gv 44, gv 45, gv 46, gv 47, gv 48, gv 49, gv 50, gv 51, gv 52, gv 53, gv 54, gv 55, gv 56, gv 57, gv 58, gv 59, gv 60, gv 61, gv 62, gv 63, gv 64, gv 65, gv 66, gv 67, gv 68, gv 69, gv 70, gv 71, gv 72, gv 73, gv 74, gv 75, gv 76, gv 77, gv 78, gv 79, gv 80, gv 81, gv 82, gv 83, gv 84, gv 85, gv 86, gv 87, gv 88, gv 89, gv 90, gv 91, gv 92, gv 93, gv 94, gv 95, gv 96, gv 97, gv 98, gv 99, gv 100, gv 101, gv 102, gv 103, gv 104, gv 105, gv 106, gv 107, gv 108, gv 109, gv 110, gv 111, gv 112, gv 113, gv 114, gv 115, gv 116, gv 117, gv 118, gv 119, gv 120, gv 121, gv 122, gv 123, gv 124, gv 125, gv 126, gv 127, gv 128, gv 129, gv 130, gv 131, gv 132, gv 133, gv 134, gv 135, gv 136]) rfl (fun f gv wx => Below w12.heap.size w12 wx ∧ (∀ j, j < 41 → (fun j => false) j = false → On f j → gv (dkN [70, 71, 72, 73, 74, 75, 76, 77, 78, 79, 80, 81, 82, 83, 84, 85, 86, 87, 88, 89, 90, 91, 92, 93, 94, 95, 96, 97, 98, 99, 100, 101, 102, 103, 104, 105, 106, 107, 108, 109, 110] j) = vkN [.slice a5 lx c5, .int .i64 (lx : Int), .pointer (some ⟨b1, 3, none⟩), .slice a n cap, .int .i64 (n : Int), .int .i64 (32 * (n : Int)), .int .i64 (32 * (n : Int) + 7), .bool false, .bool false, .int .i64 0, .bool true, .bool true, .slice a5 lx c5, .string ⟨X.toArray⟩, .slice a9 ly c9, .string ⟨Y.toArray⟩, .bool e1, .agg #[.int .i64 ki, .string t1, .string t2, .int .i64 nu], .pointer (some ⟨b1, 4, none⟩), .agg #[.int .i64 kind, .string s1, .string s2, .int .i64 num], .bool e1, .bool false, .bool false, .bool false, .bool false, .int .i64 1, .bool false, .bool false, undef, undef, undef, undef, undef, undef, undef, undef, undef, undef, undef, .bool false, .bool false] j) ∧ (Cel wx b1 28 [.int .i64 node, .int .i64 seq, .int .i64 gen, .slice a n cap, .int .i64 kind, .string s1, .string s2, .int .i64 num]) ∧ (Cel wx b2 26 [.int .i64 ki, .string t1, .string t2, .int .i64 nu]) ∧ (Rd wx a5 lx c5 X) ∧ (Rd wx a9 ly c9 Y)) ?_ ?_ ?_
      · have hoff : ∀ j, ¬ On (Array.replicate 41 false) j := by
          intro j hj; simp only [On, Array.getD_eq_getD_getElem?, Array.getElem?_replicate] at hj; split at hj <;> simp at hj
        exact ⟨(Below.refl _ _).drew, fun j _ _ x => absurd x (hoff _), HC12.out.step (below_drewNw _ _), HO12.out.step (below_drewNw _ _), HX12.out.below (below_drewNw _ _), HY12.out.below (below_drewNw _ _)⟩
      · rintro i' o' f gv wm hio hs' hn he ⟨hBx, P, QC, QO, QX, QY⟩ KK hKK
        have hi' : i' < 41 := (Array.getElem?_eq_some_iff.1 hio).1
        replace hs' : f.size = 41 := hs'
        match i', hi' with
        | 0, _ =>
          cases hio
          have HQ := Lib.hid (And.intro P (And.intro QC (And.intro QO (And.intro QX QY))))
          clear P QC QO QX QY
          go_simp
          obtain ⟨P, QC, QO, QX, QY⟩ := HQ.out
          exact hKK (upd gv 70 (.slice a5 lx c5)) _ (by exact ⟨hBx, vals_step (n := 0) (v := .slice a5 lx c5) hD (by decide) (by omega) P (fun _ => rfl), QC, QO, QX, QY⟩)
        | 1, _ =>
          cases hio
          have h0 : On f 0 := he ⟨0, .data⟩ (by simp) rfl
          have e0 : gv 70 = .slice a5 lx c5 := P 0 (by decide) rfl h0
          rw [e0]
          have HQ := Lib.hid (And.intro P (And.intro QC (And.intro QO (And.intro QX QY))))
          clear P QC QO QX QY
          go_simp
          obtain ⟨P, QC, QO, QX, QY⟩ := HQ.out
          exact hKK (upd (upd gv 70 (.slice a5 lx c5)) 71 (.int .i64 (lx : Int))) _ (by rw [upd_same e0]; exact ⟨hBx, vals_step (n := 1) (v := .int .i64 (lx : Int)) hD (by decide) (by omega) P (fun _ => rfl), QC, QO, QX, QY⟩)
        | 2, _ =>
          cases hio
          have HQ := Lib.hid (And.intro P (And.intro QC (And.intro QO (And.intro QX QY))))
          clear P QC QO QX QY
          go_simp
          obtain ⟨P, QC, QO, QX, QY⟩ := HQ.out
          exact hKK (upd gv 72 (.pointer (some ⟨b1, 3, none⟩))) _ (by exact ⟨hBx, vals_step (n := 2) (v := .pointer (some ⟨b1, 3, none⟩)) hD (by decide) (by omega) P (fun _ => rfl), QC, QO, QX, QY⟩)
        | 3, _ =>
          cases hio
          have h2 : On f 2 := he ⟨2, .data⟩ (by simp) rfl
          have e2 : gv 72 = .pointer (some ⟨b1, 3, none⟩) := P 2 (by decide) rfl h2
          have d3 : wm.cell? ⟨b1, 3, none⟩ = some (.slice a n cap) := QC.at 3 _ rfl
          rw [e2]
          have HQ := Lib.hid (And.intro P (And.intro QC (And.intro QO (And.intro QX QY))))
          clear P QC QO QX QY
          go_simp
          obtain ⟨P, QC, QO, QX, QY⟩ := HQ.out
          exact hKK (upd (upd gv 72 (.pointer (some ⟨b1, 3, none⟩))) 73 (.slice a n cap)) _ (by rw [upd_same e2]; exact ⟨hBx, vals_step (n := 3) (v := .slice a n cap) hD (by decide) (by omega) P (fun _ => rfl), QC, QO, QX, QY⟩)
        | 4, _ =>
          cases hio
          have h3 : On f 3 := he ⟨3, .data⟩ (by simp) rfl
          have e3 : gv 73 = .slice a n cap := P 3 (by decide) rfl h3
          rw [e3]
          have HQ := Lib.hid (And.intro P (And.intro QC (And.intro QO (And.intro QX QY))))
          clear P QC QO QX QY
          go_simp
          obtain ⟨P, QC, QO, QX, QY⟩ := HQ.out
          exact hKK (upd (upd gv 73 (.slice a n cap)) 74 (.int .i64 (n : Int))) _ (by rw [upd_same e3]; exact ⟨hBx, vals_step (n := 4) (v := .int .i64 (n : Int)) hD (by decide) (by omega) P (fun _ => rfl), QC, QO, QX, QY⟩)
        | 5, _ =>
          cases hio
          have h4 : On f 4 := he ⟨4, .data⟩ (by simp) rfl
          have e4 : gv 74 = .int .i64 (n : Int) := P 4 (by decide) rfl h4
          have hw5 : IntKind.i64.wrap (32 * (n : Int)) = 32 * (n : Int) := by rw [IntWalk.i64_in _ ⟨by omega, by omega⟩]
          rw [e4]
          have HQ := Lib.hid (And.intro P (And.intro QC (And.intro QO (And.intro QX QY))))
          clear P QC QO QX QY
          go_simp
          obtain ⟨P, QC, QO, QX, QY⟩ := HQ.out
          exact hKK (upd (upd gv 74 (.int .i64 (n : Int))) 75 (.int .i64 (32 * (n : Int)))) _ (by rw [upd_same e4]; exact ⟨hBx, vals_step (n := 5) (v := .int .i64 (32 * (n : Int))) hD (by decide) (by omega) P (fun _ => rfl), QC, QO, QX, QY⟩)
        | 6, _ =>
          cases hio
          have h5 : On f 5 := he ⟨5, .data⟩ (by simp) rfl
          have e5 : gv 75 = .int .i64 (32 * (n : Int)) := P 5 (by decide) rfl h5
          have hw5 : IntKind.i64.wrap (32 * (n : Int) + 7) = 32 * (n : Int) + 7 := by rw [IntWalk.i64_in _ ⟨by omega, by omega⟩]
          rw [e5]
          have HQ := Lib.hid (And.intro P (And.intro QC (And.intro QO (And.intro QX QY))))
          clear P QC QO QX QY
          go_simp
          obtain ⟨P, QC, QO, QX, QY⟩ := HQ.out
          exact hKK (upd (upd gv 75 (.int .i64 (32 * (n : Int)))) 76 (.int .i64 (32 * (n : Int) + 7))) _ (by rw [upd_same e5]; exact ⟨hBx, vals_step (n := 6) (v := .int .i64 (32 * (n : Int) + 7)) hD (by decide) (by omega) P (fun _ => rfl), QC, QO, QX, QY⟩)
        | 7, _ =>
          cases hio
          have h1 : On f 1 := he ⟨1, .data⟩ (by simp) rfl
          have e1 : gv 71 = .int .i64 (lx : Int) := P 1 (by decide) rfl h1
          have h6 : On f 6 := he ⟨6, .data⟩ (by simp) rfl
          have e6 : gv 76 = .int .i64 (32 * (n : Int) + 7) := P 6 (by decide) rfl h6
          have hq : ¬ (lx : Int) < 32 * (n : Int) + 7 := by have := HLX.out; omega
          rw [e1, e6]
          have HQ := Lib.hid (And.intro P (And.intro QC (And.intro QO (And.intro QX QY))))
          clear P QC QO QX QY
          go_simp
          obtain ⟨P, QC, QO, QX, QY⟩ := HQ.out
          exact hKK (upd (upd (upd gv 71 (.int .i64 (lx : Int))) 76 (.int .i64 (32 * (n : Int) + 7))) 77 (.bool false)) _ (by rw [upd_same e1]; rw [upd_same e6]; exact ⟨hBx, vals_step (n := 7) (v := .bool false) hD (by decide) (by omega) P (fun _ => rfl), QC, QO, QX, QY⟩)
        | 8, _ =>
          cases hio
          have h7 : On f 7 := he ⟨7, .data⟩ (by simp) rfl
          have e7 : gv 77 = .bool false := P 7 (by decide) rfl h7
          rw [e7]
          have HQ := Lib.hid (And.intro P (And.intro QC (And.intro QO (And.intro QX QY))))
          clear P QC QO QX QY
          go_simp
          obtain ⟨P, QC, QO, QX, QY⟩ := HQ.out
          exact hKK (upd (upd gv 77 (.bool false)) 78 (.bool false)) _ (by rw [upd_same e7]; exact ⟨hBx, vals_step (n := 8) (v := .bool false) hD (by decide) (by omega) P (fun _ => rfl), QC, QO, QX, QY⟩)
        | 9, _ =>
          cases hio
          have h8 : On f 8 := he ⟨8, .guard⟩ (by simp) rfl
          have e8 : gv 78 = .bool false := P 8 (by decide) rfl h8
          rw [e8]
          rw [if_pos (by rfl)]
          have HQ := Lib.hid (And.intro P (And.intro QC (And.intro QO (And.intro QX QY))))
          clear P QC QO QX QY
          go_simp
          obtain ⟨P, QC, QO, QX, QY⟩ := HQ.out
          exact hKK (upd (upd gv 78 (.bool false)) 79 (.int .i64 0)) _ (by rw [upd_same e8]; exact ⟨hBx, vals_step (n := 9) (v := .int .i64 0) hD (by decide) (by omega) P (fun _ => rfl), QC, QO, QX, QY⟩)
        | 10, _ =>
          cases hio
          have h8 : On f 8 := he ⟨8, .guard⟩ (by simp) rfl
          have e8 : gv 78 = .bool false := P 8 (by decide) rfl h8
          have h9 : On f 9 := he ⟨9, .data⟩ (by simp) rfl
          have e9 : gv 79 = .int .i64 0 := P 9 (by decide) rfl h9
          rw [e8, e9]
          rw [if_pos (by rfl)]
          have HQ := Lib.hid (And.intro P (And.intro QC (And.intro QO (And.intro QX QY))))
          clear P QC QO QX QY
          go_simp
          obtain ⟨P, QC, QO, QX, QY⟩ := HQ.out
          exact hKK (upd (upd (upd gv 78 (.bool false)) 79 (.int .i64 0)) 80 (.bool true)) _ (by rw [upd_same e8]; rw [upd_same e9]; exact ⟨hBx, vals_step (n := 10) (v := .bool true) hD (by decide) (by omega) P (fun _ => rfl), QC, QO, QX, QY⟩)
        | 11, _ =>
          cases hio
          have h8 : On f 8 := he ⟨8, .guard⟩ (by simp) rfl
          have e8 : gv 78 = .bool false := P 8 (by decide) rfl h8
          have h10 : On f 10 := he ⟨10, .data⟩ (by simp) rfl
          have e10 : gv 80 = .bool true := P 10 (by decide) rfl h10
          rw [e8, e10]
          rw [if_pos (by rfl)]
          have HQ := Lib.hid (And.intro P (And.intro QC (And.intro QO (And.intro QX QY))))
          clear P QC QO QX QY
          go_simp
          obtain ⟨P, QC, QO, QX, QY⟩ := HQ.out
          exact hKK (upd (upd (upd gv 78 (.bool false)) 80 (.bool true)) 81 (.bool true)) _ (by rw [upd_same e8]; rw [upd_same e10]; exact ⟨hBx, vals_step (n := 11) (v := .bool true) hD (by decide) (by omega) P (fun _ => rfl), QC, QO, QX, QY⟩)
        | 12, _ =>
          cases hio
          have h11 : On f 11 := he ⟨11, .guard⟩ (by simp) rfl
          have e11 : gv 81 = .bool true := P 11 (by decide) rfl h11
          rw [e11]
          rw [if_pos (by rfl)]
          have HQ := Lib.hid (And.intro P (And.intro QC (And.intro QO (And.intro QX QY))))
          clear P QC QO QX QY
          go_simp
          obtain ⟨P, QC, QO, QX, QY⟩ := HQ.out
          exact hKK (upd (upd gv 81 (.bool true)) 82 (.slice a5 lx c5)) _ (by rw [upd_same e11]; exact ⟨hBx, vals_step (n := 12) (v := .slice a5 lx c5) hD (by decide) (by omega) P (fun _ => rfl), QC, QO, QX, QY⟩)
        | 13, _ =>
          cases hio
          have h11 : On f 11 := he ⟨11, .guard⟩ (by simp) rfl
          have e11 : gv 81 = .bool true := P 11 (by decide) rfl h11
          have h12 : On f 12 := he ⟨12, .data⟩ (by simp) rfl
          have e12 : gv 82 = .slice a5 lx c5 := P 12 (by decide) rfl h12
          have hcv : (convert 31 9 (.slice a5 lx c5)).run Try.prog wm = .ok (.string ⟨X.toArray⟩) wm := str_drew QX 0
          rw [e11, e12]
          rw [if_pos (by rfl)]
          have HQ := Lib.hid (And.intro P (And.intro QC (And.intro QO (And.intro QX QY))))
          clear P QC QO QX QY
          go_simp
          obtain ⟨P, QC, QO, QX, QY⟩ := HQ.out
          exact hKK (upd (upd (upd gv 81 (.bool true)) 82 (.slice a5 lx c5)) 83 (.string ⟨X.toArray⟩)) _ (by rw [upd_same e11]; rw [upd_same e12]; exact ⟨hBx, vals_step (n := 13) (v := .string ⟨X.toArray⟩) hD (by decide) (by omega) P (fun _ => rfl), QC, QO, QX, QY⟩)
        | 14, _ =>
          cases hio
          have h11 : On f 11 := he ⟨11, .guard⟩ (by simp) rfl
          have e11 : gv 81 = .bool true := P 11 (by decide) rfl h11
          rw [e11]
          rw [if_pos (by rfl)]
          have HQ := Lib.hid (And.intro P (And.intro QC (And.intro QO (And.intro QX QY))))
          clear P QC QO QX QY
          go_simp
          obtain ⟨P, QC, QO, QX, QY⟩ := HQ.out
          exact hKK (upd (upd gv 81 (.bool true)) 84 (.slice a9 ly c9)) _ (by rw [upd_same e11]; exact ⟨hBx, vals_step (n := 14) (v := .slice a9 ly c9) hD (by decide) (by omega) P (fun _ => rfl), QC, QO, QX, QY⟩)
        | 15, _ =>
          cases hio
          have h11 : On f 11 := he ⟨11, .guard⟩ (by simp) rfl
          have e11 : gv 81 = .bool true := P 11 (by decide) rfl h11
          have h14 : On f 14 := he ⟨14, .data⟩ (by simp) rfl
          have e14 : gv 84 = .slice a9 ly c9 := P 14 (by decide) rfl h14
          have hcv : (convert 31 9 (.slice a9 ly c9)).run Try.prog wm = .ok (.string ⟨Y.toArray⟩) wm := str_drew QY 0
          rw [e11, e14]
          rw [if_pos (by rfl)]
          have HQ := Lib.hid (And.intro P (And.intro QC (And.intro QO (And.intro QX QY))))
          clear P QC QO QX QY
          go_simp
          obtain ⟨P, QC, QO, QX, QY⟩ := HQ.out
          exact hKK (upd (upd (upd gv 81 (.bool true)) 84 (.slice a9 ly c9)) 85 (.string ⟨Y.toArray⟩)) _ (by rw [upd_same e11]; rw [upd_same e14]; exact ⟨hBx, vals_step (n := 15) (v := .string ⟨Y.toArray⟩) hD (by decide) (by omega) P (fun _ => rfl), QC, QO, QX, QY⟩)
        | 16, _ =>
          cases hio
          have h11 : On f 11 := he ⟨11, .guard⟩ (by simp) rfl
          have e11 : gv 81 = .bool true := P 11 (by decide) rfl h11
          have h13 : On f 13 := he ⟨13, .data⟩ (by simp) rfl
          have e13 : gv 83 = .string ⟨X.toArray⟩ := P 13 (by decide) rfl h13
          have h15 : On f 15 := he ⟨15, .data⟩ (by simp) rfl
          have e15 : gv 85 = .string ⟨Y.toArray⟩ := P 15 (by decide) rfl h15
          have hq : (X == Y) = e1 := by rw [← HE1T.out]; by_cases h : X = Y <;> simp [h]
          have hq2 : (ByteArray.toList ⟨X.toArray⟩ == ByteArray.toList ⟨Y.toArray⟩) = e1 := by rw [toList_bytes, toList_bytes]; exact hq
          rw [e11, e13, e15]
          rw [if_pos (by rfl)]
          have HQ := Lib.hid (And.intro P (And.intro QC (And.intro QO (And.intro QX QY))))
          clear P QC QO QX QY
          go_simp
          obtain ⟨P, QC, QO, QX, QY⟩ := HQ.out
          exact hKK (upd (upd (upd (upd gv 81 (.bool true)) 83 (.string ⟨X.toArray⟩)) 85 (.string ⟨Y.toArray⟩)) 86 (.bool e1)) _ (by rw [upd_same e11]; rw [upd_same e13]; rw [upd_same e15]; exact ⟨hBx, vals_step (n := 16) (v := .bool e1) hD (by decide) (by omega) P (fun _ => rfl), QC, QO, QX, QY⟩)
        | 17, _ =>
          cases hio
          have h11 : On f 11 := he ⟨11, .guard⟩ (by simp) rfl
          have e11 : gv 81 = .bool true := P 11 (by decide) rfl h11
          have d0 : wm.cell? ⟨b2, 0, none⟩ = some (.int .i64 ki) := QO.at 0 _ rfl
          have d1 : wm.cell? ⟨b2, 1, none⟩ = some (.string t1) := QO.at 1 _ rfl
          have d2 : wm.cell? ⟨b2, 2, none⟩ = some (.string t2) := QO.at 2 _ rfl
          have d3 : wm.cell? ⟨b2, 3, none⟩ = some (.int .i64 nu) := QO.at 3 _ rfl
          rw [e11]
          rw [if_pos (by rfl)]
          have HQ := Lib.hid (And.intro P (And.intro QC (And.intro QO (And.intro QX QY))))
          clear P QC QO QX QY
          go_simp
          obtain ⟨P, QC, QO, QX, QY⟩ := HQ.out
          exact hKK (upd (upd gv 81 (.bool true)) 87 (.agg #[.int .i64 ki, .string t1, .string t2, .int .i64 nu])) _ (by rw [upd_same e11]; exact ⟨hBx, vals_step (n := 17) (v := .agg #[.int .i64 ki, .string t1, .string t2, .int .i64 nu]) hD (by decide) (by omega) P (fun _ => rfl), QC, QO, QX, QY⟩)
        | 18, _ =>
          cases hio
          have h11 : On f 11 := he ⟨11, .guard⟩ (by simp) rfl
          have e11 : gv 81 = .bool true := P 11 (by decide) rfl h11
          rw [e11]
          rw [if_pos (by rfl)]
          have HQ := Lib.hid (And.intro P (And.intro QC (And.intro QO (And.intro QX QY))))
          clear P QC QO QX QY
          go_simp
          obtain ⟨P, QC, QO, QX, QY⟩ := HQ.out
          exact hKK (upd (upd gv 81 (.bool true)) 88 (.pointer (some ⟨b1, 4, none⟩))) _ (by rw [upd_same e11]; exact ⟨hBx, vals_step (n := 18) (v := .pointer (some ⟨b1, 4, none⟩)) hD (by decide) (by omega) P (fun _ => rfl), QC, QO, QX, QY⟩)
        | 19, _ =>
          cases hio
          have h11 : On f 11 := he ⟨11, .guard⟩ (by simp) rfl
          have e11 : gv 81 = .bool true := P 11 (by decide) rfl h11
          have h18 : On f 18 := he ⟨18, .data⟩ (by simp) rfl
          have e18 : gv 88 = .pointer (some ⟨b1, 4, none⟩) := P 18 (by decide) rfl h18
          have d4 : wm.cell? ⟨b1, 4, none⟩ = some (.int .i64 kind) := QC.at 4 _ rfl
          have d5 : wm.cell? ⟨b1, 5, none⟩ = some (.string s1) := QC.at 5 _ rfl
          have d6 : wm.cell? ⟨b1, 6, none⟩ = some (.string s2) := QC.at 6 _ rfl
          have d7 : wm.cell? ⟨b1, 7, none⟩ = some (.int .i64 num) := QC.at 7 _ rfl
          rw [e11, e18]
          rw [if_pos (by rfl)]
          have HQ := Lib.hid (And.intro P (And.intro QC (And.intro QO (And.intro QX QY))))
          clear P QC QO QX QY
          go_simp
          obtain ⟨P, QC, QO, QX, QY⟩ := HQ.out
          exact hKK (upd (upd (upd gv 81 (.bool true)) 88 (.pointer (some ⟨b1, 4, none⟩))) 89 (.agg #[.int .i64 kind, .string s1, .string s2, .int .i64 num])) _ (by rw [upd_same e11]; rw [upd_same e18]; exact ⟨hBx, vals_step (n := 19) (v := .agg #[.int .i64 kind, .string s1, .string s2, .int .i64 num]) hD (by decide) (by omega) P (fun _ => rfl), QC, QO, QX, QY⟩)
        | 20, _ =>
          cases hio
          have h11 : On f 11 := he ⟨11, .guard⟩ (by simp) rfl
          have e11 : gv 81 = .bool true := P 11 (by decide) rfl h11
          have h17 : On f 17 := he ⟨17, .data⟩ (by simp) rfl
          have e17 : gv 87 = .agg #[.int .i64 ki, .string t1, .string t2, .int .i64 nu] := P 17 (by decide) rfl h17
          have h19 : On f 19 := he ⟨19, .data⟩ (by simp) rfl
          have e19 : gv 89 = .agg #[.int .i64 kind, .string s1, .string s2, .int .i64 num] := P 19 (by decide) rfl h19
          rw [e11, e17, e19]
          rw [if_pos (by rfl)]
          have HQ := Lib.hid (And.intro P (And.intro QC (And.intro QO (And.intro QX QY))))
          clear P QC QO QX QY
          go_simp
          rw [HEI.out wm]
          obtain ⟨P, QC, QO, QX, QY⟩ := HQ.out
          exact hKK (upd (upd (upd (upd gv 81 (.bool true)) 87 (.agg #[.int .i64 ki, .string t1, .string t2, .int .i64 nu])) 89 (.agg #[.int .i64 kind, .string s1, .string s2, .int .i64 num])) 90 (.bool e1)) _ (by rw [upd_same e11]; rw [upd_same e17]; rw [upd_same e19]; exact ⟨hBx, vals_step (n := 20) (v := .bool e1) hD (by decide) (by omega) P (fun _ => rfl), QC, QO, QX, QY⟩)
        | 21, _ =>
          cases hio
          have h11 : On f 11 := he ⟨11, .guard⟩ (by simp) rfl
          have e11 : gv 81 = .bool true := P 11 (by decide) rfl h11
          have h16 : On f 16 := he ⟨16, .data⟩ (by simp) rfl
          have e16 : gv 86 = .bool e1 := P 16 (by decide) rfl h16
          have h20 : On f 20 := he ⟨20, .data⟩ (by simp) rfl
          have e20 : gv 90 = .bool e1 := P 20 (by decide) rfl h20
          rw [e11, e16, e20]
          rw [if_pos (by rfl)]
          have HQ := Lib.hid (And.intro P (And.intro QC (And.intro QO (And.intro QX QY))))
          clear P QC QO QX QY
          go_simp
          obtain ⟨P, QC, QO, QX, QY⟩ := HQ.out
          exact hKK (upd (upd (upd (upd gv 81 (.bool true)) 86 (.bool e1)) 90 (.bool e1)) 91 (.bool false)) _ (by rw [upd_same e11]; rw [upd_same e16]; rw [upd_same e20]; exact ⟨hBx, vals_step (n := 21) (v := .bool false) hD (by decide) (by omega) P (fun _ => rfl), QC, QO, QX, QY⟩)
        | 22, _ =>
          cases hio
          have h8 : On f 8 := he ⟨8, .guard⟩ (by simp) rfl
          have e8 : gv 78 = .bool false := P 8 (by decide) rfl h8
          have h11 : On f 11 := he ⟨11, .data⟩ (by simp) rfl
          have e11 : gv 81 = .bool true := P 11 (by decide) rfl h11
          have h21 : On f 21 := he ⟨21, .data⟩ (by simp) rfl
          have e21 : gv 91 = .bool false := P 21 (by decide) rfl h21
          rw [e8, e11, e21]
          rw [if_pos (by rfl)]
          have HQ := Lib.hid (And.intro P (And.intro QC (And.intro QO (And.intro QX QY))))
          clear P QC QO QX QY
          go_simp
          obtain ⟨P, QC, QO, QX, QY⟩ := HQ.out
          exact hKK (upd (upd (upd (upd gv 78 (.bool false)) 81 (.bool true)) 91 (.bool false)) 92 (.bool false)) _ (by rw [upd_same e8]; rw [upd_same e11]; rw [upd_same e21]; exact ⟨hBx, vals_step (n := 22) (v := .bool false) hD (by decide) (by omega) P (fun _ => rfl), QC, QO, QX, QY⟩)
        | 23, _ =>
          cases hio
          have h8 : On f 8 := he ⟨8, .data⟩ (by simp) rfl
          have e8 : gv 78 = .bool false := P 8 (by decide) rfl h8
          have h22 : On f 22 := he ⟨22, .data⟩ (by simp) rfl
          have e22 : gv 92 = .bool false := P 22 (by decide) rfl h22
          rw [e8, e22]
          have HQ := Lib.hid (And.intro P (And.intro QC (And.intro QO (And.intro QX QY))))
          clear P QC QO QX QY
          go_simp
          obtain ⟨P, QC, QO, QX, QY⟩ := HQ.out
          exact hKK (upd (upd (upd gv 78 (.bool false)) 92 (.bool false)) 93 (.bool false)) _ (by rw [upd_same e8]; rw [upd_same e22]; exact ⟨hBx, vals_step (n := 23) (v := .bool false) hD (by decide) (by omega) P (fun _ => rfl), QC, QO, QX, QY⟩)
        | 24, _ =>
          cases hio
          have h23 : On f 23 := he ⟨23, .data⟩ (by simp) rfl
          have e23 : gv 93 = .bool false := P 23 (by decide) rfl h23
          rw [e23]
          have HQ := Lib.hid (And.intro P (And.intro QC (And.intro QO (And.intro QX QY))))
          clear P QC QO QX QY
          go_simp
          obtain ⟨P, QC, QO, QX, QY⟩ := HQ.out
          exact hKK (upd (upd gv 93 (.bool false)) 94 (.bool false)) _ (by rw [upd_same e23]; exact ⟨hBx, vals_step (n := 24) (v := .bool false) hD (by decide) (by omega) P (fun _ => rfl), QC, QO, QX, QY⟩)
        | 25, _ =>
          cases hio
          have h24 : On f 24 := he ⟨24, .guard⟩ (by simp) rfl
          have e24 : gv 94 = .bool false := P 24 (by decide) rfl h24
          rw [e24]
          rw [if_pos (by rfl)]
          have HQ := Lib.hid (And.intro P (And.intro QC (And.intro QO (And.intro QX QY))))
          clear P QC QO QX QY
          go_simp
          obtain ⟨P, QC, QO, QX, QY⟩ := HQ.out
          exact hKK (upd (upd gv 94 (.bool false)) 95 (.int .i64 1)) _ (by rw [upd_same e24]; exact ⟨hBx, vals_step (n := 25) (v := .int .i64 1) hD (by decide) (by omega) P (fun _ => rfl), QC, QO, QX, QY⟩)
        | 26, _ =>
          cases hio
          have h24 : On f 24 := he ⟨24, .guard⟩ (by simp) rfl
          have e24 : gv 94 = .bool false := P 24 (by decide) rfl h24
          have h25 : On f 25 := he ⟨25, .data⟩ (by simp) rfl
          have e25 : gv 95 = .int .i64 1 := P 25 (by decide) rfl h25
          rw [e24, e25]
          rw [if_pos (by rfl)]
          have HQ := Lib.hid (And.intro P (And.intro QC (And.intro QO (And.intro QX QY))))
          clear P QC QO QX QY
          go_simp
          obtain ⟨P, QC, QO, QX, QY⟩ := HQ.out
          exact hKK (upd (upd (upd gv 94 (.bool false)) 95 (.int .i64 1)) 96 (.bool false)) _ (by rw [upd_same e24]; rw [upd_same e25]; exact ⟨hBx, vals_step (n := 26) (v := .bool false) hD (by decide) (by omega) P (fun _ => rfl), QC, QO, QX, QY⟩)
        | 27, _ =>
          cases hio
          have h24 : On f 24 := he ⟨24, .guard⟩ (by simp) rfl
          have e24 : gv 94 = .bool false := P 24 (by decide) rfl h24
          have h26 : On f 26 := he ⟨26, .data⟩ (by simp) rfl
          have e26 : gv 96 = .bool false := P 26 (by decide) rfl h26
          rw [e24, e26]
          rw [if_pos (by rfl)]
          have HQ := Lib.hid (And.intro P (And.intro QC (And.intro QO (And.intro QX QY))))
          clear P QC QO QX QY
          go_simp
          obtain ⟨P, QC, QO, QX, QY⟩ := HQ.out
          exact hKK (upd (upd (upd gv 94 (.bool false)) 96 (.bool false)) 97 (.bool false)) _ (by rw [upd_same e24]; rw [upd_same e26]; exact ⟨hBx, vals_step (n := 27) (v := .bool false) hD (by decide) (by omega) P (fun _ => rfl), QC, QO, QX, QY⟩)
        | 28, _ =>
          cases hio
          have h27 : On f 27 := he ⟨27, .guard⟩ (by simp) rfl
          have e27 : gv 97 = .bool false := P 27 (by decide) rfl h27
          rw [e27]
          have HQ := Lib.hid (And.intro P (And.intro QC (And.intro QO (And.intro QX QY))))
          clear P QC QO QX QY
          refine skip_if (fun h => nomatch (show false = true from h)) ?_
          simp only [Act.put, List.setIfInBounds_toArray]
          obtain ⟨P, QC, QO, QX, QY⟩ := HQ.out
          exact hKK (upd (upd gv 97 (.bool false)) 98 (undef)) _ (by rw [upd_same e27]; exact ⟨hBx, vals_step (n := 28) (v := undef) hD (by decide) (by omega) P (fun _ => rfl), QC, QO, QX, QY⟩)
        | 29, _ =>
          cases hio
          have h27 : On f 27 := he ⟨27, .guard⟩ (by simp) rfl
          have e27 : gv 97 = .bool false := P 27 (by decide) rfl h27
          rw [e27]
          have HQ := Lib.hid (And.intro P (And.intro QC (And.intro QO (And.intro QX QY))))
          clear P QC QO QX QY
          refine skip_if (fun h => nomatch (show false = true from h)) ?_
          simp only [Act.put, List.setIfInBounds_toArray]
          obtain ⟨P, QC, QO, QX, QY⟩ := HQ.out
          exact hKK (upd (upd gv 97 (.bool false)) 99 (undef)) _ (by rw [upd_same e27]; exact ⟨hBx, vals_step (n := 29) (v := undef) hD (by decide) (by omega) P (fun _ => rfl), QC, QO, QX, QY⟩)
        | 30, _ =>
          cases hio
          have h27 : On f 27 := he ⟨27, .guard⟩ (by simp) rfl
          have e27 : gv 97 = .bool false := P 27 (by decide) rfl h27
          rw [e27]
          have HQ := Lib.hid (And.intro P (And.intro QC (And.intro QO (And.intro QX QY))))
          clear P QC QO QX QY
          refine skip_if (fun h => nomatch (show false = true from h)) ?_
          simp only [Act.put, List.setIfInBounds_toArray]
          obtain ⟨P, QC, QO, QX, QY⟩ := HQ.out
          exact hKK (upd (upd gv 97 (.bool false)) 100 (undef)) _ (by rw [upd_same e27]; exact ⟨hBx, vals_step (n := 30) (v := undef) hD (by decide) (by omega) P (fun _ => rfl), QC, QO, QX, QY⟩)
        | 31, _ =>
          cases hio
          have h27 : On f 27 := he ⟨27, .guard⟩ (by simp) rfl
          have e27 : gv 97 = .bool false := P 27 (by decide) rfl h27
          rw [e27]
          have HQ := Lib.hid (And.intro P (And.intro QC (And.intro QO (And.intro QX QY))))
          clear P QC QO QX QY
          refine skip_if (fun h => nomatch (show false = true from h)) ?_
          simp only [Act.put, List.setIfInBounds_toArray]
          obtain ⟨P, QC, QO, QX, QY⟩ := HQ.out
          exact hKK (upd (upd gv 97 (.bool false)) 101 (undef)) _ (by rw [upd_same e27]; exact ⟨hBx, vals_step (n := 31) (v := undef) hD (by decide) (by omega) P (fun _ => rfl), QC, QO, QX, QY⟩)
        | 32, _ =>
          cases hio
          have h27 : On f 27 := he ⟨27, .guard⟩ (by simp) rfl
          have e27 : gv 97 = .bool false := P 27 (by decide) rfl h27
          rw [e27]
          have HQ := Lib.hid (And.intro P (And.intro QC (And.intro QO (And.intro QX QY))))
          clear P QC QO QX QY
          refine skip_if (fun h => nomatch (show false = true from h)) ?_
          simp only [Act.put, List.setIfInBounds_toArray]
          obtain ⟨P, QC, QO, QX, QY⟩ := HQ.out
          exact hKK (upd (upd gv 97 (.bool false)) 102 (undef)) _ (by rw [upd_same e27]; exact ⟨hBx, vals_step (n := 32) (v := undef) hD (by decide) (by omega) P (fun _ => rfl), QC, QO, QX, QY⟩)
        | 33, _ =>
          cases hio
          have h27 : On f 27 := he ⟨27, .guard⟩ (by simp) rfl
          have e27 : gv 97 = .bool false := P 27 (by decide) rfl h27
          rw [e27]
          have HQ := Lib.hid (And.intro P (And.intro QC (And.intro QO (And.intro QX QY))))
          clear P QC QO QX QY
          refine skip_if (fun h => nomatch (show false = true from h)) ?_
          simp only [Act.put, List.setIfInBounds_toArray]
          obtain ⟨P, QC, QO, QX, QY⟩ := HQ.out
          exact hKK (upd (upd gv 97 (.bool false)) 103 (undef)) _ (by rw [upd_same e27]; exact ⟨hBx, vals_step (n := 33) (v := undef) hD (by decide) (by omega) P (fun _ => rfl), QC, QO, QX, QY⟩)
        | 34, _ =>
          cases hio
          have h27 : On f 27 := he ⟨27, .guard⟩ (by simp) rfl
          have e27 : gv 97 = .bool false := P 27 (by decide) rfl h27
          rw [e27]
          have HQ := Lib.hid (And.intro P (And.intro QC (And.intro QO (And.intro QX QY))))
          clear P QC QO QX QY
          refine skip_if (fun h => nomatch (show false = true from h)) ?_
          simp only [Act.put, List.setIfInBounds_toArray]
          obtain ⟨P, QC, QO, QX, QY⟩ := HQ.out
          exact hKK (upd (upd gv 97 (.bool false)) 104 (undef)) _ (by rw [upd_same e27]; exact ⟨hBx, vals_step (n := 34) (v := undef) hD (by decide) (by omega) P (fun _ => rfl), QC, QO, QX, QY⟩)
        | 35, _ =>
          cases hio
          have h27 : On f 27 := he ⟨27, .guard⟩ (by simp) rfl
          have e27 : gv 97 = .bool false := P 27 (by decide) rfl h27
          rw [e27]
          have HQ := Lib.hid (And.intro P (And.intro QC (And.intro QO (And.intro QX QY))))
          clear P QC QO QX QY
          refine skip_if (fun h => nomatch (show false = true from h)) ?_
          simp only [Act.put, List.setIfInBounds_toArray]
          obtain ⟨P, QC, QO, QX, QY⟩ := HQ.out
          exact hKK (upd (upd gv 97 (.bool false)) 105 (undef)) _ (by rw [upd_same e27]; exact ⟨hBx, vals_step (n := 35) (v := undef) hD (by decide) (by omega) P (fun _ => rfl), QC, QO, QX, QY⟩)
        | 36, _ =>
          cases hio
          have h27 : On f 27 := he ⟨27, .guard⟩ (by simp) rfl
          have e27 : gv 97 = .bool false := P 27 (by decide) rfl h27
          rw [e27]
          have HQ := Lib.hid (And.intro P (And.intro QC (And.intro QO (And.intro QX QY))))
          clear P QC QO QX QY
          refine skip_if (fun h => nomatch (show false = true from h)) ?_
          simp only [Act.put, List.setIfInBounds_toArray]
          obtain ⟨P, QC, QO, QX, QY⟩ := HQ.out
          exact hKK (upd (upd gv 97 (.bool false)) 106 (undef)) _ (by rw [upd_same e27]; exact ⟨hBx, vals_step (n := 36) (v := undef) hD (by decide) (by omega) P (fun _ => rfl), QC, QO, QX, QY⟩)
        | 37, _ =>
          cases hio
          have h27 : On f 27 := he ⟨27, .guard⟩ (by simp) rfl
          have e27 : gv 97 = .bool false := P 27 (by decide) rfl h27
          rw [e27]
          have HQ := Lib.hid (And.intro P (And.intro QC (And.intro QO (And.intro QX QY))))
          clear P QC QO QX QY
          refine skip_if (fun h => nomatch (show false = true from h)) ?_
          simp only [Act.put, List.setIfInBounds_toArray]
          obtain ⟨P, QC, QO, QX, QY⟩ := HQ.out
          exact hKK (upd (upd gv 97 (.bool false)) 107 (undef)) _ (by rw [upd_same e27]; exact ⟨hBx, vals_step (n := 37) (v := undef) hD (by decide) (by omega) P (fun _ => rfl), QC, QO, QX, QY⟩)
        | 38, _ =>
          cases hio
          have h27 : On f 27 := he ⟨27, .guard⟩ (by simp) rfl
          have e27 : gv 97 = .bool false := P 27 (by decide) rfl h27
          rw [e27]
          have HQ := Lib.hid (And.intro P (And.intro QC (And.intro QO (And.intro QX QY))))
          clear P QC QO QX QY
          refine skip_if (fun h => nomatch (show false = true from h)) ?_
          simp only [Act.put, List.setIfInBounds_toArray]
          obtain ⟨P, QC, QO, QX, QY⟩ := HQ.out
          exact hKK (upd (upd gv 97 (.bool false)) 108 (undef)) _ (by rw [upd_same e27]; exact ⟨hBx, vals_step (n := 38) (v := undef) hD (by decide) (by omega) P (fun _ => rfl), QC, QO, QX, QY⟩)
        | 39, _ =>
          cases hio
          have h24 : On f 24 := he ⟨24, .guard⟩ (by simp) rfl
          have e24 : gv 94 = .bool false := P 24 (by decide) rfl h24
          have h27 : On f 27 := he ⟨27, .data⟩ (by simp) rfl
          have e27 : gv 97 = .bool false := P 27 (by decide) rfl h27
          have h38 : On f 38 := he ⟨38, .data⟩ (by simp) rfl
          have e38 : gv 108 = undef := P 38 (by decide) rfl h38
          rw [e24, e27, e38]
          rw [if_pos (by rfl)]
          have HQ := Lib.hid (And.intro P (And.intro QC (And.intro QO (And.intro QX QY))))
          clear P QC QO QX QY
          go_simp
          obtain ⟨P, QC, QO, QX, QY⟩ := HQ.out
          exact hKK (upd (upd (upd (upd gv 94 (.bool false)) 97 (.bool false)) 108 (undef)) 109 (.bool false)) _ (by rw [upd_same e24]; rw [upd_same e27]; rw [upd_same e38]; exact ⟨hBx, vals_step (n := 39) (v := .bool false) hD (by decide) (by omega) P (fun _ => rfl), QC, QO, QX, QY⟩)
        | 40, _ =>
          cases hio
          have h24 : On f 24 := he ⟨24, .data⟩ (by simp) rfl
          have e24 : gv 94 = .bool false := P 24 (by decide) rfl h24
          have h39 : On f 39 := he ⟨39, .data⟩ (by simp) rfl
          have e39 : gv 109 = .bool false := P 39 (by decide) rfl h39
          rw [e24, e39]
          have HQ := Lib.hid (And.intro P (And.intro QC (And.intro QO (And.intro QX QY))))
          clear P QC QO QX QY
          go_simp
          obtain ⟨P, QC, QO, QX, QY⟩ := HQ.out
          exact hKK (upd (upd (upd gv 94 (.bool false)) 109 (.bool false)) 110 (.bool false)) _ (by rw [upd_same e24]; rw [upd_same e39]; exact ⟨hBx, vals_step (n := 40) (v := .bool false) hD (by decide) (by omega) P (fun _ => rfl), QC, QO, QX, QY⟩)
      · rintro f gv w5 hall hs' ⟨hBx, P, QC, QO, QX, QY⟩
        replace hs' : f.size = 41 := hs'
        have on : ∀ j, j < 41 → On f j := fun j hj => on_all hall hs' j hj
        have e110 : gv 110 = .bool false := P 40 (by decide) rfl (on 40 (by decide))
        have HC13 := Lib.hid QC
        have HB13 := Lib.hid (HB12.out.step hBx)
        have HID13 := Lib.hid (HID.out _ (HRC.out.below HB13.out))
        clear P QC QO QX QY  hBx hall hs' on hD
        rw [e110]
        clear e110
        have p0 : w5.cell? ⟨b1, 0, none⟩ = some (.int .i64 node) := HC13.out.at 0 _ rfl
        have p1 : w5.cell? ⟨b1, 1, none⟩ = some (.int .i64 seq) := HC13.out.at 1 _ rfl
        have p2 : w5.cell? ⟨b1, 2, none⟩ = some (.int .i64 gen) := HC13.out.at 2 _ rfl
        have p3 : w5.cell? ⟨b1, 3, none⟩ = some (.slice a n cap) := HC13.out.at 3 _ rfl
        have p4 : w5.cell? ⟨b1, 4, none⟩ = some (.int .i64 kind) := HC13.out.at 4 _ rfl
        have p5 : w5.cell? ⟨b1, 5, none⟩ = some (.string s1) := HC13.out.at 5 _ rfl
        have p6 : w5.cell? ⟨b1, 6, none⟩ = some (.string s2) := HC13.out.at 6 _ rfl
        have p7 : w5.cell? ⟨b1, 7, none⟩ = some (.int .i64 num) := HC13.out.at 7 _ rfl
        by_cases hn2 : (n : Int) < 2
        · go_wp2_with fail
          go_ret
          exact ⟨rfl, HB13.out⟩
        go_upto_region 17 with fail
        obtain ⟨b5, hb5⟩ : ∃ b, b = w5.heap.size := ⟨_, rfl⟩
        have hC0 := Cel.new w5 28 [.int .i64 node, .int .i64 seq, .int .i64 gen, .slice a n cap, .int .i64 kind, .string s1, .string s2, .int .i64 num]
        rw [← hb5] at hC0 ⊢
        generalize hw14 : w5.alloc (.cells _ _) = w14
        have HD14 := Lib.hid (show Cel w14 b5 28 [.int .i64 node, .int .i64 seq, .int .i64 gen, .slice a n cap, .int .i64 kind, .string s1, .string s2, .int .i64 num] by rw [← hw14]; exact hC0)
        have hb514 : Below w5.heap.size w5 w14 := by rw [← hw14]; exact (Below.refl _ _).alloc (Nat.le_refl _) _
        have HC14 := Lib.hid (HC13.out.step hb514)
        have HB14 := Lib.hid (HB13.out.step hb514)
        have hs0 := HC13.out.lt
        have hs1 := HB13.out.size
        have hs2 := HD14.out.lt
        have hidx := HID.out _ (HRC.out.below HB14.out)
        obtain ⟨ba, oa, rfl⟩ : ∃ b off, a = some ⟨b, off, none⟩ := by
          rcases hidx.cells with h0 | ⟨b', off', e, _⟩
          · omega
          · exact ⟨b', off', e⟩
        have hba : ba < w14.heap.size := by
          rcases hidx.cells with h0 | ⟨b', off', e, hc⟩
          · omega
          · cases e
            have hx := hc 0 (by omega) 0 _ (List.getElem?_eq_getElem (by rw [Bs_length, hidx.at32 0 (by omega)]; decide))
            have := World.block_lt_of_cell? w14 _ hx
            simpa using this
        obtain ⟨g, capg, rest, w15, hrun, hcg, hnc, hcm, hg, hb⟩ := app_ids hidx (by omega) hn8
        obtain ⟨x, y, r, hp⟩ : ∃ x y r, c.par = x :: y :: r := by
          have := HN.out
          match hcp : c.par with
          | [] => rw [hcp] at this; simp at this; omega
          | [_] => rw [hcp] at this; simp at this; omega
          | x :: y :: r => exact ⟨x, y, r, rfl⟩
        have hx32 := hidx.is32
        rw [hp] at hcg hx32
        have HXY := Lib.hid (show x.length = 32 ∧ y.length = 32 ∧ all32 r from ⟨hx32 x (by simp), hx32 y (by simp), fun z hz => hx32 z (by simp [hz])⟩)
        have HRUN := Lib.hid hrun
        have HP := Lib.hid hp
        have HCP := Lib.hid (And.intro hnc hcm)
        obtain ⟨R, hR⟩ : ∃ R, R = Bs r.flatten ++ rest := ⟨_, rfl⟩
        have HR := Lib.hid hR
        have HG15 := Lib.hid (show Cel w15 g 36 ([] ++ (Bs x ++ (Bs y ++ R))) by rw [hR]; simpa [Bs, List.map_append, List.append_assoc] using hcg)
        have HD15 := Lib.hid (HD14.out.step hb)
        have HC15 := Lib.hid (HC14.out.step hb)
        have HB15 := Lib.hid (HB14.out.step hb)
        have HS15 := Lib.hid (show b1 < b5 ∧ b5 < g ∧ ba < g ∧ w.heap.size ≤ g ∧ w.heap.size ≤ b5 from ⟨by omega, by omega, by omega, by omega, by omega⟩)
        have p3 : w14.cell? ⟨b1, 3, none⟩ = some (.slice (some ⟨ba, oa, none⟩) n cap) := HC14.out.at 3 _ rfl
        have r3 : w15.cell? ⟨b5, 3, none⟩ = some (.slice (some ⟨ba, oa, none⟩) n cap) := HD15.out.at 3 _ rfl
        have f3 : w15.frozen? ⟨b5, 3, none⟩ = false := HD15.out.free 3
        clear hC0 hw14 hb514 hb5 hs0 hs1 hs2 hidx hba hrun hcg hnc hcm hg hp hx32 hb hR p0 p1 p2 p4 p5 p6 p7
        go_upto_region 18 with (at_builtin; refine Lib.wpList_append_run _ rfl _ _ _ _ rfl _ _ rfl rfl _ _ HRUN.out ?_)
        generalize hw16 : World.setCell w15 _ _ = w16
        have ho16 : Only w15 w16 b5 := by rw [← hw16]; exact only_set _ _ _ _
        have HD16 := Lib.hid (show Cel w16 b5 28 [.int .i64 node, .int .i64 seq, .int .i64 gen, .slice (some ⟨g, 0, none⟩) n capg, .int .i64 kind, .string s1, .string s2, .int .i64 num] by rw [← hw16]; exact HD15.out.set 3 _)
        have hs := HS15.out
        have HC16 := Lib.hid (show Cel w16 b1 28 [.int .i64 node, .int .i64 seq, .int .i64 gen, .slice (some ⟨ba, oa, none⟩) n cap, .int .i64 kind, .string s1, .string s2, .int .i64 num] from ho16.heap HC15.out (by omega))
        have HG16 := Lib.hid (show Cel w16 g 36 ([] ++ (Bs x ++ (Bs y ++ R))) from ho16.heap HG15.out (by omega))
        have HB16 := Lib.hid (ho16.below HB15.out (by omega))
        have HI16 := Lib.hid (HID.out _ (HRC.out.below HB16.out))
        have hi1 : (1 : Int) < (n : Int) := by omega
        have hi0 : (0 : Int) < (n : Int) := by omega
        have hi1' : 1 < n := by omega
        have hi0' : 0 < n := by omega
        clear hw16 ho16 hs p3 r3 f3
        have hD : ∀ j, j < 8 → ∀ n, n < 8 → j ≠ n → dkN [120, 121, 122, 123, 124, 125, 126, 1007] j ≠ dkN [120, 121, 122, 123, 124, 125, 126, 1007] n := by decide +kernel
        refine region_fun (by kernel_rfl) (by kernel_rfl) (fun gv => #[gv 0, gv 1, gv 2, .pointer (some ⟨b1, 0, none⟩), gv 4, gv 5, gv 6, gv 7, gv 8, gv 9, gv 10, gv 11, gv 12, gv 13, gv 14, gv 15, gv 16, .pointer (some ⟨b5, 0, none⟩), gv 18, gv 19, gv 20, gv 21, gv 22, gv 23, gv 24, gv 25, gv 26, gv 27, gv 28, gv 29, gv 30, gv 31, gv 32, gv 33, gv 34, gv 35, gv 36, gv 37, gv 38, gv 39, gv 40, gv 41, gv 42, gv 43, gv 44, gv 45, gv 46, gv 47, gv 48, gv 49, gv 50, gv 51, gv 52, gv 53, gv 54, gv 55, gv 56, gv 57, gv 58, gv 59, gv 60, gv 61, gv 62, gv 63, gv 64, gv 65, gv 66, gv 67, gv 68, gv 69, gv 70, gv 71, gv 72, gv 73, gv 74, gv 75, gv 76, gv 77, gv 78, gv 79, gv 80, gv 81, gv 82, gv 83, gv 84, gv 85, gv 86, gv 87, gv 88, gv 89, gv 90, gv 91, gv 92, gv 93, gv 94, gv 95, gv 96, gv 97, gv 98, gv 99, gv 100, gv 101, gv 102, gv 103, gv 104, gv 105, gv 106, gv 107, gv 108, gv 109, gv 110, gv 111, gv 112, gv 113, gv 114, gv 115, gv 116, gv 117, gv 118, gv 119, gv 120, gv 121, gv 122, gv 123, gv 124, gv 125, gv 126, gv 127, gv 128, gv 129, gv 130, gv 131, gv 132, gv 133, gv 134, gv 135, gv 136]) rfl (fun f gv wx => Below w.heap.size w wx ∧ (∀ j, j < 8 → (fun j => Nat.beq j 7) j = false → On f j → gv (dkN [120, 121, 122, 123, 124, 125, 126, 1007] j) = vkN [.pointer (some ⟨b5, 3, none⟩), .slice (some ⟨g, 0, none⟩) n capg, .pointer (some ⟨b1, 3, none⟩), .slice (some ⟨ba, oa, none⟩) n cap, .pointer (some ⟨ba, oa + 32, none⟩), .agg (Bs y).toArray, .pointer (some ⟨g, 0, none⟩), undef] j) ∧ (Cel wx b1 28 [.int .i64 node, .int .i64 seq, .int .i64 gen, .slice (some ⟨ba, oa, none⟩) n cap, .int .i64 kind, .string s1, .string s2, .int .i64 num]) ∧ (Cel wx b5 28 [.int .i64 node, .int .i64 seq, .int .i64 gen, .slice (some ⟨g, 0, none⟩) n capg, .int .i64 kind, .string s1, .string s2, .int .i64 num]) ∧ ((¬ On f 7 → Cel wx g 36 ([] ++ (Bs x ++ (Bs y ++ R)))) ∧ (On f 7 → Cel wx g 36 ([] ++ (Bs y ++ (Bs y ++ R))))) ∧ (Ids wx (some ⟨ba, oa, none⟩) n cap c.par)) ?_ ?_ ?_
        · have hoff : ∀ j, ¬ On (Array.replicate 8 false) j := by
            intro j hj; simp only [On, Array.getD_eq_getD_getElem?, Array.getElem?_replicate] at hj; split at hj <;> simp at hj
          exact ⟨HB16.out.drew, fun j _ _ x => absurd x (hoff _), HC16.out.step (below_drewNw _ _), HD16.out.step (below_drewNw _ _), ⟨fun _ => HG16.out.step (below_drewNw _ _), fun x => absurd x (hoff _)⟩, HI16.out.below (below_drewNw _ _)⟩
        · rintro i' o' f gv wm hio hs' hn he ⟨hBx, P, QC, QD, QG, QI⟩ KK hKK
          have hi' : i' < 8 := (Array.getElem?_eq_some_iff.1 hio).1
          replace hs' : f.size = 8 := hs'
          match i', hi' with
          | 0, _ =>
            cases hio
            have HQ := Lib.hid (And.intro P (And.intro QC (And.intro QD (And.intro QG QI))))
            clear P QC QD QG QI
            go_simp
            obtain ⟨P, QC, QD, QG, QI⟩ := HQ.out
            have bk : ∀ j, j ≠ 0 → On (f.setIfInBounds 0 true) j → On f j := fun j hj x => on_back (by omega) x hj
            have fw : ∀ j, On f j → On (f.setIfInBounds 0 true) j := fun j x => (on_put (by omega)).2 (.inr x)
            exact hKK (upd gv 120 (.pointer (some ⟨b5, 3, none⟩))) _ (by exact ⟨hBx, vals_step (n := 0) (v := .pointer (some ⟨b5, 3, none⟩)) hD (by decide) (by omega) P (fun _ => rfl), QC, QD, ⟨fun x => QG.1 (fun y => x (fw 7 y)), fun x => QG.2 (bk 7 (by decide) x)⟩, QI⟩)
          | 1, _ =>
            cases hio
            have h0 : On f 0 := he ⟨0, .data⟩ (by simp) rfl
            have e0 : gv 120 = .pointer (some ⟨b5, 3, none⟩) := P 0 (by decide) rfl h0
            have d3 : wm.cell? ⟨b5, 3, none⟩ = some (.slice (some ⟨g, 0, none⟩) n capg) := QD.at 3 _ rfl
            rw [e0]
            have HQ := Lib.hid (And.intro P (And.intro QC (And.intro QD (And.intro QG QI))))
            clear P QC QD QG QI
            go_simp
            obtain ⟨P, QC, QD, QG, QI⟩ := HQ.out
            have bk : ∀ j, j ≠ 1 → On (f.setIfInBounds 1 true) j → On f j := fun j hj x => on_back (by omega) x hj
            have fw : ∀ j, On f j → On (f.setIfInBounds 1 true) j := fun j x => (on_put (by omega)).2 (.inr x)
            exact hKK (upd (upd gv 120 (.pointer (some ⟨b5, 3, none⟩))) 121 (.slice (some ⟨g, 0, none⟩) n capg)) _ (by rw [upd_same e0]; exact ⟨hBx, vals_step (n := 1) (v := .slice (some ⟨g, 0, none⟩) n capg) hD (by decide) (by omega) P (fun _ => rfl), QC, QD, ⟨fun x => QG.1 (fun y => x (fw 7 y)), fun x => QG.2 (bk 7 (by decide) x)⟩, QI⟩)
          | 2, _ =>
            cases hio
            have HQ := Lib.hid (And.intro P (And.intro QC (And.intro QD (And.intro QG QI))))
            clear P QC QD QG QI
            go_simp
            obtain ⟨P, QC, QD, QG, QI⟩ := HQ.out
            have bk : ∀ j, j ≠ 2 → On (f.setIfInBounds 2 true) j → On f j := fun j hj x => on_back (by omega) x hj
            have fw : ∀ j, On f j → On (f.setIfInBounds 2 true) j := fun j x => (on_put (by omega)).2 (.inr x)
            exact hKK (upd gv 122 (.pointer (some ⟨b1, 3, none⟩))) _ (by exact ⟨hBx, vals_step (n := 2) (v := .pointer (some ⟨b1, 3, none⟩)) hD (by decide) (by omega) P (fun _ => rfl), QC, QD, ⟨fun x => QG.1 (fun y => x (fw 7 y)), fun x => QG.2 (bk 7 (by decide) x)⟩, QI⟩)
          | 3, _ =>
            cases hio
            have h2 : On f 2 := he ⟨2, .data⟩ (by simp) rfl
            have e2 : gv 122 = .pointer (some ⟨b1, 3, none⟩) := P 2 (by decide) rfl h2
            have d3 : wm.cell? ⟨b1, 3, none⟩ = some (.slice (some ⟨ba, oa, none⟩) n cap) := QC.at 3 _ rfl
            rw [e2]
            have HQ := Lib.hid (And.intro P (And.intro QC (And.intro QD (And.intro QG QI))))
            clear P QC QD QG QI
            go_simp
            obtain ⟨P, QC, QD, QG, QI⟩ := HQ.out
            have bk : ∀ j, j ≠ 3 → On (f.setIfInBounds 3 true) j → On f j := fun j hj x => on_back (by omega) x hj
            have fw : ∀ j, On f j → On (f.setIfInBounds 3 true) j := fun j x => (on_put (by omega)).2 (.inr x)
            exact hKK (upd (upd gv 122 (.pointer (some ⟨b1, 3, none⟩))) 123 (.slice (some ⟨ba, oa, none⟩) n cap)) _ (by rw [upd_same e2]; exact ⟨hBx, vals_step (n := 3) (v := .slice (some ⟨ba, oa, none⟩) n cap) hD (by decide) (by omega) P (fun _ => rfl), QC, QD, ⟨fun x => QG.1 (fun y => x (fw 7 y)), fun x => QG.2 (bk 7 (by decide) x)⟩, QI⟩)
          | 4, _ =>
            cases hio
            have h3 : On f 3 := he ⟨3, .data⟩ (by simp) rfl
            have e3 : gv 123 = .slice (some ⟨ba, oa, none⟩) n cap := P 3 (by decide) rfl h3
            rw [e3]
            have HQ := Lib.hid (And.intro P (And.intro QC (And.intro QD (And.intro QG QI))))
            clear P QC QD QG QI
            go_simp
            obtain ⟨P, QC, QD, QG, QI⟩ := HQ.out
            have bk : ∀ j, j ≠ 4 → On (f.setIfInBounds 4 true) j → On f j := fun j hj x => on_back (by omega) x hj
            have fw : ∀ j, On f j → On (f.setIfInBounds 4 true) j := fun j x => (on_put (by omega)).2 (.inr x)
            exact hKK (upd (upd gv 123 (.slice (some ⟨ba, oa, none⟩) n cap)) 124 (.pointer (some ⟨ba, oa + 32, none⟩))) _ (by rw [upd_same e3]; exact ⟨hBx, vals_step (n := 4) (v := .pointer (some ⟨ba, oa + 32, none⟩)) hD (by decide) (by omega) P (fun _ => rfl), QC, QD, ⟨fun x => QG.1 (fun y => x (fw 7 y)), fun x => QG.2 (bk 7 (by decide) x)⟩, QI⟩)
          | 5, _ =>
            cases hio
            have h4 : On f 4 := he ⟨4, .data⟩ (by simp) rfl
            have e4 : gv 124 = .pointer (some ⟨ba, oa + 32, none⟩) := P 4 (by decide) rfl h4
            have hrg : wm.rangeAt ba (oa + 32) (Bs y) := by
              rcases QI.cells with h0 | ⟨b9, o9, e9, hc⟩
              · omega
              · cases e9
                have h9 := hc 1 (by omega)
                rw [HP.out] at h9
                simpa using h9
            rw [e4]
            have HQ := Lib.hid (And.intro P (And.intro QC (And.intro QD (And.intro QG QI))))
            clear P QC QD QG QI
            refine rng_load (by rfl) 125 rfl 36 (.tmp 124) rfl (by rfl) (Bs y) _ hrg under_ids rfl (info_x HXY.out.2.1) ?_
            simp only [List.setIfInBounds_toArray]
            obtain ⟨P, QC, QD, QG, QI⟩ := HQ.out
            have bk : ∀ j, j ≠ 5 → On (f.setIfInBounds 5 true) j → On f j := fun j hj x => on_back (by omega) x hj
            have fw : ∀ j, On f j → On (f.setIfInBounds 5 true) j := fun j x => (on_put (by omega)).2 (.inr x)
            exact hKK (upd (upd gv 124 (.pointer (some ⟨ba, oa + 32, none⟩))) 125 (.agg (Bs y).toArray)) _ (by rw [upd_same e4]; exact ⟨hBx, vals_step (n := 5) (v := .agg (Bs y).toArray) hD (by decide) (by omega) P (fun _ => rfl), QC, QD, ⟨fun x => QG.1 (fun y => x (fw 7 y)), fun x => QG.2 (bk 7 (by decide) x)⟩, QI⟩)
          | 6, _ =>
            cases hio
            have h1 : On f 1 := he ⟨1, .data⟩ (by simp) rfl
            have e1 : gv 121 = .slice (some ⟨g, 0, none⟩) n capg := P 1 (by decide) rfl h1
            rw [e1]
            have HQ := Lib.hid (And.intro P (And.intro QC (And.intro QD (And.intro QG QI))))
            clear P QC QD QG QI
            go_simp
            obtain ⟨P, QC, QD, QG, QI⟩ := HQ.out
            have bk : ∀ j, j ≠ 6 → On (f.setIfInBounds 6 true) j → On f j := fun j hj x => on_back (by omega) x hj
            have fw : ∀ j, On f j → On (f.setIfInBounds 6 true) j := fun j x => (on_put (by omega)).2 (.inr x)
            exact hKK (upd (upd gv 121 (.slice (some ⟨g, 0, none⟩) n capg)) 126 (.pointer (some ⟨g, 0, none⟩))) _ (by rw [upd_same e1]; exact ⟨hBx, vals_step (n := 6) (v := .pointer (some ⟨g, 0, none⟩)) hD (by decide) (by omega) P (fun _ => rfl), QC, QD, ⟨fun x => QG.1 (fun y => x (fw 7 y)), fun x => QG.2 (bk 7 (by decide) x)⟩, QI⟩)
          | 7, _ =>
            cases hio
            have off : ¬ On f 7 := on_off (by omega) hn
            have h5 : On f 5 := he ⟨5, .data⟩ (by simp) rfl
            have e5 : gv 125 = .agg (Bs y).toArray := P 5 (by decide) rfl h5
            have h6 : On f 6 := he ⟨6, .data⟩ (by simp) rfl
            have e6 : gv 126 = .pointer (some ⟨g, 0, none⟩) := P 6 (by decide) rfl h6
            have hq := QG.1 off
            rw [e5, e6]
            have HQ := Lib.hid (And.intro P (And.intro QC (And.intro QD (And.intro QG QI))))
            clear P QC QD QG QI
            refine mid_store (by rfl) rfl 36 (.tmp 126) (.tmp 125) rfl (by rfl) (Bs y) (by rfl) hq rfl ?_ ?_ (Bs_one _) ?_
            · rw [Bs_length, Bs_length, HXY.out.1, HXY.out.2.1]
            · exact info_x HXY.out.2.1
            intro w6 hc6 ho6
            have hxx := HS15.out
            obtain ⟨P, QC, QD, QG, QI⟩ := HQ.out
            have fn : On (f.setIfInBounds 7 true) 7 := (on_put (by omega)).2 (.inl rfl)
            exact hKK (upd (upd gv 125 (.agg (Bs y).toArray)) 126 (.pointer (some ⟨g, 0, none⟩))) _ (by rw [upd_same e5]; rw [upd_same e6]; exact ⟨ho6.below hBx (by omega), vals_keep (n := 7) (by omega) rfl P, ho6.heap QC (by omega), ho6.heap QD (by omega), ⟨fun x => absurd fn x, fun _ => hc6⟩, QI.only ho6 (fun z hz => by injection hz with hz; rw [← hz]; show ba ≠ g; omega)⟩)
        · rintro f gv w5 hall hs' ⟨hBx, P, QC, QD, QG, QI⟩
          replace hs' : f.size = 8 := hs'
          have on : ∀ j, j < 8 → On f j := fun j hj => on_all hall hs' j hj
          have HG18 := Lib.hid (QG.2 (on 7 (by decide)))
          have HC18 := Lib.hid QC
          have HD18 := Lib.hid QD
          have HI18 := Lib.hid QI
          have HB18 := Lib.hid hBx
          clear P QC QD QG QI hBx hall hs' on hD
          go_upto_region 19 with fail
          have hD : ∀ j, j < 8 → ∀ n, n < 8 → j ≠ n → dkN [127, 128, 129, 130, 131, 132, 133, 1007] j ≠ dkN [127, 128, 129, 130, 131, 132, 133, 1007] n := by decide +kernel
          refine region_fun (by kernel_rfl) (by kernel_rfl) (fun gv => #[gv 0, gv 1, gv 2, .pointer (some ⟨b1, 0, none⟩), gv 4, gv 5, gv 6, gv 7, gv 8, gv 9, gv 10, gv 11, gv 12, gv 13, gv 14, gv 15, gv 16, .pointer (some ⟨b5, 0, none⟩), gv 18, gv 19, gv 20, gv 21, gv 22, gv 23, gv 24, gv 25, gv 26, gv 27, gv 28, gv 29, gv 30, gv 31, gv 32, gv 33, gv 34, gv 35, gv 36, gv 37, gv 38, gv 39, gv 40, gv 41, gv 42, gv 43, gv 44, gv 45, gv 46, gv 47, gv 48, gv 49, gv 50, gv 51, gv 52, gv 53, gv 54, gv 55, gv 56, gv 57, gv 58, gv 59, gv 60, gv 61, gv 62, gv 63, gv 64, gv 65, gv 66, gv 67, gv 68, gv 69, gv 70, gv 71, gv 72, gv 73, gv 74, gv 75, gv 76, gv 77, gv 78, gv 79, gv 80, gv 81, gv 82, gv 83, gv 84, gv 85, gv 86, gv 87, gv 88, gv 89, gv 90, gv 91, gv 92, gv 93, gv 94, gv 95, gv 96, gv 97, gv 98, gv 99, gv 100, gv 101, gv 102, gv 103, gv 104, gv 105, gv 106, gv 107, gv 108, gv 109, gv 110, gv 111, gv 112, gv 113, gv 114, gv 115, gv 116, gv 117, gv 118, gv 119, gv 120, gv 121, gv 122, gv 123, gv 124, gv 125, gv 126, gv 127, gv 128, gv 129, gv 130, gv 131, gv 132, gv 133, gv 134, gv 135, gv 136]) rfl (fun f gv wx => Below w.heap.size w wx ∧ (∀ j, j < 8 → (fun j => Nat.beq j 7) j = false → On f j → gv (dkN [127, 128, 129, 130, 131, 132, 133, 1007] j) = vkN [.pointer (some ⟨b5, 3, none⟩), .slice (some ⟨g, 0, none⟩) n capg, .pointer (some ⟨b1, 3, none⟩), .slice (some ⟨ba, oa, none⟩) n cap, .pointer (some ⟨ba, oa, none⟩), .agg (Bs x).toArray, .pointer (some ⟨g, 32, none⟩), undef] j) ∧ (Cel wx b1 28 [.int .i64 node, .int .i64 seq, .int .i64 gen, .slice (some ⟨ba, oa, none⟩) n cap, .int .i64 kind, .string s1, .string s2, .int .i64 num]) ∧ (Cel wx b5 28 [.int .i64 node, .int .i64 seq, .int .i64 gen, .slice (some ⟨g, 0, none⟩) n capg, .int .i64 kind, .string s1, .string s2, .int .i64 num]) ∧ ((¬ On f 7 → Cel wx g 36 (Bs y ++ (Bs y ++ R))) ∧ (On f 7 → Cel wx g 36 (Bs y ++ (Bs x ++ R)))) ∧ (Ids wx (some ⟨ba, oa, none⟩) n cap c.par)) ?_ ?_ ?_
          · have hoff : ∀ j, ¬ On (Array.replicate 8 false) j := by
              intro j hj; simp only [On, Array.getD_eq_getD_getElem?, Array.getElem?_replicate] at hj; split at hj <;> simp at hj
            exact ⟨HB18.out.drew, fun j _ _ x => absurd x (hoff _), HC18.out.step (below_drewNw _ _), HD18.out.step (below_drewNw _ _), ⟨fun _ => HG18.out.step (below_drewNw _ _), fun x => absurd x (hoff _)⟩, HI18.out.below (below_drewNw _ _)⟩
          · rintro i' o' f gv wm hio hs' hn he ⟨hBx, P, QC, QD, QG, QI⟩ KK hKK
            have hi' : i' < 8 := (Array.getElem?_eq_some_iff.1 hio).1
            replace hs' : f.size = 8 := hs'
            match i', hi' with
            | 0, _ =>
              cases hio
              have HQ := Lib.hid (And.intro P (And.intro QC (And.intro QD (And.intro QG QI))))
              clear P QC QD QG QI
              go_simp
              obtain ⟨P, QC, QD, QG, QI⟩ := HQ.out
              have bk : ∀ j, j ≠ 0 → On (f.setIfInBounds 0 true) j → On f j := fun j hj x => on_back (by omega) x hj
              have fw : ∀ j, On f j → On (f.setIfInBounds 0 true) j := fun j x => (on_put (by omega)).2 (.inr x)
              exact hKK (upd gv 127 (.pointer (some ⟨b5, 3, none⟩))) _ (by exact ⟨hBx, vals_step (n := 0) (v := .pointer (some ⟨b5, 3, none⟩)) hD (by decide) (by omega) P (fun _ => rfl), QC, QD, ⟨fun x => QG.1 (fun y => x (fw 7 y)), fun x => QG.2 (bk 7 (by decide) x)⟩, QI⟩)
            | 1, _ =>
              cases hio
              have h0 : On f 0 := he ⟨0, .data⟩ (by simp) rfl
              have e0 : gv 127 = .pointer (some ⟨b5, 3, none⟩) := P 0 (by decide) rfl h0
              have d3 : wm.cell? ⟨b5, 3, none⟩ = some (.slice (some ⟨g, 0, none⟩) n capg) := QD.at 3 _ rfl
              rw [e0]
              have HQ := Lib.hid (And.intro P (And.intro QC (And.intro QD (And.intro QG QI))))
              clear P QC QD QG QI
              go_simp
              obtain ⟨P, QC, QD, QG, QI⟩ := HQ.out
              have bk : ∀ j, j ≠ 1 → On (f.setIfInBounds 1 true) j → On f j := fun j hj x => on_back (by omega) x hj
              have fw : ∀ j, On f j → On (f.setIfInBounds 1 true) j := fun j x => (on_put (by omega)).2 (.inr x)
              exact hKK (upd (upd gv 127 (.pointer (some ⟨b5, 3, none⟩))) 128 (.slice (some ⟨g, 0, none⟩) n capg)) _ (by rw [upd_same e0]; exact ⟨hBx, vals_step (n := 1) (v := .slice (some ⟨g, 0, none⟩) n capg) hD (by decide) (by omega) P (fun _ => rfl), QC, QD, ⟨fun x => QG.1 (fun y => x (fw 7 y)), fun x => QG.2 (bk 7 (by decide) x)⟩, QI⟩)
            | 2, _ =>
              cases hio
              have HQ := Lib.hid (And.intro P (And.intro QC (And.intro QD (And.intro QG QI))))
              clear P QC QD QG QI
              go_simp
              obtain ⟨P, QC, QD, QG, QI⟩ := HQ.out
              have bk : ∀ j, j ≠ 2 → On (f.setIfInBounds 2 true) j → On f j := fun j hj x => on_back (by omega) x hj
              have fw : ∀ j, On f j → On (f.setIfInBounds 2 true) j := fun j x => (on_put (by omega)).2 (.inr x)
              exact hKK (upd gv 129 (.pointer (some ⟨b1, 3, none⟩))) _ (by exact ⟨hBx, vals_step (n := 2) (v := .pointer (some ⟨b1, 3, none⟩)) hD (by decide) (by omega) P (fun _ => rfl), QC, QD, ⟨fun x => QG.1 (fun y => x (fw 7 y)), fun x => QG.2 (bk 7 (by decide) x)⟩, QI⟩)
            | 3, _ =>
              cases hio
              have h2 : On f 2 := he ⟨2, .data⟩ (by simp) rfl
              have e2 : gv 129 = .pointer (some ⟨b1, 3, none⟩) := P 2 (by decide) rfl h2
              have d3 : wm.cell? ⟨b1, 3, none⟩ = some (.slice (some ⟨ba, oa, none⟩) n cap) := QC.at 3 _ rfl
              rw [e2]
              have HQ := Lib.hid (And.intro P (And.intro QC (And.intro QD (And.intro QG QI))))
              clear P QC QD QG QI
              go_simp
              obtain ⟨P, QC, QD, QG, QI⟩ := HQ.out
              have bk : ∀ j, j ≠ 3 → On (f.setIfInBounds 3 true) j → On f j := fun j hj x => on_back (by omega) x hj
              have fw : ∀ j, On f j → On (f.setIfInBounds 3 true) j := fun j x => (on_put (by omega)).2 (.inr x)
              exact hKK (upd (upd gv 129 (.pointer (some ⟨b1, 3, none⟩))) 130 (.slice (some ⟨ba, oa, none⟩) n cap)) _ (by rw [upd_same e2]; exact ⟨hBx, vals_step (n := 3) (v := .slice (some ⟨ba, oa, none⟩) n cap) hD (by decide) (by omega) P (fun _ => rfl), QC, QD, ⟨fun x => QG.1 (fun y => x (fw 7 y)), fun x => QG.2 (bk 7 (by decide) x)⟩, QI⟩)
            | 4, _ =>
              cases hio
              have h3 : On f 3 := he ⟨3, .data⟩ (by simp) rfl
              have e3 : gv 130 = .slice (some ⟨ba, oa, none⟩) n cap := P 3 (by decide) rfl h3
              rw [e3]
              have HQ := Lib.hid (And.intro P (And.intro QC (And.intro QD (And.intro QG QI))))
              clear P QC QD QG QI
              go_simp
              obtain ⟨P, QC, QD, QG, QI⟩ := HQ.out
              have bk : ∀ j, j ≠ 4 → On (f.setIfInBounds 4 true) j → On f j := fun j hj x => on_back (by omega) x hj
              have fw : ∀ j, On f j → On (f.setIfInBounds 4 true) j := fun j x => (on_put (by omega)).2 (.inr x)
              exact hKK (upd (upd gv 130 (.slice (some ⟨ba, oa, none⟩) n cap)) 131 (.pointer (some ⟨ba, oa, none⟩))) _ (by rw [upd_same e3]; exact ⟨hBx, vals_step (n := 4) (v := .pointer (some ⟨ba, oa, none⟩)) hD (by decide) (by omega) P (fun _ => rfl), QC, QD, ⟨fun x => QG.1 (fun y => x (fw 7 y)), fun x => QG.2 (bk 7 (by decide) x)⟩, QI⟩)
            | 5, _ =>
              cases hio
              have h4 : On f 4 := he ⟨4, .data⟩ (by simp) rfl
              have e4 : gv 131 = .pointer (some ⟨ba, oa, none⟩) := P 4 (by decide) rfl h4
              have hrg : wm.rangeAt ba (oa) (Bs x) := by
                rcases QI.cells with h0 | ⟨b9, o9, e9, hc⟩
                · omega
                · cases e9
                  have h9 := hc 0 (by omega)
                  rw [HP.out] at h9
                  simpa using h9
              rw [e4]
              have HQ := Lib.hid (And.intro P (And.intro QC (And.intro QD (And.intro QG QI))))
              clear P QC QD QG QI
              refine rng_load (by rfl) 132 rfl 36 (.tmp 131) rfl (by rfl) (Bs x) _ hrg under_ids rfl (info_x HXY.out.1) ?_
              simp only [List.setIfInBounds_toArray]
              obtain ⟨P, QC, QD, QG, QI⟩ := HQ.out
              have bk : ∀ j, j ≠ 5 → On (f.setIfInBounds 5 true) j → On f j := fun j hj x => on_back (by omega) x hj
              have fw : ∀ j, On f j → On (f.setIfInBounds 5 true) j := fun j x => (on_put (by omega)).2 (.inr x)
              exact hKK (upd (upd gv 131 (.pointer (some ⟨ba, oa, none⟩))) 132 (.agg (Bs x).toArray)) _ (by rw [upd_same e4]; exact ⟨hBx, vals_step (n := 5) (v := .agg (Bs x).toArray) hD (by decide) (by omega) P (fun _ => rfl), QC, QD, ⟨fun x => QG.1 (fun y => x (fw 7 y)), fun x => QG.2 (bk 7 (by decide) x)⟩, QI⟩)
            | 6, _ =>
              cases hio
              have h1 : On f 1 := he ⟨1, .data⟩ (by simp) rfl
              have e1 : gv 128 = .slice (some ⟨g, 0, none⟩) n capg := P 1 (by decide) rfl h1
              rw [e1]
              have HQ := Lib.hid (And.intro P (And.intro QC (And.intro QD (And.intro QG QI))))
              clear P QC QD QG QI
              go_simp
              obtain ⟨P, QC, QD, QG, QI⟩ := HQ.out
              have bk : ∀ j, j ≠ 6 → On (f.setIfInBounds 6 true) j → On f j := fun j hj x => on_back (by omega) x hj
              have fw : ∀ j, On f j → On (f.setIfInBounds 6 true) j := fun j x => (on_put (by omega)).2 (.inr x)
              exact hKK (upd (upd gv 128 (.slice (some ⟨g, 0, none⟩) n capg)) 133 (.pointer (some ⟨g, 32, none⟩))) _ (by rw [upd_same e1]; exact ⟨hBx, vals_step (n := 6) (v := .pointer (some ⟨g, 32, none⟩)) hD (by decide) (by omega) P (fun _ => rfl), QC, QD, ⟨fun x => QG.1 (fun y => x (fw 7 y)), fun x => QG.2 (bk 7 (by decide) x)⟩, QI⟩)
            | 7, _ =>
              cases hio
              have off : ¬ On f 7 := on_off (by omega) hn
              have h5 : On f 5 := he ⟨5, .data⟩ (by simp) rfl
              have e5 : gv 132 = .agg (Bs x).toArray := P 5 (by decide) rfl h5
              have h6 : On f 6 := he ⟨6, .data⟩ (by simp) rfl
              have e6 : gv 133 = .pointer (some ⟨g, 32, none⟩) := P 6 (by decide) rfl h6
              have hq := QG.1 off
              rw [e5, e6]
              have HQ := Lib.hid (And.intro P (And.intro QC (And.intro QD (And.intro QG QI))))
              clear P QC QD QG QI
              refine mid_store (by rfl) rfl 36 (.tmp 133) (.tmp 132) rfl (by rfl) (Bs x) (by rfl) hq (by rw [Bs_length]; exact HXY.out.2.1) ?_ ?_ (Bs_one _) ?_
              · rw [Bs_length, Bs_length, HXY.out.1, HXY.out.2.1]
              · exact info_x HXY.out.1
              intro w6 hc6 ho6
              have hxx := HS15.out
              obtain ⟨P, QC, QD, QG, QI⟩ := HQ.out
              have fn : On (f.setIfInBounds 7 true) 7 := (on_put (by omega)).2 (.inl rfl)
              exact hKK (upd (upd gv 132 (.agg (Bs x).toArray)) 133 (.pointer (some ⟨g, 32, none⟩))) _ (by rw [upd_same e5]; rw [upd_same e6]; exact ⟨ho6.below hBx (by omega), vals_keep (n := 7) (by omega) rfl P, ho6.heap QC (by omega), ho6.heap QD (by omega), ⟨fun x => absurd fn x, fun _ => hc6⟩, QI.only ho6 (fun z hz => by injection hz with hz; rw [← hz]; show ba ≠ g; omega)⟩)
          · rintro f gv w5 hall hs' ⟨hBx, P, QC, QD, QG, QI⟩
            replace hs' : f.size = 8 := hs'
            have on : ∀ j, j < 8 → On f j := fun j hj => on_all hall hs' j hj
            have HG19 := Lib.hid (QG.2 (on 7 (by decide)))
            have HD19 := Lib.hid QD
            have HB19 := Lib.hid hBx
            clear P QC QD QG QI hBx hall hs' on hD
            have HIS := Lib.hid (show Ids w5 (some ⟨g, 0, none⟩) n capg (y :: x :: r) from Ids.of_cel (rest := rest) (t := 36) (by have := HG19.out; rw [HR.out] at this; simpa [Bs, List.map_append, List.append_assoc] using this) (by rw [HN.out, HP.out]; rfl) (fun z hz => by
              have := HXY.out
              simp only [List.mem_cons] at hz
              rcases hz with rfl | rfl | hz
              · exact this.2.1
              · exact this.1
              · exact this.2.2 z hz) HCP.out.1 HCP.out.2)
            have p0 : w5.cell? ⟨b5, 0, none⟩ = some (.int .i64 node) := HD19.out.at 0 _ rfl
            have p1 : w5.cell? ⟨b5, 1, none⟩ = some (.int .i64 seq) := HD19.out.at 1 _ rfl
            have p2 : w5.cell? ⟨b5, 2, none⟩ = some (.int .i64 gen) := HD19.out.at 2 _ rfl
            have p3 : w5.cell? ⟨b5, 3, none⟩ = some (.slice (some ⟨g, 0, none⟩) n capg) := HD19.out.at 3 _ rfl
            have p4 : w5.cell? ⟨b5, 4, none⟩ = some (.int .i64 kind) := HD19.out.at 4 _ rfl
            have p5 : w5.cell? ⟨b5, 5, none⟩ = some (.string s1) := HD19.out.at 5 _ rfl
            have p6 : w5.cell? ⟨b5, 6, none⟩ = some (.string s2) := HD19.out.at 6 _ rfl
            have p7 : w5.cell? ⟨b5, 7, none⟩ = some (.int .i64 num) := HD19.out.at 7 _ rfl
            go_wp2_with fail
            refine (HMS.out _ g capg x y r HP.out (by first | rfl | trivial) HIS.out).mono ?_
            rintro e w20 ⟨rfl, hb⟩
            have HB20 := Lib.hid (HB19.out.step hb)
            go_wp2_with fail
            go_ret
            exact ⟨rfl, HB20.out⟩
  | false =>
    rw [if_neg (by decide)] at hpa
    obtain ⟨rfl, hb⟩ := hpa
    have HC9 := Lib.hid (HC8.out.step hb)
    have HO9 := Lib.hid (HO8.out.step hb)
    have HB9 := Lib.hid (HB8.out.step hb)
    have HX9 := Lib.hid (HX8.out.below hb)
    clear hb r0 r1 r2 r3 r4 r5 r6 r7
    have p0 : w9.cell? ⟨b1, 0, none⟩ = some (.int .i64 node) := HC9.out.at 0 _ rfl
    have p1 : w9.cell? ⟨b1, 1, none⟩ = some (.int .i64 seq) := HC9.out.at 1 _ rfl
    have p2 : w9.cell? ⟨b1, 2, none⟩ = some (.int .i64 gen) := HC9.out.at 2 _ rfl
    have p3 : w9.cell? ⟨b1, 3, none⟩ = some (.slice a n cap) := HC9.out.at 3 _ rfl
    have p4 : w9.cell? ⟨b1, 4, none⟩ = some (.int .i64 kind) := HC9.out.at 4 _ rfl
    have p5 : w9.cell? ⟨b1, 5, none⟩ = some (.string s1) := HC9.out.at 5 _ rfl
    have p6 : w9.cell? ⟨b1, 6, none⟩ = some (.string s2) := HC9.out.at 6 _ rfl
    have p7 : w9.cell? ⟨b1, 7, none⟩ = some (.int .i64 num) := HC9.out.at 7 _ rfl
    go_upto_region 10 with fail
    obtain ⟨b4, hb4⟩ : ∃ b, b = w9.heap.size := ⟨_, rfl⟩
    have hC0 := Cel.new w9 28 [.int .i64 node, .int .i64 seq, .int .i64 gen, .slice a n cap, .int .i64 kind, .string s1, .string s2, .int .i64 num]
    rw [← hb4] at hC0 ⊢
    generalize hw10 : w9.alloc (.cells _ _) = w10
    have HD10 := Lib.hid (show Cel w10 b4 28 [.int .i64 node, .int .i64 seq, .int .i64 gen, .slice a n cap, .int .i64 kind, .string s1, .string s2, .int .i64 num] by rw [← hw10]; exact hC0)
    have hb910 : Below w9.heap.size w9 w10 := by rw [← hw10]; exact (Below.refl _ _).alloc (Nat.le_refl _) _
    have HC10 := Lib.hid (HC9.out.step hb910)
    have HO10 := Lib.hid (HO9.out.step hb910)
    have HB10 := Lib.hid (HB9.out.step hb910)
    have HX10 := Lib.hid (HX9.out.below hb910)
    have HS10 := Lib.hid (show b1 < b4 ∧ b2 < b4 ∧ w9.heap.size ≤ b4 from ⟨by rw [hb4]; exact HC9.out.lt, by rw [hb4]; exact HO9.out.lt, by rw [hb4]; exact Nat.le_refl _⟩)
    clear hC0 hw10 hb910 hb4 p0 p1 p2 p3 p4 p5 p6 p7
    have r1 : w10.cell? ⟨b4, 1, none⟩ = some (.int .i64 seq) := HD10.out.at 1 _ rfl
    have f1 : w10.frozen? ⟨b4, 1, none⟩ = false := HD10.out.free 1
    go_upto_region 11 with fail
    generalize hw11 : World.setCell w10 _ _ = w11
    have ho11 : Only w10 w11 b4 := by rw [← hw11]; exact only_set _ _ _ _
    have HD11 := Lib.hid (show Cel w11 b4 28 [.int .i64 node, .int .i64 sq, .int .i64 gen, .slice a n cap, .int .i64 kind, .string s1, .string s2, .int .i64 num] by rw [← hw11]; exact HD10.out.set 1 _)
    have hs7 := HS10.out
    have hs6 := HB9.out.size
    have HC11 := Lib.hid (show Cel w11 b1 28 [.int .i64 node, .int .i64 seq, .int .i64 gen, .slice a n cap, .int .i64 kind, .string s1, .string s2, .int .i64 num] from ho11.heap HC10.out (by omega))
    have HO11 := Lib.hid (show Cel w11 b2 26 [.int .i64 ki, .string t1, .string t2, .int .i64 nu] from ho11.heap HO10.out (by omega))
    have HB11 := Lib.hid (ho11.below HB10.out (by omega))
    have HX11 := Lib.hid (HX10.out.only' ho11 (HX10.out.apart HD10.out (by intro v hv z; simp only [List.mem_cons, List.not_mem_nil, or_false] at hv; rcases hv with rfl | rfl | rfl | rfl | rfl | rfl | rfl | rfl <;> exact fun h => nomatch h)))
    clear hw11 ho11 hs7 hs6 r1 f1
    have r0 : w11.cell? ⟨b4, 0, none⟩ = some (.int .i64 node) := HD11.out.at 0 _ rfl
    have r1 : w11.cell? ⟨b4, 1, none⟩ = some (.int .i64 sq) := HD11.out.at 1 _ rfl
    have r2 : w11.cell? ⟨b4, 2, none⟩ = some (.int .i64 gen) := HD11.out.at 2 _ rfl
    have r3 : w11.cell? ⟨b4, 3, none⟩ = some (.slice a n cap) := HD11.out.at 3 _ rfl
    have r4 : w11.cell? ⟨b4, 4, none⟩ = some (.int .i64 kind) := HD11.out.at 4 _ rfl
    have r5 : w11.cell? ⟨b4, 5, none⟩ = some (.string s1) := HD11.out.at 5 _ rfl
    have r6 : w11.cell? ⟨b4, 6, none⟩ = some (.string s2) := HD11.out.at 6 _ rfl
    have r7 : w11.cell? ⟨b4, 7, none⟩ = some (.int .i64 num) := HD11.out.at 7 _ rfl
    go_wp2_with fail
    refine (HPB.out _ (HRC.out.below HB11.out)).mono ?_
    intro e w12 hpb
    cases mB with
    | true =>
      rw [if_pos rfl] at hpb
      obtain ⟨a12, c12, rfl, hr12, _, hb⟩ := hpb
      have HZ12 := Lib.hid hr12
      have HE2T := Lib.hid (HE2.out (by first | rfl | trivial) (by first | rfl | trivial))
      clear hr12
      have HC12 := Lib.hid (HC11.out.step hb)
      have HO12 := Lib.hid (HO11.out.step hb)
      have HB12 := Lib.hid (HB11.out.step hb)
      have HX12 := Lib.hid (HX11.out.below hb)
      clear hb r0 r1 r2 r3 r4 r5 r6 r7
      go_upto_region 12 with fail
      have hD : ∀ j, j < 41 → ∀ n, n < 41 → j ≠ n → dkN [70, 71, 72, 73, 74, 75, 76, 77, 78, 79, 80, 81, 82, 83, 84, 85, 86, 87, 88, 89, 90, 91, 92, 93, 94, 95, 96, 97, 98, 99, 100, 101, 102, 103, 104, 105, 106, 107, 108, 109, 110] j ≠ dkN [70, 71, 72, 73, 74, 75, 76, 77, 78, 79, 80, 81, 82, 83, 84, 85, 86, 87, 88, 89, 90, 91, 92, 93, 94, 95, 96, 97, 98, 99, 100, 101, 102, 103, 104, 105, 106, 107, 108, 109, 110] n := by decide +kernel
      refine region_fun (by kernel_rfl) (by kernel_rfl) (fun gv => #[gv 0, gv 1, .int .i64 sq, .pointer (some ⟨b1, 0, none⟩), .pointer (some ⟨b2, 0, none⟩), gv 5, gv 6, gv 7, gv 8, .slice a5 lx c5, gv 10, gv 11, .slice none 0 0, .int .i64 1, gv 14, .slice a12 lz c12, .int .i64 0, gv 17, gv 18, gv 19, gv 20, gv 21, gv 22, gv 23, gv 24, gv 25, gv 26, gv 27, gv 28, gv 29, gv 30, gv 31, gv 32, gv 33, gv 34, gv 35, gv 36, gv 37, gv 38, gv 39, gv 40, gv 41, gv 42, gv 43, gv 44, gv 45, gv 46, gv 47, gv 48, gv 49, gv 50, gv 51, gv 52, gv 53, gv 54, gv 55, gv 56, gv 57, gv 58, gv 59, gv 60, gv 61, gv 62, gv 63, gv 64, gv 65, gv 66, gv 67, gv 68, gv 69, gv 70, gv 71, gv 72, gv 73, gv 74, gv 75, gv 76, gv 77, gv 78, gv 79, gv 80, gv 81, gv 82, gv 83, gv 84, gv 85, gv 86, gv 87, gv 88, gv 89, gv 90, gv 91, gv 92, gv 93, gv 94, gv 95, gv 96, gv 97, gv 98, gv 99, gv 100, gv 101, gv 102, gv 103, gv 104, gv 105, gv 106, gv 107, gv 108, gv 109, gv 110, gv 111, gv 112, gv 113, gv 114, gv 115, gv 116, gv 117, gv 118, gv 119, gv 120, gv 121, gv 122, gv 123, gv 124, gv 125, gv 126, gv 127, gv 128, gv 129, gv 130, gv 131, gv 132, gv 133, gv 134, gv 135, gv 136]) rfl (fun f gv wx => Below w12.heap.size w12 wx ∧ (∀ j, j < 41 → (fun j => false) j = false → On f j → gv (dkN [70, 71, 72, 73, 74, 75, 76, 77, 78, 79, 80, 81, 82, 83, 84, 85, 86, 87, 88, 89, 90, 91, 92, 93, 94, 95, 96, 97, 98, 99, 100, 101, 102, 103, 104, 105, 106, 107, 108, 109, 110] j) = vkN [.slice a5 lx c5, .int .i64 (lx : Int), .pointer (some ⟨b1, 3, none⟩), .slice a n cap, .int .i64 (n : Int), .int .i64 (32 * (n : Int)), .int .i64 (32 * (n : Int) + 7), .bool false, .bool false, .int .i64 1, .bool false, .bool false, undef, undef, undef, undef, undef, undef, undef, undef, undef, undef, .bool false, .bool false, .bool false, .int .i64 0, .bool true, .bool true, .slice a5 lx c5, .string ⟨X.toArray⟩, .slice a12 lz c12, .string ⟨Z.toArray⟩, .bool e2, .int .i64 sq, .pointer (some ⟨b1, 0, none⟩), .pointer (some ⟨b1, 1, none⟩), .int .i64 seq, .bool e2, .bool false, .bool false, .bool false] j) ∧ (Cel wx b1 28 [.int .i64 node, .int .i64 seq, .int .i64 gen, .slice a n cap, .int .i64 kind, .string s1, .string s2, .int .i64 num]) ∧ (Cel wx b2 26 [.int .i64 ki, .string t1, .string t2, .int .i64 nu]) ∧ (Rd wx a5 lx c5 X) ∧ (Rd wx a12 lz c12 Z)) ?_ ?_ ?_
      · have hoff : ∀ j, ¬ On (Array.replicate 41 false) j := by
          intro j hj; simp only [On, Array.getD_eq_getD_getElem?, Array.getElem?_replicate] at hj; split at hj <;> simp at hj
        exact ⟨(Below.refl _ _).drew, fun j _ _ x => absurd x (hoff _), HC12.out.step (below_drewNw _ _), HO12.out.step (below_drewNw _ _), HX12.out.below (below_drewNw _ _), HZ12.out.below (below_drewNw _ _)⟩
      · rintro i' o' f gv wm hio hs' hn he ⟨hBx, P, QC, QO, QX, QZ⟩ KK hKK
        have hi' : i' < 41 := (Array.getElem?_eq_some_iff.1 hio).1
        replace hs' : f.size = 41 := hs'
        match i', hi' with
        | 0, _ =>
          cases hio
          have HQ := Lib.hid (And.intro P (And.intro QC (And.intro QO (And.intro QX QZ))))
          clear P QC QO QX QZ
          go_simp
          obtain ⟨P, QC, QO, QX, QZ⟩ := HQ.out
          exact hKK (upd gv 70 (.slice a5 lx c5)) _ (by exact ⟨hBx, vals_step (n := 0) (v := .slice a5 lx c5) hD (by decide) (by omega) P (fun _ => rfl), QC, QO, QX, QZ⟩)
        | 1, _ =>
          cases hio
          have h0 : On f 0 := he ⟨0, .data⟩ (by simp) rfl
          have e0 : gv 70 = .slice a5 lx c5 := P 0 (by decide) rfl h0
          rw [e0]
          have HQ := Lib.hid (And.intro P (And.intro QC (And.intro QO (And.intro QX QZ))))
          clear P QC QO QX QZ
          go_simp
          obtain ⟨P, QC, QO, QX, QZ⟩ := HQ.out
          exact hKK (upd (upd gv 70 (.slice a5 lx c5)) 71 (.int .i64 (lx : Int))) _ (by rw [upd_same e0]; exact ⟨hBx, vals_step (n := 1) (v := .int .i64 (lx : Int)) hD (by decide) (by omega) P (fun _ => rfl), QC, QO, QX, QZ⟩)
        | 2, _ =>
          cases hio
          have HQ := Lib.hid (And.intro P (And.intro QC (And.intro QO (And.intro QX QZ))))
          clear P QC QO QX QZ
          go_simp
          obtain ⟨P, QC, QO, QX, QZ⟩ := HQ.out
          exact hKK (upd gv 72 (.pointer (some ⟨b1, 3, none⟩))) _ (by exact ⟨hBx, vals_step (n := 2) (v := .pointer (some ⟨b1, 3, none⟩)) hD (by decide) (by omega) P (fun _ => rfl), QC, QO, QX, QZ⟩)
        | 3, _ =>
          cases hio
          have h2 : On f 2 := he ⟨2, .data⟩ (by simp) rfl
          have e2 : gv 72 = .pointer (some ⟨b1, 3, none⟩) := P 2 (by decide) rfl h2
          have d3 : wm.cell? ⟨b1, 3, none⟩ = some (.slice a n cap) := QC.at 3 _ rfl
          rw [e2]
          have HQ := Lib.hid (And.intro P (And.intro QC (And.intro QO (And.intro QX QZ))))
          clear P QC QO QX QZ
          go_simp
          obtain ⟨P, QC, QO, QX, QZ⟩ := HQ.out
          exact hKK (upd (upd gv 72 (.pointer (some ⟨b1, 3, none⟩))) 73 (.slice a n cap)) _ (by rw [upd_same e2]; exact ⟨hBx, vals_step (n := 3) (v := .slice a n cap) hD (by decide) (by omega) P (fun _ => rfl), QC, QO, QX, QZ⟩)
        | 4, _ =>
          cases hio
          have h3 : On f 3 := he ⟨3, .data⟩ (by simp) rfl
          have e3 : gv 73 = .slice a n cap := P 3 (by decide) rfl h3
          rw [e3]
          have HQ := Lib.hid (And.intro P (And.intro QC (And.intro QO (And.intro QX QZ))))
          clear P QC QO QX QZ
          go_simp
          obtain ⟨P, QC, QO, QX, QZ⟩ := HQ.out
          exact hKK (upd (upd gv 73 (.slice a n cap)) 74 (.int .i64 (n : Int))) _ (by rw [upd_same e3]; exact ⟨hBx, vals_step (n := 4) (v := .int .i64 (n : Int)) hD (by decide) (by omega) P (fun _ => rfl), QC, QO, QX, QZ⟩)
        | 5, _ =>
          cases hio
          have h4 : On f 4 := he ⟨4, .data⟩ (by simp) rfl
          have e4 : gv 74 = .int .i64 (n : Int) := P 4 (by decide) rfl h4
          have hw5 : IntKind.i64.wrap (32 * (n : Int)) = 32 * (n : Int) := by rw [IntWalk.i64_in _ ⟨by omega, by omega⟩]
          rw [e4]
          have HQ := Lib.hid (And.intro P (And.intro QC (And.intro QO (And.intro QX QZ))))
          clear P QC QO QX QZ
          go_simp
          obtain ⟨P, QC, QO, QX, QZ⟩ := HQ.out
          exact hKK (upd (upd gv 74 (.int .i64 (n : Int))) 75 (.int .i64 (32 * (n : Int)))) _ (by rw [upd_same e4]; exact ⟨hBx, vals_step (n := 5) (v := .int .i64 (32 * (n : Int))) hD (by decide) (by omega) P (fun _ => rfl), QC, QO, QX, QZ⟩)
        | 6, _ =>
          cases hio
          have h5 : On f 5 := he ⟨5, .data⟩ (by simp) rfl
          have e5 : gv 75 = .int .i64 (32 * (n : Int)) := P 5 (by decide) rfl h5
          have hw5 : IntKind.i64.wrap (32 * (n : Int) + 7) = 32 * (n : Int) + 7 := by rw [IntWalk.i64_in _ ⟨by omega, by omega⟩]
          rw [e5]
          have HQ := Lib.hid (And.intro P (And.intro QC (And.intro QO (And.intro QX QZ))))
          clear P QC QO QX QZ
          go_simp
          obtain ⟨P, QC, QO, QX, QZ⟩ := HQ.out
          exact hKK (upd (upd gv 75 (.int .i64 (32 * (n : Int)))) 76 (.int .i64 (32 * (n : Int) + 7))) _ (by rw [upd_same e5]; exact ⟨hBx, vals_step (n := 6) (v := .int .i64 (32 * (n : Int) + 7)) hD (by decide) (by omega) P (fun _ => rfl), QC, QO, QX, QZ⟩)
        | 7, _ =>
          cases hio
          have h1 : On f 1 := he ⟨1, .data⟩ (by simp) rfl
          have e1 : gv 71 = .int .i64 (lx : Int) := P 1 (by decide) rfl h1
          have h6 : On f 6 := he ⟨6, .data⟩ (by simp) rfl
          have e6 : gv 76 = .int .i64 (32 * (n : Int) + 7) := P 6 (by decide) rfl h6
          have hq : ¬ (lx : Int) < 32 * (n : Int) + 7 := by have := HLX.out; omega
          rw [e1, e6]
          have HQ := Lib.hid (And.intro P (And.intro QC (And.intro QO (And.intro QX QZ))))
          clear P QC QO QX QZ
          go_simp
          obtain ⟨P, QC, QO, QX, QZ⟩ := HQ.out
          exact hKK (upd (upd (upd gv 71 (.int .i64 (lx : Int))) 76 (.int .i64 (32 * (n : Int) + 7))) 77 (.bool false)) _ (by rw [upd_same e1]; rw [upd_same e6]; exact ⟨hBx, vals_step (n := 7) (v := .bool false) hD (by decide) (by omega) P (fun _ => rfl), QC, QO, QX, QZ⟩)
        | 8, _ =>
          cases hio
          have h7 : On f 7 := he ⟨7, .data⟩ (by simp) rfl
          have e7 : gv 77 = .bool false := P 7 (by decide) rfl h7
          rw [e7]
          have HQ := Lib.hid (And.intro P (And.intro QC (And.intro QO (And.intro QX QZ))))
          clear P QC QO QX QZ
          go_simp
          obtain ⟨P, QC, QO, QX, QZ⟩ := HQ.out
          exact hKK (upd (upd gv 77 (.bool false)) 78 (.bool false)) _ (by rw [upd_same e7]; exact ⟨hBx, vals_step (n := 8) (v := .bool false) hD (by decide) (by omega) P (fun _ => rfl), QC, QO, QX, QZ⟩)
        | 9, _ =>
          cases hio
          have h8 : On f 8 := he ⟨8, .guard⟩ (by simp) rfl
          have e8 : gv 78 = .bool false := P 8 (by decide) rfl h8
          rw [e8]
          rw [if_pos (by rfl)]
          have HQ := Lib.hid (And.intro P (And.intro QC (And.intro QO (And.intro QX QZ))))
          clear P QC QO QX QZ
          go_simp
          obtain ⟨P, QC, QO, QX, QZ⟩ := HQ.out
          exact hKK (upd (upd gv 78 (.bool false)) 79 (.int .i64 1)) _ (by rw [upd_same e8]; exact ⟨hBx, vals_step (n := 9) (v := .int .i64 1) hD (by decide) (by omega) P (fun _ => rfl), QC, QO, QX, QZ⟩)
        | 10, _ =>
          cases hio
          have h8 : On f 8 := he ⟨8, .guard⟩ (by simp) rfl
          have e8 : gv 78 = .bool false := P 8 (by decide) rfl h8
          have h9 : On f 9 := he ⟨9, .data⟩ (by simp) rfl
          have e9 : gv 79 = .int .i64 1 := P 9 (by decide) rfl h9
          rw [e8, e9]
          rw [if_pos (by rfl)]
          have HQ := Lib.hid (And.intro P (And.intro QC (And.intro QO (And.intro QX QZ))))
          clear P QC QO QX QZ
          go_simp
          obtain ⟨P, QC, QO, QX, QZ⟩ := HQ.out
          exact hKK (upd (upd (upd gv 78 (.bool false)) 79 (.int .i64 1)) 80 (.bool false)) _ (by rw [upd_same e8]; rw [upd_same e9]; exact ⟨hBx, vals_step (n := 10) (v := .bool false) hD (by decide) (by omega) P (fun _ => rfl), QC, QO, QX, QZ⟩)
        | 11, _ =>
          cases hio
          have h8 : On f 8 := he ⟨8, .guard⟩ (by simp) rfl
          have e8 : gv 78 = .bool false := P 8 (by decide) rfl h8
          have h10 : On f 10 := he ⟨10, .data⟩ (by simp) rfl
          have e10 : gv 80 = .bool false := P 10 (by decide) rfl h10
          rw [e8, e10]
          rw [if_pos (by rfl)]
          have HQ := Lib.hid (And.intro P (And.intro QC (And.intro QO (And.intro QX QZ))))
          clear P QC QO QX QZ
          go_simp
          obtain ⟨P, QC, QO, QX, QZ⟩ := HQ.out
          exact hKK (upd (upd (upd gv 78 (.bool false)) 80 (.bool false)) 81 (.bool false)) _ (by rw [upd_same e8]; rw [upd_same e10]; exact ⟨hBx, vals_step (n := 11) (v := .bool false) hD (by decide) (by omega) P (fun _ => rfl), QC, QO, QX, QZ⟩)
        | 12, _ =>
          cases hio
          have h11 : On f 11 := he ⟨11, .guard⟩ (by simp) rfl
          have e11 : gv 81 = .bool false := P 11 (by decide) rfl h11
          rw [e11]
          have HQ := Lib.hid (And.intro P (And.intro QC (And.intro QO (And.intro QX QZ))))
          clear P QC QO QX QZ
          refine skip_if (fun h => nomatch (show false = true from h)) ?_
          simp only [Act.put, List.setIfInBounds_toArray]
          obtain ⟨P, QC, QO, QX, QZ⟩ := HQ.out
          exact hKK (upd (upd gv 81 (.bool false)) 82 (undef)) _ (by rw [upd_same e11]; exact ⟨hBx, vals_step (n := 12) (v := undef) hD (by decide) (by omega) P (fun _ => rfl), QC, QO, QX, QZ⟩)
        | 13, _ =>
          cases hio
          have h11 : On f 11 := he ⟨11, .guard⟩ (by simp) rfl
          have e11 : gv 81 = .bool false := P 11 (by decide) rfl h11
          rw [e11]
          have HQ := Lib.hid (And.intro P (And.intro QC (And.intro QO (And.intro QX QZ))))
          clear P QC QO QX QZ
          refine skip_if (fun h => nomatch (show false = true from h)) ?_
          simp only [Act.put, List.setIfInBounds_toArray]
          obtain ⟨P, QC, QO, QX, QZ⟩ := HQ.out
          exact hKK (upd (upd gv 81 (.bool false)) 83 (undef)) _ (by rw [upd_same e11]; exact ⟨hBx, vals_step (n := 13) (v := undef) hD (by decide) (by omega) P (fun _ => rfl), QC, QO, QX, QZ⟩)
        | 14, _ =>
          cases hio
          have h11 : On f 11 := he ⟨11, .guard⟩ (by simp) rfl
          have e11 : gv 81 = .bool false := P 11 (by decide) rfl h11
          rw [e11]
          have HQ := Lib.hid (And.intro P (And.intro QC (And.intro QO (And.intro QX QZ))))
          clear P QC QO QX QZ
          refine skip_if (fun h => nomatch (show false = true from h)) ?_
          simp only [Act.put, List.setIfInBounds_toArray]
          obtain ⟨P, QC, QO, QX, QZ⟩ := HQ.out
          exact hKK (upd (upd gv 81 (.bool false)) 84 (undef)) _ (by rw [upd_same e11]; exact ⟨hBx, vals_step (n := 14) (v := undef) hD (by decide) (by omega) P (fun _ => rfl), QC, QO, QX, QZ⟩)
        | 15, _ =>
          cases hio
          have h11 : On f 11 := he ⟨11, .guard⟩ (by simp) rfl
          have e11 : gv 81 = .bool false := P 11 (by decide) rfl h11
          rw [e11]
          have HQ := Lib.hid (And.intro P (And.intro QC (And.intro QO (And.intro QX QZ))))
          clear P QC QO QX QZ
          refine skip_if (fun h => nomatch (show false = true from h)) ?_
          simp only [Act.put, List.setIfInBounds_toArray]
          obtain ⟨P, QC, QO, QX, QZ⟩ := HQ.out
          exact hKK (upd (upd gv 81 (.bool false)) 85 (undef)) _ (by rw [upd_same e11]; exact ⟨hBx, vals_step (n := 15) (v := undef) hD (by decide) (by omega) P (fun _ => rfl), QC, QO, QX, QZ⟩)
        | 16, _ =>
          cases hio
          have h11 : On f 11 := he ⟨11, .guard⟩ (by simp) rfl
          have e11 : gv 81 = .bool false := P 11 (by decide) rfl h11
          rw [e11]
          have HQ := Lib.hid (And.intro P (And.intro QC (And.intro QO (And.intro QX QZ))))
          clear P QC QO QX QZ
          refine skip_if (fun h => nomatch (show false = true from h)) ?_
          simp only [Act.put, List.setIfInBounds_toArray]
          obtain ⟨P, QC, QO, QX, QZ⟩ := HQ.out
          exact hKK (upd (upd gv 81 (.bool false)) 86 (undef)) _ (by rw [upd_same e11]; exact ⟨hBx, vals_step (n := 16) (v := undef) hD (by decide) (by omega) P (fun _ => rfl), QC, QO, QX, QZ⟩)
        | 17, _ =>
          cases hio
          have h11 : On f 11 := he ⟨11, .guard⟩ (by simp) rfl
          have e11 : gv 81 = .bool false := P 11 (by decide) rfl h11
          rw [e11]
          have HQ := Lib.hid (And.intro P (And.intro QC (And.intro QO (And.intro QX QZ))))
          clear P QC QO QX QZ
          refine skip_if (fun h => nomatch (show false = true from h)) ?_
          simp only [Act.put, List.setIfInBounds_toArray]
          obtain ⟨P, QC, QO, QX, QZ⟩ := HQ.out
          exact hKK (upd (upd gv 81 (.bool false)) 87 (undef)) _ (by rw [upd_same e11]; exact ⟨hBx, vals_step (n := 17) (v := undef) hD (by decide) (by omega) P (fun _ => rfl), QC, QO, QX, QZ⟩)
        | 18, _ =>
          cases hio
          have h11 : On f 11 := he ⟨11, .guard⟩ (by simp) rfl
          have e11 : gv 81 = .bool false := P 11 (by decide) rfl h11
          rw [e11]
          have HQ := Lib.hid (And.intro P (And.intro QC (And.intro QO (And.intro QX QZ))))
          clear P QC QO QX QZ
          refine skip_if (fun h => nomatch (show false = true from h)) ?_
          simp only [Act.put, List.setIfInBounds_toArray]
          obtain ⟨P, QC, QO, QX, QZ⟩ := HQ.out
          exact hKK (upd (upd gv 81 (.bool false)) 88 (undef)) _ (by rw [upd_same e11]; exact ⟨hBx, vals_step (n := 18) (v := undef) hD (by decide) (by omega) P (fun _ => rfl), QC, QO, QX, QZ⟩)
        | 19, _ =>
          cases hio
          have h11 : On f 11 := he ⟨11, .guard⟩ (by simp) rfl
          have e11 : gv 81 = .bool false := P 11 (by decide) rfl h11
          rw [e11]
          have HQ := Lib.hid (And.intro P (And.intro QC (And.intro QO (And.intro QX QZ))))
          clear P QC QO QX QZ
          refine skip_if (fun h => nomatch (show false = true from h)) ?_
          simp only [Act.put, List.setIfInBounds_toArray]
          obtain ⟨P, QC, QO, QX, QZ⟩ := HQ.out
          exact hKK (upd (upd gv 81 (.bool false)) 89 (undef)) _ (by rw [upd_same e11]; exact ⟨hBx, vals_step (n := 19) (v := undef) hD (by decide) (by omega) P (fun _ => rfl), QC, QO, QX, QZ⟩)
        | 20, _ =>
          cases hio
          have h11 : On f 11 := he ⟨11, .guard⟩ (by simp) rfl
          have e11 : gv 81 = .bool false := P 11 (by decide) rfl h11
          rw [e11]
          have HQ := Lib.hid (And.intro P (And.intro QC (And.intro QO (And.intro QX QZ))))
          clear P QC QO QX QZ
          refine skip_if (fun h => nomatch (show false = true from h)) ?_
          simp only [Act.put, List.setIfInBounds_toArray]
          obtain ⟨P, QC, QO, QX, QZ⟩ := HQ.out
          exact hKK (upd (upd gv 81 (.bool false)) 90 (undef)) _ (by rw [upd_same e11]; exact ⟨hBx, vals_step (n := 20) (v := undef) hD (by decide) (by omega) P (fun _ => rfl), QC, QO, QX, QZ⟩)
        | 21, _ =>
          cases hio
          have h11 : On f 11 := he ⟨11, .guard⟩ (by simp) rfl
          have e11 : gv 81 = .bool false := P 11 (by decide) rfl h11
          rw [e11]
          have HQ := Lib.hid (And.intro P (And.intro QC (And.intro QO (And.intro QX QZ))))
          clear P QC QO QX QZ
          refine skip_if (fun h => nomatch (show false = true from h)) ?_
          simp only [Act.put, List.setIfInBounds_toArray]
          obtain ⟨P, QC, QO, QX, QZ⟩ := HQ.out
          exact hKK (upd (upd gv 81 (.bool false)) 91 (undef)) _ (by rw [upd_same e11]; exact ⟨hBx, vals_step (n := 21) (v := undef) hD (by decide) (by omega) P (fun _ => rfl), QC, QO, QX, QZ⟩)
        | 22, _ =>
          cases hio
          have h8 : On f 8 := he ⟨8, .guard⟩ (by simp) rfl
          have e8 : gv 78 = .bool false := P 8 (by decide) rfl h8
          have h11 : On f 11 := he ⟨11, .data⟩ (by simp) rfl
          have e11 : gv 81 = .bool false := P 11 (by decide) rfl h11
          have h21 : On f 21 := he ⟨21, .data⟩ (by simp) rfl
          have e21 : gv 91 = undef := P 21 (by decide) rfl h21
          rw [e8, e11, e21]
          rw [if_pos (by rfl)]
          have HQ := Lib.hid (And.intro P (And.intro QC (And.intro QO (And.intro QX QZ))))
          clear P QC QO QX QZ
          go_simp
          obtain ⟨P, QC, QO, QX, QZ⟩ := HQ.out
          exact hKK (upd (upd (upd (upd gv 78 (.bool false)) 81 (.bool false)) 91 (undef)) 92 (.bool false)) _ (by rw [upd_same e8]; rw [upd_same e11]; rw [upd_same e21]; exact ⟨hBx, vals_step (n := 22) (v := .bool false) hD (by decide) (by omega) P (fun _ => rfl), QC, QO, QX, QZ⟩)
        | 23, _ =>
          cases hio
          have h8 : On f 8 := he ⟨8, .data⟩ (by simp) rfl
          have e8 : gv 78 = .bool false := P 8 (by decide) rfl h8
          have h22 : On f 22 := he ⟨22, .data⟩ (by simp) rfl
          have e22 : gv 92 = .bool false := P 22 (by decide) rfl h22
          rw [e8, e22]
          have HQ := Lib.hid (And.intro P (And.intro QC (And.intro QO (And.intro QX QZ))))
          clear P QC QO QX QZ
          go_simp
          obtain ⟨P, QC, QO, QX, QZ⟩ := HQ.out
          exact hKK (upd (upd (upd gv 78 (.bool false)) 92 (.bool false)) 93 (.bool false)) _ (by rw [upd_same e8]; rw [upd_same e22]; exact ⟨hBx, vals_step (n := 23) (v := .bool false) hD (by decide) (by omega) P (fun _ => rfl), QC, QO, QX, QZ⟩)
        | 24, _ =>
          cases hio
          have h23 : On f 23 := he ⟨23, .data⟩ (by simp) rfl
          have e23 : gv 93 = .bool false := P 23 (by decide) rfl h23
          rw [e23]
          have HQ := Lib.hid (And.intro P (And.intro QC (And.intro QO (And.intro QX QZ))))
          clear P QC QO QX QZ
          go_simp
          obtain ⟨P, QC, QO, QX, QZ⟩ := HQ.out
          exact hKK (upd (upd gv 93 (.bool false)) 94 (.bool false)) _ (by rw [upd_same e23]; exact ⟨hBx, vals_step (n := 24) (v := .bool false) hD (by decide) (by omega) P (fun _ => rfl), QC, QO, QX, QZ⟩)
        | 25, _ =>
          cases hio
          have h24 : On f 24 := he ⟨24, .guard⟩ (by simp) rfl
          have e24 : gv 94 = .bool false := P 24 (by decide) rfl h24
          rw [e24]
          rw [if_pos (by rfl)]
          have HQ := Lib.hid (And.intro P (And.intro QC (And.intro QO (And.intro QX QZ))))
          clear P QC QO QX QZ
          go_simp
          obtain ⟨P, QC, QO, QX, QZ⟩ := HQ.out
          exact hKK (upd (upd gv 94 (.bool false)) 95 (.int .i64 0)) _ (by rw [upd_same e24]; exact ⟨hBx, vals_step (n := 25) (v := .int .i64 0) hD (by decide) (by omega) P (fun _ => rfl), QC, QO, QX, QZ⟩)
        | 26, _ =>
          cases hio
          have h24 : On f 24 := he ⟨24, .guard⟩ (by simp) rfl
          have e24 : gv 94 = .bool false := P 24 (by decide) rfl h24
          have h25 : On f 25 := he ⟨25, .data⟩ (by simp) rfl
          have e25 : gv 95 = .int .i64 0 := P 25 (by decide) rfl h25
          rw [e24, e25]
          rw [if_pos (by rfl)]
          have HQ := Lib.hid (And.intro P (And.intro QC (And.intro QO (And.intro QX QZ))))
          clear P QC QO QX QZ
          go_simp
          obtain ⟨P, QC, QO, QX, QZ⟩ := HQ.out
          exact hKK (upd (upd (upd gv 94 (.bool false)) 95 (.int .i64 0)) 96 (.bool true)) _ (by rw [upd_same e24]; rw [upd_same e25]; exact ⟨hBx, vals_step (n := 26) (v := .bool true) hD (by decide) (by omega) P (fun _ => rfl), QC, QO, QX, QZ⟩)
        | 27, _ =>
          cases hio
          have h24 : On f 24 := he ⟨24, .guard⟩ (by simp) rfl
          have e24 : gv 94 = .bool false := P 24 (by decide) rfl h24
          have h26 : On f 26 := he ⟨26, .data⟩ (by simp) rfl
          have e26 : gv 96 = .bool true := P 26 (by decide) rfl h26
          rw [e24, e26]
          rw [if_pos (by rfl)]
          have HQ := Lib.hid (And.intro P (And.intro QC (And.intro QO (And.intro QX QZ))))
          clear P QC QO QX QZ
          go_simp
          obtain ⟨P, QC, QO, QX, QZ⟩ := HQ.out
          exact hKK (upd (upd (upd gv 94 (.bool false)) 96 (.bool true)) 97 (.bool true)) _ (by rw [upd_same e24]; rw [upd_same e26]; exact ⟨hBx, vals_step (n := 27) (v := .bool true) hD (by decide) (by omega) P (fun _ => rfl), QC, QO, QX, QZ⟩)
        | 28, _ =>
          cases hio
          have h27 : On f 27 := he ⟨27, .guard⟩ (by simp) rfl
          have e27 : gv 97 = .bool true := P 27 (by decide) rfl h27
          rw [e27]
          rw [if_pos (by rfl)]
          have HQ := Lib.hid (And.intro P (And.intro QC (And.intro QO (And.intro QX QZ))))
          clear P QC QO QX QZ
          go_simp
          obtain ⟨P, QC, QO, QX, QZ⟩ := HQ.out
          exact hKK (upd (upd gv 97 (.bool true)) 98 (.slice a5 lx c5)) _ (by rw [upd_same e27]; exact ⟨hBx, vals_step (n := 28) (v := .slice a5 lx c5) hD (by decide) (by omega) P (fun _ => rfl), QC, QO, QX, QZ⟩)
        | 29, _ =>
          cases hio
          have h27 : On f 27 := he ⟨27, .guard⟩ (by simp) rfl
          have e27 : gv 97 = .bool true := P 27 (by decide) rfl h27
          have h28 : On f 28 := he ⟨28, .data⟩ (by simp) rfl
          have e28 : gv 98 = .slice a5 lx c5 := P 28 (by decide) rfl h28
          have hcv : (convert 31 9 (.slice a5 lx c5)).run Try.prog wm = .ok (.string ⟨X.toArray⟩) wm := str_drew QX 0
          rw [e27, e28]
          rw [if_pos (by rfl)]
          have HQ := Lib.hid (And.intro P (And.intro QC (And.intro QO (And.intro QX QZ))))
          clear P QC QO QX QZ
          go_simp
          obtain ⟨P, QC, QO, QX, QZ⟩ := HQ.out
          exact hKK (upd (upd (upd gv 97 (.bool true)) 98 (.slice a5 lx c5)) 99 (.string ⟨X.toArray⟩)) _ (by rw [upd_same e27]; rw [upd_same e28]; exact ⟨hBx, vals_step (n := 29) (v := .string ⟨X.toArray⟩) hD (by decide) (by omega) P (fun _ => rfl), QC, QO, QX, QZ⟩)
        | 30, _ =>
          cases hio
          have h27 : On f 27 := he ⟨27, .guard⟩ (by simp) rfl
          have e27 : gv 97 = .bool true := P 27 (by decide) rfl h27
          rw [e27]
          rw [if_pos (by rfl)]
          have HQ := Lib.hid (And.intro P (And.intro QC (And.intro QO (And.intro QX QZ))))
          clear P QC QO QX QZ
          go_simp
          obtain ⟨P, QC, QO, QX, QZ⟩ := HQ.out
          exact hKK (upd (upd gv 97 (.bool true)) 100 (.slice a12 lz c12)) _ (by rw [upd_same e27]; exact ⟨hBx, vals_step (n := 30) (v := .slice a12 lz c12) hD (by decide) (by omega) P (fun _ => rfl), QC, QO, QX, QZ⟩)
        | 31, _ =>
          cases hio
          have h27 : On f 27 := he ⟨27, .guard⟩ (by simp) rfl
          have e27 : gv 97 = .bool true := P 27 (by decide) rfl h27
          have h30 : On f 30 := he ⟨30, .data⟩ (by simp) rfl
          have e30 : gv 100 = .slice a12 lz c12 := P 30 (by decide) rfl h30
          have hcv : (convert 31 9 (.slice a12 lz c12)).run Try.prog wm = .ok (.string ⟨Z.toArray⟩) wm := str_drew QZ 0
          rw [e27, e30]
          rw [if_pos (by rfl)]
          have HQ := Lib.hid (And.intro P (And.intro QC (And.intro QO (And.intro QX QZ))))
          clear P QC QO QX QZ
          go_simp
          obtain ⟨P, QC, QO, QX, QZ⟩ := HQ.out
          exact hKK (upd (upd (upd gv 97 (.bool true)) 100 (.slice a12 lz c12)) 101 (.string ⟨Z.toArray⟩)) _ (by rw [upd_same e27]; rw [upd_same e30]; exact ⟨hBx, vals_step (n := 31) (v := .string ⟨Z.toArray⟩) hD (by decide) (by omega) P (fun _ => rfl), QC, QO, QX, QZ⟩)
        | 32, _ =>
          cases hio
          have h27 : On f 27 := he ⟨27, .guard⟩ (by simp) rfl
          have e27 : gv 97 = .bool true := P 27 (by decide) rfl h27
          have h29 : On f 29 := he ⟨29, .data⟩ (by simp) rfl
          have e29 : gv 99 = .string ⟨X.toArray⟩ := P 29 (by decide) rfl h29
          have h31 : On f 31 := he ⟨31, .data⟩ (by simp) rfl
          have e31 : gv 101 = .string ⟨Z.toArray⟩ := P 31 (by decide) rfl h31
          have hq : (X == Z) = e2 := by rw [← HE2T.out]; by_cases h : X = Z <;> simp [h]
          have hq2 : (ByteArray.toList ⟨X.toArray⟩ == ByteArray.toList ⟨Z.toArray⟩) = e2 := by rw [toList_bytes, toList_bytes]; exact hq
          rw [e27, e29, e31]
          rw [if_pos (by rfl)]
          have HQ := Lib.hid (And.intro P (And.intro QC (And.intro QO (And.intro QX QZ))))
          clear P QC QO QX QZ
          go_simp
          obtain ⟨P, QC, QO, QX, QZ⟩ := HQ.out
          exact hKK (upd (upd (upd (upd gv 97 (.bool true)) 99 (.string ⟨X.toArray⟩)) 101 (.string ⟨Z.toArray⟩)) 102 (.bool e2)) _ (by rw [upd_same e27]; rw [upd_same e29]; rw [upd_same e31]; exact ⟨hBx, vals_step (n := 32) (v := .bool e2) hD (by decide) (by omega) P (fun _ => rfl), QC, QO, QX, QZ⟩)
        | 33, _ =>
          cases hio
          have h27 : On f 27 := he ⟨27, .guard⟩ (by simp) rfl
          have e27 : gv 97 = .bool true := P 27 (by decide) rfl h27
          rw [e27]
          rw [if_pos (by rfl)]
          have HQ := Lib.hid (And.intro P (And.intro QC (And.intro QO (And.intro QX QZ))))
          clear P QC QO QX QZ
          go_simp
          obtain ⟨P, QC, QO, QX, QZ⟩ := HQ.out
          exact hKK (upd (upd gv 97 (.bool true)) 103 (.int .i64 sq)) _ (by rw [upd_same e27]; exact ⟨hBx, vals_step (n := 33) (v := .int .i64 sq) hD (by decide) (by omega) P (fun _ => rfl), QC, QO, QX, QZ⟩)
        | 34, _ =>
          cases hio
          have h27 : On f 27 := he ⟨27, .guard⟩ (by simp) rfl
          have e27 : gv 97 = .bool true := P 27 (by decide) rfl h27
          rw [e27]
          rw [if_pos (by rfl)]
          have HQ := Lib.hid (And.intro P (And.intro QC (And.intro QO (And.intro QX QZ))))
          clear P QC QO QX QZ
          go_simp
          obtain ⟨P, QC, QO, QX, QZ⟩ := HQ.out
          exact hKK (upd (upd gv 97 (.bool true)) 104 (.pointer (some ⟨b1, 0, none⟩))) _ (by rw [upd_same e27]; exact ⟨hBx, vals_step (n := 34) (v := .pointer (some ⟨b1, 0, none⟩)) hD (by decide) (by omega) P (fun _ => rfl), QC, QO, QX, QZ⟩)
        | 35, _ =>
          cases hio
          have h27 : On f 27 := he ⟨27, .guard⟩ (by simp) rfl
          have e27 : gv 97 = .bool true := P 27 (by decide) rfl h27
          have h34 : On f 34 := he ⟨34, .data⟩ (by simp) rfl
          have e34 : gv 104 = .pointer (some ⟨b1, 0, none⟩) := P 34 (by decide) rfl h34
          rw [e27, e34]
          rw [if_pos (by rfl)]
          have HQ := Lib.hid (And.intro P (And.intro QC (And.intro QO (And.intro QX QZ))))
          clear P QC QO QX QZ
          go_simp
          obtain ⟨P, QC, QO, QX, QZ⟩ := HQ.out
          exact hKK (upd (upd (upd gv 97 (.bool true)) 104 (.pointer (some ⟨b1, 0, none⟩))) 105 (.pointer (some ⟨b1, 1, none⟩))) _ (by rw [upd_same e27]; rw [upd_same e34]; exact ⟨hBx, vals_step (n := 35) (v := .pointer (some ⟨b1, 1, none⟩)) hD (by decide) (by omega) P (fun _ => rfl), QC, QO, QX, QZ⟩)
        | 36, _ =>
          cases hio
          have h27 : On f 27 := he ⟨27, .guard⟩ (by simp) rfl
          have e27 : gv 97 = .bool true := P 27 (by decide) rfl h27
          have h35 : On f 35 := he ⟨35, .data⟩ (by simp) rfl
          have e35 : gv 105 = .pointer (some ⟨b1, 1, none⟩) := P 35 (by decide) rfl h35
          have d1 : wm.cell? ⟨b1, 1, none⟩ = some (.int .i64 seq) := QC.at 1 _ rfl
          rw [e27, e35]
          rw [if_pos (by rfl)]
          have HQ := Lib.hid (And.intro P (And.intro QC (And.intro QO (And.intro QX QZ))))
          clear P QC QO QX QZ
          go_simp
          obtain ⟨P, QC, QO, QX, QZ⟩ := HQ.out
          exact hKK (upd (upd (upd gv 97 (.bool true)) 105 (.pointer (some ⟨b1, 1, none⟩))) 106 (.int .i64 seq)) _ (by rw [upd_same e27]; rw [upd_same e35]; exact ⟨hBx, vals_step (n := 36) (v := .int .i64 seq) hD (by decide) (by omega) P (fun _ => rfl), QC, QO, QX, QZ⟩)
        | 37, _ =>
          cases hio
          have h27 : On f 27 := he ⟨27, .guard⟩ (by simp) rfl
          have e27 : gv 97 = .bool true := P 27 (by decide) rfl h27
          have h33 : On f 33 := he ⟨33, .data⟩ (by simp) rfl
          have e33 : gv 103 = .int .i64 sq := P 33 (by decide) rfl h33
          have h36 : On f 36 := he ⟨36, .data⟩ (by simp) rfl
          have e36 : gv 106 = .int .i64 seq := P 36 (by decide) rfl h36
          have hq := HES.out
          rw [e27, e33, e36]
          rw [if_pos (by rfl)]
          have HQ := Lib.hid (And.intro P (And.intro QC (And.intro QO (And.intro QX QZ))))
          clear P QC QO QX QZ
          go_simp
          obtain ⟨P, QC, QO, QX, QZ⟩ := HQ.out
          exact hKK (upd (upd (upd (upd gv 97 (.bool true)) 103 (.int .i64 sq)) 106 (.int .i64 seq)) 107 (.bool e2)) _ (by rw [upd_same e27]; rw [upd_same e33]; rw [upd_same e36]; exact ⟨hBx, vals_step (n := 37) (v := .bool e2) hD (by decide) (by omega) P (fun _ => rfl), QC, QO, QX, QZ⟩)
        | 38, _ =>
          cases hio
          have h27 : On f 27 := he ⟨27, .guard⟩ (by simp) rfl
          have e27 : gv 97 = .bool true := P 27 (by decide) rfl h27
          have h32 : On f 32 := he ⟨32, .data⟩ (by simp) rfl
          have e32 : gv 102 = .bool e2 := P 32 (by decide) rfl h32
          have h37 : On f 37 := he ⟨37, .data⟩ (by simp) rfl
          have e37 : gv 107 = .bool e2 := P 37 (by decide) rfl h37
          rw [e27, e32, e37]
          rw [if_pos (by rfl)]
          have HQ := Lib.hid (And.intro P (And.intro QC (And.intro QO (And.intro QX QZ))))
          clear P QC QO QX QZ
          go_simp
          obtain ⟨P, QC, QO, QX, QZ⟩ := HQ.out
          exact hKK (upd (upd (upd (upd gv 97 (.bool true)) 102 (.bool e2)) 107 (.bool e2)) 108 (.bool false)) _ (by rw [upd_same e27]; rw [upd_same e32]; rw [upd_same e37]; exact ⟨hBx, vals_step (n := 38) (v := .bool false) hD (by decide) (by omega) P (fun _ => rfl), QC, QO, QX, QZ⟩)
        | 39, _ =>
          cases hio
          have h24 : On f 24 := he ⟨24, .guard⟩ (by simp) rfl
          have e24 : gv 94 = .bool false := P 24 (by decide) rfl h24
          have h27 : On f 27 := he ⟨27, .data⟩ (by simp) rfl
          have e27 : gv 97 = .bool true := P 27 (by decide) rfl h27
          have h38 : On f 38 := he ⟨38, .data⟩ (by simp) rfl
          have e38 : gv 108 = .bool false := P 38 (by decide) rfl h38
          rw [e24, e27, e38]
          rw [if_pos (by rfl)]
          have HQ := Lib.hid (And.intro P (And.intro QC (And.intro QO (And.intro QX QZ))))
          clear P QC QO QX QZ
          go_simp
          obtain ⟨P, QC, QO, QX, QZ⟩ := HQ.out
          exact hKK (upd (upd (upd (upd gv 94 (.bool false)) 97 (.bool true)) 108 (.bool false)) 109 (.bool false)) _ (by rw [upd_same e24]; rw [upd_same e27]; rw [upd_same e38]; exact ⟨hBx, vals_step (n := 39) (v := .bool false) hD (by decide) (by omega) P (fun _ => rfl), QC, QO, QX, QZ⟩)
        | 40, _ =>
          cases hio
          have h24 : On f 24 := he ⟨24, .data⟩ (by simp) rfl
          have e24 : gv 94 = .bool false := P 24 (by decide) rfl h24
          have h39 : On f 39 := he ⟨39, .data⟩ (by simp) rfl
          have e39 : gv 109 = .bool false := P 39 (by decide) rfl h39
          rw [e24, e39]
          have HQ := Lib.hid (And.intro P (And.intro QC (And.intro QO (And.intro QX QZ))))
          clear P QC QO QX QZ
          go_simp
          obtain ⟨P, QC, QO, QX, QZ⟩ := HQ.out
          exact hKK (upd (upd (upd gv 94 (.bool false)) 109 (.bool false)) 110 (.bool false)) _ (by rw [upd_same e24]; rw [upd_same e39]; exact ⟨hBx, vals_step (n := 40) (v := .bool false) hD (by decide) (by omega) P (fun _ => rfl), QC, QO, QX, QZ⟩)
      · rintro f gv w5 hall hs' ⟨hBx, P, QC, QO, QX, QZ⟩
        replace hs' : f.size = 41 := hs'
        have on : ∀ j, j < 41 → On f j := fun j hj => on_all hall hs' j hj
        have e110 : gv 110 = .bool false := P 40 (by decide) rfl (on 40 (by decide))
        have HC13 := Lib.hid QC
        have HB13 := Lib.hid (HB12.out.step hBx)
        have HID13 := Lib.hid (HID.out _ (HRC.out.below HB13.out))
        clear P QC QO QX QZ hBx hall hs' on hD
        rw [e110]
        clear e110
        have p0 : w5.cell? ⟨b1, 0, none⟩ = some (.int .i64 node) := HC13.out.at 0 _ rfl
        have p1 : w5.cell? ⟨b1, 1, none⟩ = some (.int .i64 seq) := HC13.out.at 1 _ rfl
        have p2 : w5.cell? ⟨b1, 2, none⟩ = some (.int .i64 gen) := HC13.out.at 2 _ rfl
        have p3 : w5.cell? ⟨b1, 3, none⟩ = some (.slice a n cap) := HC13.out.at 3 _ rfl
        have p4 : w5.cell? ⟨b1, 4, none⟩ = some (.int .i64 kind) := HC13.out.at 4 _ rfl
        have p5 : w5.cell? ⟨b1, 5, none⟩ = some (.string s1) := HC13.out.at 5 _ rfl
        have p6 : w5.cell? ⟨b1, 6, none⟩ = some (.string s2) := HC13.out.at 6 _ rfl
        have p7 : w5.cell? ⟨b1, 7, none⟩ = some (.int .i64 num) := HC13.out.at 7 _ rfl
        by_cases hn2 : (n : Int) < 2
        · go_wp2_with fail
          go_ret
          exact ⟨rfl, HB13.out⟩
        go_upto_region 17 with fail
        obtain ⟨b5, hb5⟩ : ∃ b, b = w5.heap.size := ⟨_, rfl⟩
        have hC0 := Cel.new w5 28 [.int .i64 node, .int .i64 seq, .int .i64 gen, .slice a n cap, .int .i64 kind, .string s1, .string s2, .int .i64 num]
        rw [← hb5] at hC0 ⊢
        generalize hw14 : w5.alloc (.cells _ _) = w14
        have HD14 := Lib.hid (show Cel w14 b5 28 [.int .i64 node, .int .i64 seq, .int .i64 gen, .slice a n cap, .int .i64 kind, .string s1, .string s2, .int .i64 num] by rw [← hw14]; exact hC0)
        have hb514 : Below w5.heap.size w5 w14 := by rw [← hw14]; exact (Below.refl _ _).alloc (Nat.le_refl _) _
        have HC14 := Lib.hid (HC13.out.step hb514)
        have HB14 := Lib.hid (HB13.out.step hb514)
        have hs0 := HC13.out.lt
        have hs1 := HB13.out.size
        have hs2 := HD14.out.lt
        have hidx := HID.out _ (HRC.out.below HB14.out)
        obtain ⟨ba, oa, rfl⟩ : ∃ b off, a = some ⟨b, off, none⟩ := by
          rcases hidx.cells with h0 | ⟨b', off', e, _⟩
          · omega
          · exact ⟨b', off', e⟩
        have hba : ba < w14.heap.size := by
          rcases hidx.cells with h0 | ⟨b', off', e, hc⟩
          · omega
          · cases e
            have hx := hc 0 (by omega) 0 _ (List.getElem?_eq_getElem (by rw [Bs_length, hidx.at32 0 (by omega)]; decide))
            have := World.block_lt_of_cell? w14 _ hx
            simpa using this
        obtain ⟨g, capg, rest, w15, hrun, hcg, hnc, hcm, hg, hb⟩ := app_ids hidx (by omega) hn8
        obtain ⟨x, y, r, hp⟩ : ∃ x y r, c.par = x :: y :: r := by
          have := HN.out
          match hcp : c.par with
          | [] => rw [hcp] at this; simp at this; omega
          | [_] => rw [hcp] at this; simp at this; omega
          | x :: y :: r => exact ⟨x, y, r, rfl⟩
        have hx32 := hidx.is32
        rw [hp] at hcg hx32
        have HXY := Lib.hid (show x.length = 32 ∧ y.length = 32 ∧ all32 r from ⟨hx32 x (by simp), hx32 y (by simp), fun z hz => hx32 z (by simp [hz])⟩)
        have HRUN := Lib.hid hrun
        have HP := Lib.hid hp
        have HCP := Lib.hid (And.intro hnc hcm)
        obtain ⟨R, hR⟩ : ∃ R, R = Bs r.flatten ++ rest := ⟨_, rfl⟩
        have HR := Lib.hid hR
        have HG15 := Lib.hid (show Cel w15 g 36 ([] ++ (Bs x ++ (Bs y ++ R))) by rw [hR]; simpa [Bs, List.map_append, List.append_assoc] using hcg)
        have HD15 := Lib.hid (HD14.out.step hb)
        have HC15 := Lib.hid (HC14.out.step hb)
        have HB15 := Lib.hid (HB14.out.step hb)
        have HS15 := Lib.hid (show b1 < b5 ∧ b5 < g ∧ ba < g ∧ w.heap.size ≤ g ∧ w.heap.size ≤ b5 from ⟨by omega, by omega, by omega, by omega, by omega⟩)
        have p3 : w14.cell? ⟨b1, 3, none⟩ = some (.slice (some ⟨ba, oa, none⟩) n cap) := HC14.out.at 3 _ rfl
        have r3 : w15.cell? ⟨b5, 3, none⟩ = some (.slice (some ⟨ba, oa, none⟩) n cap) := HD15.out.at 3 _ rfl
        have f3 : w15.frozen? ⟨b5, 3, none⟩ = false := HD15.out.free 3
        clear hC0 hw14 hb514 hb5 hs0 hs1 hs2 hidx hba hrun hcg hnc hcm hg hp hx32 hb hR p0 p1 p2 p4 p5 p6 p7
        go_upto_region 18 with (at_builtin; refine Lib.wpList_append_run _ rfl _ _ _ _ rfl _ _ rfl rfl _ _ HRUN.out ?_)
        generalize hw16 : World.setCell w15 _ _ = w16
        have ho16 : Only w15 w16 b5 := by rw [← hw16]; exact only_set _ _ _ _
        have HD16 := Lib.hid (show Cel w16 b5 28 [.int .i64 node, .int .i64 seq, .int .i64 gen, .slice (some ⟨g, 0, none⟩) n capg, .int .i64 kind, .string s1, .string s2, .int .i64 num] by rw [← hw16]; exact HD15.out.set 3 _)
        have hs := HS15.out
        have HC16 := Lib.hid (show Cel w16 b1 28 [.int .i64 node, .int .i64 seq, .int .i64 gen, .slice (some ⟨ba, oa, none⟩) n cap, .int .i64 kind, .string s1, .string s2, .int .i64 num] from ho16.heap HC15.out (by omega))
        have HG16 := Lib.hid (show Cel w16 g 36 ([] ++ (Bs x ++ (Bs y ++ R))) from ho16.heap HG15.out (by omega))
        have HB16 := Lib.hid (ho16.below HB15.out (by omega))
        have HI16 := Lib.hid (HID.out _ (HRC.out.below HB16.out))
        have hi1 : (1 : Int) < (n : Int) := by omega
        have hi0 : (0 : Int) < (n : Int) := by omega
        have hi1' : 1 < n := by omega
        have hi0' : 0 < n := by omega
        clear hw16 ho16 hs p3 r3 f3
        have hD : ∀ j, j < 8 → ∀ n, n < 8 → j ≠ n → dkN [120, 121, 122, 123, 124, 125, 126, 1007] j ≠ dkN [120, 121, 122, 123, 124, 125, 126, 1007] n := by decide +kernel
        refine region_fun (by kernel_rfl) (by kernel_rfl) (fun gv => #[gv 0, gv 1, gv 2, .pointer (some ⟨b1, 0, none⟩), gv 4, gv 5, gv 6, gv 7, gv 8, gv 9, gv 10, gv 11, gv 12, gv 13, gv 14, gv 15, gv 16, .pointer (some ⟨b5, 0, none⟩), gv 18, gv 19, gv 20, gv 21, gv 22, gv 23, gv 24, gv 25, gv 26, gv 27, gv 28, gv 29, gv 30, gv 31, gv 32, gv 33, gv 34, gv 35, gv 36, gv 37, gv 38, gv 39, gv 40, gv 41, gv 42, gv 43, gv 44, gv 45, gv 46, gv 47, gv 48, gv 49, gv 50, gv 51, gv 52, gv 53, gv 54, gv 55, gv 56, gv 57, gv 58, gv 59, gv 60, gv 61, gv 62, gv 63, gv 64, gv 65, gv 66, gv 67, gv 68, gv 69, gv 70, gv 71, gv 72, gv 73, gv 74, gv 75, gv 76, gv 77, gv 78, gv 79, gv 80, gv 81, gv 82, gv 83, gv 84, gv 85, gv 86, gv 87, gv 88, gv 89, gv 90, gv 91, gv 92, gv 93, gv 94, gv 95, gv 96, gv 97, gv 98, gv 99, gv 100, gv 101, gv 102, gv 103, gv 104, gv 105, gv 106, gv 107, gv 108, gv 109, gv 110, gv 111, gv 112, gv 113, gv 114, gv 115, gv 116, gv 117, gv 118, gv 119, gv 120, gv 121, gv 122, gv 123, gv 124, gv 125, gv 126, gv 127, gv 128, gv 129, gv 130, gv 131, gv 132, gv 133, gv 134, gv 135, gv 136]) rfl (fun f gv wx => Below w.heap.size w wx ∧ (∀ j, j < 8 → (fun j => Nat.beq j 7) j = false → On f j → gv (dkN [120, 121, 122, 123, 124, 125, 126, 1007] j) = vkN [.pointer (some ⟨b5, 3, none⟩), .slice (some ⟨g, 0, none⟩) n capg, .pointer (some ⟨b1, 3, none⟩), .slice (some ⟨ba, oa, none⟩) n cap, .pointer (some ⟨ba, oa + 32, none⟩), .agg (Bs y).toArray, .pointer (some ⟨g, 0, none⟩), undef] j) ∧ (Cel wx b1 28 [.int .i64 node, .int .i64 seq, .int .i64 gen, .slice (some ⟨ba, oa, none⟩) n cap, .int .i64 kind, .string s1, .string s2, .int .i64 num]) ∧ (Cel wx b5 28 [.int .i64 node, .int .i64 seq, .int .i64 gen, .slice (some ⟨g, 0, none⟩) n capg, .int .i64 kind, .string s1, .string s2, .int .i64 num]) ∧ ((¬ On f 7 → Cel wx g 36 ([] ++ (Bs x ++ (Bs y ++ R)))) ∧ (On f 7 → Cel wx g 36 ([] ++ (Bs y ++ (Bs y ++ R))))) ∧ (Ids wx (some ⟨ba, oa, none⟩) n cap c.par)) ?_ ?_ ?_
        · have hoff : ∀ j, ¬ On (Array.replicate 8 false) j := by
            intro j hj; simp only [On, Array.getD_eq_getD_getElem?, Array.getElem?_replicate] at hj; split at hj <;> simp at hj
          exact ⟨HB16.out.drew, fun j _ _ x => absurd x (hoff _), HC16.out.step (below_drewNw _ _), HD16.out.step (below_drewNw _ _), ⟨fun _ => HG16.out.step (below_drewNw _ _), fun x => absurd x (hoff _)⟩, HI16.out.below (below_drewNw _ _)⟩
        · rintro i' o' f gv wm hio hs' hn he ⟨hBx, P, QC, QD, QG, QI⟩ KK hKK
          have hi' : i' < 8 := (Array.getElem?_eq_some_iff.1 hio).1
          replace hs' : f.size = 8 := hs'
          match i', hi' with
          | 0, _ =>
            cases hio
            have HQ := Lib.hid (And.intro P (And.intro QC (And.intro QD (And.intro QG QI))))
            clear P QC QD QG QI
            go_simp
            obtain ⟨P, QC, QD, QG, QI⟩ := HQ.out
            have bk : ∀ j, j ≠ 0 → On (f.setIfInBounds 0 true) j → On f j := fun j hj x => on_back (by omega) x hj
            have fw : ∀ j, On f j → On (f.setIfInBounds 0 true) j := fun j x => (on_put (by omega)).2 (.inr x)
            exact hKK (upd gv 120 (.pointer (some ⟨b5, 3, none⟩))) _ (by exact ⟨hBx, vals_step (n := 0) (v := .pointer (some ⟨b5, 3, none⟩)) hD (by decide) (by omega) P (fun _ => rfl), QC, QD, ⟨fun x => QG.1 (fun y => x (fw 7 y)), fun x => QG.2 (bk 7 (by decide) x)⟩, QI⟩)
          | 1, _ =>
            cases hio
            have h0 : On f 0 := he ⟨0, .data⟩ (by simp) rfl
            have e0 : gv 120 = .pointer (some ⟨b5, 3, none⟩) := P 0 (by decide) rfl h0
            have d3 : wm.cell? ⟨b5, 3, none⟩ = some (.slice (some ⟨g, 0, none⟩) n capg) := QD.at 3 _ rfl
            rw [e0]
            have HQ := Lib.hid (And.intro P (And.intro QC (And.intro QD (And.intro QG QI))))
            clear P QC QD QG QI
            go_simp
            obtain ⟨P, QC, QD, QG, QI⟩ := HQ.out
            have bk : ∀ j, j ≠ 1 → On (f.setIfInBounds 1 true) j → On f j := fun j hj x => on_back (by omega) x hj
            have fw : ∀ j, On f j → On (f.setIfInBounds 1 true) j := fun j x => (on_put (by omega)).2 (.inr x)
            exact hKK (upd (upd gv 120 (.pointer (some ⟨b5, 3, none⟩))) 121 (.slice (some ⟨g, 0, none⟩) n capg)) _ (by rw [upd_same e0]; exact ⟨hBx, vals_step (n := 1) (v := .slice (some ⟨g, 0, none⟩) n capg) hD (by decide) (by omega) P (fun _ => rfl), QC, QD, ⟨fun x => QG.1 (fun y => x (fw 7 y)), fun x => QG.2 (bk 7 (by decide) x)⟩, QI⟩)
          | 2, _ =>
            cases hio
            have HQ := Lib.hid (And.intro P (And.intro QC (And.intro QD (And.intro QG QI))))
            clear P QC QD QG QI
            go_simp
            obtain ⟨P, QC, QD, QG, QI⟩ := HQ.out
            have bk : ∀ j, j ≠ 2 → On (f.setIfInBounds 2 true) j → On f j := fun j hj x => on_back (by omega) x hj
            have fw : ∀ j, On f j → On (f.setIfInBounds 2 true) j := fun j x => (on_put (by omega)).2 (.inr x)
            exact hKK (upd gv 122 (.pointer (some ⟨b1, 3, none⟩))) _ (by exact ⟨hBx, vals_step (n := 2) (v := .pointer (some ⟨b1, 3, none⟩)) hD (by decide) (by omega) P (fun _ => rfl), QC, QD, ⟨fun x => QG.1 (fun y => x (fw 7 y)), fun x => QG.2 (bk 7 (by decide) x)⟩, QI⟩)
          | 3, _ =>
            cases hio
            have h2 : On f 2 := he ⟨2, .data⟩ (by simp) rfl
            have e2 : gv 122 = .pointer (some ⟨b1, 3, none⟩) := P 2 (by decide) rfl h2
            have d3 : wm.cell? ⟨b1, 3, none⟩ = some (.slice (some ⟨ba, oa, none⟩) n cap) := QC.at 3 _ rfl
            rw [e2]
            have HQ := Lib.hid (And.intro P (And.intro QC (And.intro QD (And.intro QG QI))))
            clear P QC QD QG QI
            go_simp
            obtain ⟨P, QC, QD, QG, QI⟩ := HQ.out
            have bk : ∀ j, j ≠ 3 → On (f.setIfInBounds 3 true) j → On f j := fun j hj x => on_back (by omega) x hj
            have fw : ∀ j, On f j → On (f.setIfInBounds 3 true) j := fun j x => (on_put (by omega)).2 (.inr x)
            exact hKK (upd (upd gv 122 (.pointer (some ⟨b1, 3, none⟩))) 123 (.slice (some ⟨ba, oa, none⟩) n cap)) _ (by rw [upd_same e2]; exact ⟨hBx, vals_step (n := 3) (v := .slice (some ⟨ba, oa, none⟩) n cap) hD (by decide) (by omega) P (fun _ => rfl), QC, QD, ⟨fun x => QG.1 (fun y => x (fw 7 y)), fun x => QG.2 (bk 7 (by decide) x)⟩, QI⟩)
          | 4, _ =>
            cases hio
            have h3 : On f 3 := he ⟨3, .data⟩ (by simp) rfl
            have e3 : gv 123 = .slice (some ⟨ba, oa, none⟩) n cap := P 3 (by decide) rfl h3
            rw [e3]
            have HQ := Lib.hid (And.intro P (And.intro QC (And.intro QD (And.intro QG QI))))
            clear P QC QD QG QI
            go_simp
            obtain ⟨P, QC, QD, QG, QI⟩ := HQ.out
            have bk : ∀ j, j ≠ 4 → On (f.setIfInBounds 4 true) j → On f j := fun j hj x => on_back (by omega) x hj
            have fw : ∀ j, On f j → On (f.setIfInBounds 4 true) j := fun j x => (on_put (by omega)).2 (.inr x)
            exact hKK (upd (upd gv 123 (.slice (some ⟨ba, oa, none⟩) n cap)) 124 (.pointer (some ⟨ba, oa + 32, none⟩))) _ (by rw [upd_same e3]; exact ⟨hBx, vals_step (n := 4) (v := .pointer (some ⟨ba, oa + 32, none⟩)) hD (by decide) (by omega) P (fun _ => rfl), QC, QD, ⟨fun x => QG.1 (fun y => x (fw 7 y)), fun x => QG.2 (bk 7 (by decide) x)⟩, QI⟩)
          | 5, _ =>
            cases hio
            have h4 : On f 4 := he ⟨4, .data⟩ (by simp) rfl
            have e4 : gv 124 = .pointer (some ⟨ba, oa + 32, none⟩) := P 4 (by decide) rfl h4
            have hrg : wm.rangeAt ba (oa + 32) (Bs y) := by
              rcases QI.cells with h0 | ⟨b9, o9, e9, hc⟩
              · omega
              · cases e9
                have h9 := hc 1 (by omega)
                rw [HP.out] at h9
                simpa using h9
            rw [e4]
            have HQ := Lib.hid (And.intro P (And.intro QC (And.intro QD (And.intro QG QI))))
            clear P QC QD QG QI
            refine rng_load (by rfl) 125 rfl 36 (.tmp 124) rfl (by rfl) (Bs y) _ hrg under_ids rfl (info_x HXY.out.2.1) ?_
            simp only [List.setIfInBounds_toArray]
            obtain ⟨P, QC, QD, QG, QI⟩ := HQ.out
            have bk : ∀ j, j ≠ 5 → On (f.setIfInBounds 5 true) j → On f j := fun j hj x => on_back (by omega) x hj
            have fw : ∀ j, On f j → On (f.setIfInBounds 5 true) j := fun j x => (on_put (by omega)).2 (.inr x)
            exact hKK (upd (upd gv 124 (.pointer (some ⟨ba, oa + 32, none⟩))) 125 (.agg (Bs y).toArray)) _ (by rw [upd_same e4]; exact ⟨hBx, vals_step (n := 5) (v := .agg (Bs y).toArray) hD (by decide) (by omega) P (fun _ => rfl), QC, QD, ⟨fun x => QG.1 (fun y => x (fw 7 y)), fun x => QG.2 (bk 7 (by decide) x)⟩, QI⟩)
          | 6, _ =>
            cases hio
            have h1 : On f 1 := he ⟨1, .data⟩ (by simp) rfl
            have e1 : gv 121 = .slice (some ⟨g, 0, none⟩) n capg := P 1 (by decide) rfl h1
            rw [e1]
            have HQ := Lib.hid (And.intro P (And.intro QC (And.intro QD (And.intro QG QI))))
            clear P QC QD QG QI
            go_simp
            obtain ⟨P, QC, QD, QG, QI⟩ := HQ.out
            have bk : ∀ j, j ≠ 6 → On (f.setIfInBounds 6 true) j → On f j := fun j hj x => on_back (by omega) x hj
            have fw : ∀ j, On f j → On (f.setIfInBounds 6 true) j := fun j x => (on_put (by omega)).2 (.inr x)
            exact hKK (upd (upd gv 121 (.slice (some ⟨g, 0, none⟩) n capg)) 126 (.pointer (some ⟨g, 0, none⟩))) _ (by rw [upd_same e1]; exact ⟨hBx, vals_step (n := 6) (v := .pointer (some ⟨g, 0, none⟩)) hD (by decide) (by omega) P (fun _ => rfl), QC, QD, ⟨fun x => QG.1 (fun y => x (fw 7 y)), fun x => QG.2 (bk 7 (by decide) x)⟩, QI⟩)
          | 7, _ =>
            cases hio
            have off : ¬ On f 7 := on_off (by omega) hn
            have h5 : On f 5 := he ⟨5, .data⟩ (by simp) rfl
            have e5 : gv 125 = .agg (Bs y).toArray := P 5 (by decide) rfl h5
            have h6 : On f 6 := he ⟨6, .data⟩ (by simp) rfl
            have e6 : gv 126 = .pointer (some ⟨g, 0, none⟩) := P 6 (by decide) rfl h6
            have hq := QG.1 off
            rw [e5, e6]
            have HQ := Lib.hid (And.intro P (And.intro QC (And.intro QD (And.intro QG QI))))
            clear P QC QD QG QI
            refine mid_store (by rfl) rfl 36 (.tmp 126) (.tmp 125) rfl (by rfl) (Bs y) (by rfl) hq rfl ?_ ?_ (Bs_one _) ?_
            · rw [Bs_length, Bs_length, HXY.out.1, HXY.out.2.1]
            · exact info_x HXY.out.2.1
            intro w6 hc6 ho6
            have hxx := HS15.out
            obtain ⟨P, QC, QD, QG, QI⟩ := HQ.out
            have fn : On (f.setIfInBounds 7 true) 7 := (on_put (by omega)).2 (.inl rfl)
            exact hKK (upd (upd gv 125 (.agg (Bs y).toArray)) 126 (.pointer (some ⟨g, 0, none⟩))) _ (by rw [upd_same e5]; rw [upd_same e6]; exact ⟨ho6.below hBx (by omega), vals_keep (n := 7) (by omega) rfl P, ho6.heap QC (by omega), ho6.heap QD (by omega), ⟨fun x => absurd fn x, fun _ => hc6⟩, QI.only ho6 (fun z hz => by injection hz with hz; rw [← hz]; show ba ≠ g; omega)⟩)
        · rintro f gv w5 hall hs' ⟨hBx, P, QC, QD, QG, QI⟩
          replace hs' : f.size = 8 := hs'
          have on : ∀ j, j < 8 → On f j := fun j hj => on_all hall hs' j hj
          have HG18 := Lib.hid (QG.2 (on 7 (by decide)))
          have HC18 := Lib.hid QC
          have HD18 := Lib.hid QD
          have HI18 := Lib.hid QI
          have HB18 := Lib.hid hBx
          clear P QC QD QG QI hBx hall hs' on hD
          go_upto_region 19 with fail
          have hD : ∀ j, j < 8 → ∀ n, n < 8 → j ≠ n → dkN [127, 128, 129, 130, 131, 132, 133, 1007] j ≠ dkN [127, 128, 129, 130, 131, 132, 133, 1007] n := by decide +kernel
          refine region_fun (by kernel_rfl) (by kernel_rfl) (fun gv => #[gv 0, gv 1, gv 2, .pointer (some ⟨b1, 0, none⟩), gv 4, gv 5, gv 6, gv 7, gv 8, gv 9, gv 10, gv 11, gv 12, gv 13, gv 14, gv 15, gv 16, .pointer (some ⟨b5, 0, none⟩), gv 18, gv 19, gv 20, gv 21, gv 22, gv 23, gv 24, gv 25, gv 26, gv 27, gv 28, gv 29, gv 30, gv 31, gv 32, gv 33, gv 34, gv 35, gv 36, gv 37, gv 38, gv 39, gv 40, gv 41, gv 42, gv 43, gv 44, gv 45, gv 46, gv 47, gv 48, gv 49, gv 50, gv 51, gv 52, gv 53, gv 54, gv 55, gv 56, gv 57, gv 58, gv 59, gv 60, gv 61, gv 62, gv 63, gv 64, gv 65, gv 66, gv 67, gv 68, gv 69, gv 70, gv 71, gv 72, gv 73, gv 74, gv 75, gv 76, gv 77, gv 78, gv 79, gv 80, gv 81, gv 82, gv 83, gv 84, gv 85, gv 86, gv 87, gv 88, gv 89, gv 90, gv 91, gv 92, gv 93, gv 94, gv 95, gv 96, gv 97, gv 98, gv 99, gv 100, gv 101, gv 102, gv 103, gv 104, gv 105, gv 106, gv 107, gv 108, gv 109, gv 110, gv 111, gv 112, gv 113, gv 114, gv 115, gv 116, gv 117, gv 118, gv 119, gv 120, gv 121, gv 122, gv 123, gv 124, gv 125, gv 126, gv 127, gv 128, gv 129, gv 130, gv 131, gv 132, gv 133, gv 134, gv 135, gv 136]) rfl (fun f gv wx => Below w.heap.size w wx ∧ (∀ j, j < 8 → (fun j => Nat.beq j 7) j = false → On f j → gv (dkN [127, 128, 129, 130, 131, 132, 133, 1007] j) = vkN [.pointer (some ⟨b5, 3, none⟩), .slice (some ⟨g, 0, none⟩) n capg, .pointer (some ⟨b1, 3, none⟩), .slice (some ⟨ba, oa, none⟩) n cap, .pointer (some ⟨ba, oa, none⟩), .agg (Bs x).toArray, .pointer (some ⟨g, 32, none⟩), undef] j) ∧ (Cel wx b1 28 [.int .i64 node, .int .i64 seq, .int .i64 gen, .slice (some ⟨ba, oa, none⟩) n cap, .int .i64 kind, .string s1, .string s2, .int .i64 num]) ∧ (Cel wx b5 28 [.int .i64 node, .int .i64 seq, .int .i64 gen, .slice (some ⟨g, 0, none⟩) n capg, .int .i64 kind, .string s1, .string s2, .int .i64 num]) ∧ ((¬ On f 7 → Cel wx g 36 (Bs y ++ (Bs y ++ R))) ∧ (On f 7 → Cel wx g 36 (Bs y ++ (Bs x ++ R)))) ∧ (Ids wx (some ⟨ba, oa, none⟩) n cap c.par)) ?_ ?_ ?_
          · have hoff : ∀ j, ¬ On (Array.replicate 8 false) j := by
              intro j hj; simp only [On, Array.getD_eq_getD_getElem?, Array.getElem?_replicate] at hj; split at hj <;> simp at hj
            exact ⟨HB18.out.drew, fun j _ _ x => absurd x (hoff _), HC18.out.step (below_drewNw _ _), HD18.out.step (below_drewNw _ _), ⟨fun _ => HG18.out.step (below_drewNw _ _), fun x => absurd x (hoff _)⟩, HI18.out.below (below_drewNw _ _)⟩
          · rintro i' o' f gv wm hio hs' hn he ⟨hBx, P, QC, QD, QG, QI⟩ KK hKK
            have hi' : i' < 8 := (Array.getElem?_eq_some_iff.1 hio).1
            replace hs' : f.size = 8 := hs'
            match i', hi' with
            | 0, _ =>
              cases hio
              have HQ := Lib.hid (And.intro P (And.intro QC (And.intro QD (And.intro QG QI))))
              clear P QC QD QG QI
              go_simp
              obtain ⟨P, QC, QD, QG, QI⟩ := HQ.out
              have bk : ∀ j, j ≠ 0 → On (f.setIfInBounds 0 true) j → On f j := fun j hj x => on_back (by omega) x hj
              have fw : ∀ j, On f j → On (f.setIfInBounds 0 true) j := fun j x => (on_put (by omega)).2 (.inr x)
              exact hKK (upd gv 127 (.pointer (some ⟨b5, 3, none⟩))) _ (by exact ⟨hBx, vals_step (n := 0) (v := .pointer (some ⟨b5, 3, none⟩)) hD (by decide) (by omega) P (fun _ => rfl), QC, QD, ⟨fun x => QG.1 (fun y => x (fw 7 y)), fun x => QG.2 (bk 7 (by decide) x)⟩, QI⟩)
            | 1, _ =>
              cases hio
              have h0 : On f 0 := he ⟨0, .data⟩ (by simp) rfl
              have e0 : gv 127 = .pointer (some ⟨b5, 3, none⟩) := P 0 (by decide) rfl h0
              have d3 : wm.cell? ⟨b5, 3, none⟩ = some (.slice (some ⟨g, 0, none⟩) n capg) := QD.at 3 _ rfl
              rw [e0]
              have HQ := Lib.hid (And.intro P (And.intro QC (And.intro QD (And.intro QG QI))))
              clear P QC QD QG QI
              go_simp
              obtain ⟨P, QC, QD, QG, QI⟩ := HQ.out
              have bk : ∀ j, j ≠ 1 → On (f.setIfInBounds 1 true) j → On f j := fun j hj x => on_back (by omega) x hj
              have fw : ∀ j, On f j → On (f.setIfInBounds 1 true) j := fun j x => (on_put (by omega)).2 (.inr x)
              exact hKK (upd (upd gv 127 (.pointer (some ⟨b5, 3, none⟩))) 128 (.slice (some ⟨g, 0, none⟩) n capg)) _ (by rw [upd_same e0]; exact ⟨hBx, vals_step (n := 1) (v := .slice (some ⟨g, 0, none⟩) n capg) hD (by decide) (by omega) P (fun _ => rfl), QC, QD, ⟨fun x => QG.1 (fun y => x (fw 7 y)), fun x => QG.2 (bk 7 (by decide) x)⟩, QI⟩)
            | 2, _ =>
              cases hio
              have HQ := Lib.hid (And.intro P (And.intro QC (And.intro QD (And.intro QG QI))))
              clear P QC QD QG QI
              go_simp
              obtain ⟨P, QC, QD, QG, QI⟩ := HQ.out
              have bk : ∀ j, j ≠ 2 → On (f.setIfInBounds 2 true) j → On f j := fun j hj x => on_back (by omega) x hj
              have fw : ∀ j, On f j → On (f.setIfInBounds 2 true) j := fun j x => (on_put (by omega)).2 (.inr x)
              exact hKK (upd gv 129 (.pointer (some ⟨b1, 3, none⟩))) _ (by exact ⟨hBx, vals_step (n := 2) (v := .pointer (some ⟨b1, 3, none⟩)) hD (by decide) (by omega) P (fun _ => rfl), QC, QD, ⟨fun x => QG.1 (fun y => x (fw 7 y)), fun x => QG.2 (bk 7 (by decide) x)⟩, QI⟩)
            | 3, _ =>
              cases hio
              have h2 : On f 2 := he ⟨2, .data⟩ (by simp) rfl
              have e2 : gv 129 = .pointer (some ⟨b1, 3, none⟩) := P 2 (by decide) rfl h2
              have d3 : wm.cell? ⟨b1, 3, none⟩ = some (.slice (some ⟨ba, oa, none⟩) n cap) := QC.at 3 _ rfl
              rw [e2]
              have HQ := Lib.hid (And.intro P (And.intro QC (And.intro QD (And.intro QG QI))))
              clear P QC QD QG QI
              go_simp
              obtain ⟨P, QC, QD, QG, QI⟩ := HQ.out
              have bk : ∀ j, j ≠ 3 → On (f.setIfInBounds 3 true) j → On f j := fun j hj x => on_back (by omega) x hj
              have fw : ∀ j, On f j → On (f.setIfInBounds 3 true) j := fun j x => (on_put (by omega)).2 (.inr x)
              exact hKK (upd (upd gv 129 (.pointer (some ⟨b1, 3, none⟩))) 130 (.slice (some ⟨ba, oa, none⟩) n cap)) _ (by rw [upd_same e2]; exact ⟨hBx, vals_step (n := 3) (v := .slice (some ⟨ba, oa, none⟩) n cap) hD (by decide) (by omega) P (fun _ => rfl), QC, QD, ⟨fun x => QG.1 (fun y => x (fw 7 y)), fun x => QG.2 (bk 7 (by decide) x)⟩, QI⟩)
            | 4, _ =>
              cases hio
              have h3 : On f 3 := he ⟨3, .data⟩ (by simp) rfl
              have e3 : gv 130 = .slice (some ⟨ba, oa, none⟩) n cap := P 3 (by decide) rfl h3
              rw [e3]
              have HQ := Lib.hid (And.intro P (And.intro QC (And.intro QD (And.intro QG QI))))
              clear P QC QD QG QI
              go_simp
              obtain ⟨P, QC, QD, QG, QI⟩ := HQ.out
              have bk : ∀ j, j ≠ 4 → On (f.setIfInBounds 4 true) j → On f j := fun j hj x => on_back (by omega) x hj
              have fw : ∀ j, On f j → On (f.setIfInBounds 4 true) j := fun j x => (on_put (by omega)).2 (.inr x)
              exact hKK (upd (upd gv 130 (.slice (some ⟨ba, oa, none⟩) n cap)) 131 (.pointer (some ⟨ba, oa, none⟩))) _ (by rw [upd_same e3]; exact ⟨hBx, vals_step (n := 4) (v := .pointer (some ⟨ba, oa, none⟩)) hD (by decide) (by omega) P (fun _ => rfl), QC, QD, ⟨fun x => QG.1 (fun y => x (fw 7 y)), fun x => QG.2 (bk 7 (by decide) x)⟩, QI⟩)
            | 5, _ =>
              cases hio
              have h4 : On f 4 := he ⟨4, .data⟩ (by simp) rfl
              have e4 : gv 131 = .pointer (some ⟨ba, oa, none⟩) := P 4 (by decide) rfl h4
              have hrg : wm.rangeAt ba (oa) (Bs x) := by
                rcases QI.cells with h0 | ⟨b9, o9, e9, hc⟩
                · omega
                · cases e9
                  have h9 := hc 0 (by omega)
                  rw [HP.out] at h9
                  simpa using h9
              rw [e4]
              have HQ := Lib.hid (And.intro P (And.intro QC (And.intro QD (And.intro QG QI))))
              clear P QC QD QG QI
              refine rng_load (by rfl) 132 rfl 36 (.tmp 131) rfl (by rfl) (Bs x) _ hrg under_ids rfl (info_x HXY.out.1) ?_
              simp only [List.setIfInBounds_toArray]
              obtain ⟨P, QC, QD, QG, QI⟩ := HQ.out
              have bk : ∀ j, j ≠ 5 → On (f.setIfInBounds 5 true) j → On f j := fun j hj x => on_back (by omega) x hj
              have fw : ∀ j, On f j → On (f.setIfInBounds 5 true) j := fun j x => (on_put (by omega)).2 (.inr x)
              exact hKK (upd (upd gv 131 (.pointer (some ⟨ba, oa, none⟩))) 132 (.agg (Bs x).toArray)) _ (by rw [upd_same e4]; exact ⟨hBx, vals_step (n := 5) (v := .agg (Bs x).toArray) hD (by decide) (by omega) P (fun _ => rfl), QC, QD, ⟨fun x => QG.1 (fun y => x (fw 7 y)), fun x => QG.2 (bk 7 (by decide) x)⟩, QI⟩)
            | 6, _ =>
              cases hio
              have h1 : On f 1 := he ⟨1, .data⟩ (by simp) rfl
              have e1 : gv 128 = .slice (some ⟨g, 0, none⟩) n capg := P 1 (by decide) rfl h1
              rw [e1]
              have HQ := Lib.hid (And.intro P (And.intro QC (And.intro QD (And.intro QG QI))))
              clear P QC QD QG QI
              go_simp
              obtain ⟨P, QC, QD, QG, QI⟩ := HQ.out
              have bk : ∀ j, j ≠ 6 → On (f.setIfInBounds 6 true) j → On f j := fun j hj x => on_back (by omega) x hj
              have fw : ∀ j, On f j → On (f.setIfInBounds 6 true) j := fun j x => (on_put (by omega)).2 (.inr x)
              exact hKK (upd (upd gv 128 (.slice (some ⟨g, 0, none⟩) n capg)) 133 (.pointer (some ⟨g, 32, none⟩))) _ (by rw [upd_same e1]; exact ⟨hBx, vals_step (n := 6) (v := .pointer (some ⟨g, 32, none⟩)) hD (by decide) (by omega) P (fun _ => rfl), QC, QD, ⟨fun x => QG.1 (fun y => x (fw 7 y)), fun x => QG.2 (bk 7 (by decide) x)⟩, QI⟩)
            | 7, _ =>
              cases hio
              have off : ¬ On f 7 := on_off (by omega) hn
              have h5 : On f 5 := he ⟨5, .data⟩ (by simp) rfl
              have e5 : gv 132 = .agg (Bs x).toArray := P 5 (by decide) rfl h5
              have h6 : On f 6 := he ⟨6, .data⟩ (by simp) rfl
              have e6 : gv 133 = .pointer (some ⟨g, 32, none⟩) := P 6 (by decide) rfl h6
              have hq := QG.1 off
              rw [e5, e6]
              have HQ := Lib.hid (And.intro P (And.intro QC (And.intro QD (And.intro QG QI))))
              clear P QC QD QG QI
              refine mid_store (by rfl) rfl 36 (.tmp 133) (.tmp 132) rfl (by rfl) (Bs x) (by rfl) hq (by rw [Bs_length]; exact HXY.out.2.1) ?_ ?_ (Bs_one _) ?_
              · rw [Bs_length, Bs_length, HXY.out.1, HXY.out.2.1]
              · exact info_x HXY.out.1
              intro w6 hc6 ho6
              have hxx := HS15.out
              obtain ⟨P, QC, QD, QG, QI⟩ := HQ.out
              have fn : On (f.setIfInBounds 7 true) 7 := (on_put (by omega)).2 (.inl rfl)
              exact hKK (upd (upd gv 132 (.agg (Bs x).toArray)) 133 (.pointer (some ⟨g, 32, none⟩))) _ (by rw [upd_same e5]; rw [upd_same e6]; exact ⟨ho6.below hBx (by omega), vals_keep (n := 7) (by omega) rfl P, ho6.heap QC (by omega), ho6.heap QD (by omega), ⟨fun x => absurd fn x, fun _ => hc6⟩, QI.only ho6 (fun z hz => by injection hz with hz; rw [← hz]; show ba ≠ g; omega)⟩)
          · rintro f gv w5 hall hs' ⟨hBx, P, QC, QD, QG, QI⟩
            replace hs' : f.size = 8 := hs'
            have on : ∀ j, j < 8 → On f j := fun j hj => on_all hall hs' j hj
            have HG19 := Lib.hid (QG.2 (on 7 (by decide)))
            have HD19 := Lib.hid QD
            have HB19 := Lib.hid hBx
            clear P QC QD QG QI hBx hall hs' on hD
            have HIS := Lib.hid (show Ids w5 (some ⟨g, 0, none⟩) n capg (y :: x :: r) from Ids.of_cel (rest := rest) (t := 36) (by have := HG19.out; rw [HR.out] at this; simpa [Bs, List.map_append, List.append_assoc] using this) (by rw [HN.out, HP.out]; rfl) (fun z hz => by
              have := HXY.out
              simp only [List.mem_cons] at hz
              rcases hz with rfl | rfl | hz
              · exact this.2.1
              · exact this.1
              · exact this.2.2 z hz) HCP.out.1 HCP.out.2)
            have p0 : w5.cell? ⟨b5, 0, none⟩ = some (.int .i64 node) := HD19.out.at 0 _ rfl
            have p1 : w5.cell? ⟨b5, 1, none⟩ = some (.int .i64 seq) := HD19.out.at 1 _ rfl
            have p2 : w5.cell? ⟨b5, 2, none⟩ = some (.int .i64 gen) := HD19.out.at 2 _ rfl
            have p3 : w5.cell? ⟨b5, 3, none⟩ = some (.slice (some ⟨g, 0, none⟩) n capg) := HD19.out.at 3 _ rfl
            have p4 : w5.cell? ⟨b5, 4, none⟩ = some (.int .i64 kind) := HD19.out.at 4 _ rfl
            have p5 : w5.cell? ⟨b5, 5, none⟩ = some (.string s1) := HD19.out.at 5 _ rfl
            have p6 : w5.cell? ⟨b5, 6, none⟩ = some (.string s2) := HD19.out.at 6 _ rfl
            have p7 : w5.cell? ⟨b5, 7, none⟩ = some (.int .i64 num) := HD19.out.at 7 _ rfl
            go_wp2_with fail
            refine (HMS.out _ g capg x y r HP.out (by first | rfl | trivial) HIS.out).mono ?_
            rintro e w20 ⟨rfl, hb⟩
            have HB20 := Lib.hid (HB19.out.step hb)
            go_wp2_with fail
            go_ret
            exact ⟨rfl, HB20.out⟩
    | false =>
      rw [if_neg (by decide)] at hpb
      obtain ⟨rfl, hb⟩ := hpb
      have HC12 := Lib.hid (HC11.out.step hb)
      have HO12 := Lib.hid (HO11.out.step hb)
      have HB12 := Lib.hid (HB11.out.step hb)
      have HX12 := Lib.hid (HX11.out.below hb)
      clear hb r0 r1 r2 r3 r4 r5 r6 r7
      go_upto_region 12 with fail
      have hD : ∀ j, j < 41 → ∀ n, n < 41 → j ≠ n → dkN [70, 71, 72, 73, 74, 75, 76, 77, 78, 79, 80, 81, 82, 83, 84, 85, 86, 87, 88, 89, 90, 91, 92, 93, 94, 95, 96, 97, 98, 99, 100, 101, 102, 103, 104, 105, 106, 107, 108, 109, 110] j ≠ dkN [70, 71, 72, 73, 74, 75, 76, 77, 78, 79, 80, 81, 82, 83, 84, 85, 86, 87, 88, 89, 90, 91, 92, 93, 94, 95, 96, 97, 98, 99, 100, 101, 102, 103, 104, 105, 106, 107, 108, 109, 110] n := by decide +kernel
      refine region_fun (by kernel_rfl) (by kernel_rfl) (fun gv => #[gv 0, gv 1, .int .i64 sq, .pointer (some ⟨b1, 0, none⟩), .pointer (some ⟨b2, 0, none⟩), gv 5, gv 6, gv 7, gv 8, .slice a5 lx c5, gv 10, gv 11, .slice none 0 0, .int .i64 1, gv 14, .slice none 0 0, .int .i64 1, gv 17, gv 18, gv 19, gv 20, gv 21, gv 22, gv 23, gv 24, gv 25, gv 26, gv 27, gv 28, gv 29, gv 30, gv 31, gv 32, gv 33, gv 34, gv 35, gv 36, gv 37, gv 38, gv 39, gv 40, gv 41, gv 42, gv 43, gv 44, gv 45, gv 46, gv 47, gv 48, gv 49, gv 50, gv 51, gv 52, gv 53, gv 54, gv 55, gv 56, gv 57, gv 58, gv 59, gv 60, gv 61, gv 62, gv 63, gv 64, gv 65, gv 66, gv 67, gv 68, gv 69, gv 70, gv 71, gv 72, gv 73, gv 74, gv 75, gv 76, gv 77, gv 78, gv 79, gv 80, gv 81, gv 82, gv 83, gv 84, gv 85, gv 86, gv 87, gv 88, gv 89, gv 90, gv 91, gv 92, gv 93, gv 94, gv 95, gv 96, gv 97, gv 98, gv 99, gv 100, gv 101, gv 102, gv 103, gv 104, gv 105, gv 106, gv 107, gv 108, gv 109, gv 110, gv 111, gv 112, gv 113, gv 114, gv 115, gv 116, gv 117, gv 118, gv 119, gv 120, gv 121, gv 122, gv 123, gv 124, gv 125, gv 126, gv 127, gv 128, gv 129, gv 130, gv 131, gv 132, gv 133, gv 134, gv 135, gv 136]) rfl (fun f gv wx => Below w12.heap.size w12 wx ∧ (∀ j, j < 41 → (fun j => false) j = false → On f j → gv (dkN [70, 71, 72, 73, 74, 75, 76, 77, 78, 79, 80, 81, 82, 83, 84, 85, 86, 87, 88, 89, 90, 91, 92, 93, 94, 95, 96, 97, 98, 99, 100, 101, 102, 103, 104, 105, 106, 107, 108, 109, 110] j) = vkN [.slice a5 lx c5, .int .i64 (lx : Int), .pointer (some ⟨b1, 3, none⟩), .slice a n cap, .int .i64 (n : Int), .int .i64 (32 * (n : Int)), .int .i64 (32 * (n : Int) + 7), .bool false, .bool false, .int .i64 1, .bool false, .bool false, undef, undef, undef, undef, undef, undef, undef, undef, undef, undef, .bool false, .bool false, .bool false, .int .i64 1, .bool false, .bool false, undef, undef, undef, undef, undef, undef, undef, undef, undef, undef, undef, .bool false, .bool false] j) ∧ (Cel wx b1 28 [.int .i64 node, .int .i64 seq, .int .i64 gen, .slice a n cap, .int .i64 kind, .string s1, .string s2, .int .i64 num]) ∧ (Cel wx b2 26 [.int .i64 ki, .string t1, .string t2, .int .i64 nu]) ∧ (Rd wx a5 lx c5 X)) ?_ ?_ ?_
      · have hoff : ∀ j, ¬ On (Array.replicate 41 false) j := by
          intro j hj; simp only [On, Array.getD_eq_getD_getElem?, Array.getElem?_replicate] at hj; split at hj <;> simp at hj
        exact ⟨(Below.refl _ _).drew, fun j _ _ x => absurd x (hoff _), HC12.out.step (below_drewNw _ _), HO12.out.step (below_drewNw _ _), HX12.out.below (below_drewNw _ _)⟩
      · rintro i' o' f gv wm hio hs' hn he ⟨hBx, P, QC, QO, QX⟩ KK hKK
        have hi' : i' < 41 := (Array.getElem?_eq_some_iff.1 hio).1
        replace hs' : f.size = 41 := hs'
        match i', hi' with
        | 0, _ =>
          cases hio
          have HQ := Lib.hid (And.intro P (And.intro QC (And.intro QO QX)))
          clear P QC QO QX
          go_simp
          obtain ⟨P, QC, QO, QX⟩ := HQ.out
          exact hKK (upd gv 70 (.slice a5 lx c5)) _ (by exact ⟨hBx, vals_step (n := 0) (v := .slice a5 lx c5) hD (by decide) (by omega) P (fun _ => rfl), QC, QO, QX⟩)
        | 1, _ =>
          cases hio
          have h0 : On f 0 := he ⟨0, .data⟩ (by simp) rfl
          have e0 : gv 70 = .slice a5 lx c5 := P 0 (by decide) rfl h0
          rw [e0]
          have HQ := Lib.hid (And.intro P (And.intro QC (And.intro QO QX)))
          clear P QC QO QX
          go_simp
          obtain ⟨P, QC, QO, QX⟩ := HQ.out
          exact hKK (upd (upd gv 70 (.slice a5 lx c5)) 71 (.int .i64 (lx : Int))) _ (by rw [upd_same e0]; exact ⟨hBx, vals_step (n := 1) (v := .int .i64 (lx : Int)) hD (by decide) (by omega) P (fun _ => rfl), QC, QO, QX⟩)
        | 2, _ =>
          cases hio
          have HQ := Lib.hid (And.intro P (And.intro QC (And.intro QO QX)))
          clear P QC QO QX
          go_simp
          obtain ⟨P, QC, QO, QX⟩ := HQ.out
          exact hKK (upd gv 72 (.pointer (some ⟨b1, 3, none⟩))) _ (by exact ⟨hBx, vals_step (n := 2) (v := .pointer (some ⟨b1, 3, none⟩)) hD (by decide) (by omega) P (fun _ => rfl), QC, QO, QX⟩)
        | 3, _ =>
          cases hio
          have h2 : On f 2 := he ⟨2, .data⟩ (by simp) rfl
          have e2 : gv 72 = .pointer (some ⟨b1, 3, none⟩) := P 2 (by decide) rfl h2
          have d3 : wm.cell? ⟨b1, 3, none⟩ = some (.slice a n cap) := QC.at 3 _ rfl
          rw [e2]
          have HQ := Lib.hid (And.intro P (And.intro QC (And.intro QO QX)))
          clear P QC QO QX
          go_simp
          obtain ⟨P, QC, QO, QX⟩ := HQ.out
          exact hKK (upd (upd gv 72 (.pointer (some ⟨b1, 3, none⟩))) 73 (.slice a n cap)) _ (by rw [upd_same e2]; exact ⟨hBx, vals_step (n := 3) (v := .slice a n cap) hD (by decide) (by omega) P (fun _ => rfl), QC, QO, QX⟩)
        | 4, _ =>
          cases hio
          have h3 : On f 3 := he ⟨3, .data⟩ (by simp) rfl
          have e3 : gv 73 = .slice a n cap := P 3 (by decide) rfl h3
          rw [e3]
          have HQ := Lib.hid (And.intro P (And.intro QC (And.intro QO QX)))
          clear P QC QO QX
          go_simp
          obtain ⟨P, QC, QO, QX⟩ := HQ.out
          exact hKK (upd (upd gv 73 (.slice a n cap)) 74 (.int .i64 (n : Int))) _ (by rw [upd_same e3]; exact ⟨hBx, vals_step (n := 4) (v := .int .i64 (n : Int)) hD (by decide) (by omega) P (fun _ => rfl), QC, QO, QX⟩)
        | 5, _ =>
          cases hio
          have h4 : On f 4 := he ⟨4, .data⟩ (by simp) rfl
          have e4 : gv 74 = .int .i64 (n : Int) := P 4 (by decide) rfl h4
          have hw5 : IntKind.i64.wrap (32 * (n : Int)) = 32 * (n : Int) := by rw [IntWalk.i64_in _ ⟨by omega, by omega⟩]
          rw [e4]
          have HQ := Lib.hid (And.intro P (And.intro QC (And.intro QO QX)))
          clear P QC QO QX
          go_simp
          obtain ⟨P, QC, QO, QX⟩ := HQ.out
          exact hKK (upd (upd gv 74 (.int .i64 (n : Int))) 75 (.int .i64 (32 * (n : Int)))) _ (by rw [upd_same e4]; exact ⟨hBx, vals_step (n := 5) (v := .int .i64 (32 * (n : Int))) hD (by decide) (by omega) P (fun _ => rfl), QC, QO, QX⟩)
        | 6, _ =>
          cases hio
          have h5 : On f 5 := he ⟨5, .data⟩ (by simp) rfl
          have e5 : gv 75 = .int .i64 (32 * (n : Int)) := P 5 (by decide) rfl h5
          have hw5 : IntKind.i64.wrap (32 * (n : Int) + 7) = 32 * (n : Int) + 7 := by rw [IntWalk.i64_in _ ⟨by omega, by omega⟩]
          rw [e5]
          have HQ := Lib.hid (And.intro P (And.intro QC (And.intro QO QX)))
          clear P QC QO QX
          go_simp
          obtain ⟨P, QC, QO, QX⟩ := HQ.out
          exact hKK (upd (upd gv 75 (.int .i64 (32 * (n : Int)))) 76 (.int .i64 (32 * (n : Int) + 7))) _ (by rw [upd_same e5]; exact ⟨hBx, vals_step (n := 6) (v := .int .i64 (32 * (n : Int) + 7)) hD (by decide) (by omega) P (fun _ => rfl), QC, QO, QX⟩)
        | 7, _ =>
          cases hio
          have h1 : On f 1 := he ⟨1, .data⟩ (by simp) rfl
          have e1 : gv 71 = .int .i64 (lx : Int) := P 1 (by decide) rfl h1
          have h6 : On f 6 := he ⟨6, .data⟩ (by simp) rfl
          have e6 : gv 76 = .int .i64 (32 * (n : Int) + 7) := P 6 (by decide) rfl h6
          have hq : ¬ (lx : Int) < 32 * (n : Int) + 7 := by have := HLX.out; omega
          rw [e1, e6]
          have HQ := Lib.hid (And.intro P (And.intro QC (And.intro QO QX)))
          clear P QC QO QX
          go_simp
          obtain ⟨P, QC, QO, QX⟩ := HQ.out
          exact hKK (upd (upd (upd gv 71 (.int .i64 (lx : Int))) 76 (.int .i64 (32 * (n : Int) + 7))) 77 (.bool false)) _ (by rw [upd_same e1]; rw [upd_same e6]; exact ⟨hBx, vals_step (n := 7) (v := .bool false) hD (by decide) (by omega) P (fun _ => rfl), QC, QO, QX⟩)
        | 8, _ =>
          cases hio
          have h7 : On f 7 := he ⟨7, .data⟩ (by simp) rfl
          have e7 : gv 77 = .bool false := P 7 (by decide) rfl h7
          rw [e7]
          have HQ := Lib.hid (And.intro P (And.intro QC (And.intro QO QX)))
          clear P QC QO QX
          go_simp
          obtain ⟨P, QC, QO, QX⟩ := HQ.out
          exact hKK (upd (upd gv 77 (.bool false)) 78 (.bool false)) _ (by rw [upd_same e7]; exact ⟨hBx, vals_step (n := 8) (v := .bool false) hD (by decide) (by omega) P (fun _ => rfl), QC, QO, QX⟩)
        | 9, _ =>
          cases hio
          have h8 : On f 8 := he ⟨8, .guard⟩ (by simp) rfl
          have e8 : gv 78 = .bool false := P 8 (by decide) rfl h8
          rw [e8]
          rw [if_pos (by rfl)]
          have HQ := Lib.hid (And.intro P (And.intro QC (And.intro QO QX)))
          clear P QC QO QX
          go_simp
          obtain ⟨P, QC, QO, QX⟩ := HQ.out
          exact hKK (upd (upd gv 78 (.bool false)) 79 (.int .i64 1)) _ (by rw [upd_same e8]; exact ⟨hBx, vals_step (n := 9) (v := .int .i64 1) hD (by decide) (by omega) P (fun _ => rfl), QC, QO, QX⟩)
        | 10, _ =>
          cases hio
          have h8 : On f 8 := he ⟨8, .guard⟩ (by simp) rfl
          have e8 : gv 78 = .bool false := P 8 (by decide) rfl h8
          have h9 : On f 9 := he ⟨9, .data⟩ (by simp) rfl
          have e9 : gv 79 = .int .i64 1 := P 9 (by decide) rfl h9
          rw [e8, e9]
          rw [if_pos (by rfl)]
          have HQ := Lib.hid (And.intro P (And.intro QC (And.intro QO QX)))
          clear P QC QO QX
          go_simp
          obtain ⟨P, QC, QO, QX⟩ := HQ.out
          exact hKK (upd (upd (upd gv 78 (.bool false)) 79 (.int .i64 1)) 80 (.bool false)) _ (by rw [upd_same e8]; rw [upd_same e9]; exact ⟨hBx, vals_step (n := 10) (v := .bool false) hD (by decide) (by omega) P (fun _ => rfl), QC, QO, QX⟩)
        | 11, _ =>
          cases hio
          have h8 : On f 8 := he ⟨8, .guard⟩ (by simp) rfl
          have e8 : gv 78 = .bool false := P 8 (by decide) rfl h8
          have h10 : On f 10 := he ⟨10, .data⟩ (by simp) rfl
          have e10 : gv 80 = .bool false := P 10 (by decide) rfl h10
          rw [e8, e10]
          rw [if_pos (by rfl)]
          have HQ := Lib.hid (And.intro P (And.intro QC (And.intro QO QX)))
          clear P QC QO QX
          go_simp
          obtain ⟨P, QC, QO, QX⟩ := HQ.out
          exact hKK (upd (upd (upd gv 78 (.bool false)) 80 (.bool false)) 81 (.bool false)) _ (by rw [upd_same e8]; rw [upd_same e10]; exact ⟨hBx, vals_step (n := 11) (v := .bool false) hD (by decide) (by omega) P (fun _ => rfl), QC, QO, QX⟩)
        | 12, _ =>
          cases hio
          have h11 : On f 11 := he ⟨11, .guard⟩ (by simp) rfl
          have e11 : gv 81 = .bool false := P 11 (by decide) rfl h11
          rw [e11]
          have HQ := Lib.hid (And.intro P (And.intro QC (And.intro QO QX)))
          clear P QC QO QX
          refine skip_if (fun h => nomatch (show false = true from h)) ?_
          simp only [Act.put, List.setIfInBounds_toArray]
          obtain ⟨P, QC, QO, QX⟩ := HQ.out
          exact hKK (upd (upd gv 81 (.bool false)) 82 (undef)) _ (by rw [upd_same e11]; exact ⟨hBx, vals_step (n := 12) (v := undef) hD (by decide) (by omega) P (fun _ => rfl), QC, QO, QX⟩)
        | 13, _ =>
          cases hio
          have h11 : On f 11 := he ⟨11, .guard⟩ (by simp) rfl
          have e11 : gv 81 = .bool false := P 11 (by decide) rfl h11
          rw [e11]
          have HQ := Lib.hid (And.intro P (And.intro QC (And.intro QO QX)))
          clear P QC QO QX
          refine skip_if (fun h => nomatch (show false = true from h)) ?_
          simp only [Act.put, List.setIfInBounds_toArray]
          obtain ⟨P, QC, QO, QX⟩ := HQ.out
          exact hKK (upd (upd gv 81 (.bool false)) 83 (undef)) _ (by rw [upd_same e11]; exact ⟨hBx, vals_step (n := 13) (v := undef) hD (by decide) (by omega) P (fun _ => rfl), QC, QO, QX⟩)
        | 14, _ =>
          cases hio
          have h11 : On f 11 := he ⟨11, .guard⟩ (by simp) rfl
          have e11 : gv 81 = .bool false := P 11 (by decide) rfl h11
          rw [e11]
          have HQ := Lib.hid (And.intro P (And.intro QC (And.intro QO QX)))
          clear P QC QO QX
          refine skip_if (fun h => nomatch (show false = true from h)) ?_
          simp only [Act.put, List.setIfInBounds_toArray]
          obtain ⟨P, QC, QO, QX⟩ := HQ.out
          exact hKK (upd (upd gv 81 (.bool false)) 84 (undef)) _ (by rw [upd_same e11]; exact ⟨hBx, vals_step (n := 14) (v := undef) hD (by decide) (by omega) P (fun _ => rfl), QC, QO, QX⟩)
        | 15, _ =>
          cases hio
          have h11 : On f 11 := he ⟨11, .guard⟩ (by simp) rfl
          have e11 : gv 81 = .bool false := P 11 (by decide) rfl h11
          rw [e11]
          have HQ := Lib.hid (And.intro P (And.intro QC (And.intro QO QX)))
          clear P QC QO QX
          refine skip_if (fun h => nomatch (show false = true from h)) ?_
          simp only [Act.put, List.setIfInBounds_toArray]
          obtain ⟨P, QC, QO, QX⟩ := HQ.out
          exact hKK (upd (upd gv 81 (.bool false)) 85 (undef)) _ (by rw [upd_same e11]; exact ⟨hBx, vals_step (n := 15) (v := undef) hD (by decide) (by omega) P (fun _ => rfl), QC, QO, QX⟩)
        | 16, _ =>
          cases hio
          have h11 : On f 11 := he ⟨11, .guard⟩ (by simp) rfl
          have e11 : gv 81 = .bool false := P 11 (by decide) rfl h11
          rw [e11]
          have HQ := Lib.hid (And.intro P (And.intro QC (And.intro QO QX)))
          clear P QC QO QX
          refine skip_if (fun h => nomatch (show false = true from h)) ?_
          simp only [Act.put, List.setIfInBounds_toArray]
          obtain ⟨P, QC, QO, QX⟩ := HQ.out
          exact hKK (upd (upd gv 81 (.bool false)) 86 (undef)) _ (by rw [upd_same e11]; exact ⟨hBx, vals_step (n := 16) (v := undef) hD (by decide) (by omega) P (fun _ => rfl), QC, QO, QX⟩)
        | 17, _ =>
          cases hio
          have h11 : On f 11 := he ⟨11, .guard⟩ (by simp) rfl
          have e11 : gv 81 = .bool false := P 11 (by decide) rfl h11
          rw [e11]
          have HQ := Lib.hid (And.intro P (And.intro QC (And.intro QO QX)))
          clear P QC QO QX
          refine skip_if (fun h => nomatch (show false = true from h)) ?_
          simp only [Act.put, List.setIfInBounds_toArray]
          obtain ⟨P, QC, QO, QX⟩ := HQ.out
          exact hKK (upd (upd gv 81 (.bool false)) 87 (undef)) _ (by rw [upd_same e11]; exact ⟨hBx, vals_step (n := 17) (v := undef) hD (by decide) (by omega) P (fun _ => rfl), QC, QO, QX⟩)
        | 18, _ =>
          cases hio
          have h11 : On f 11 := he ⟨11, .guard⟩ (by simp) rfl
          have e11 : gv 81 = .bool false := P 11 (by decide) rfl h11
          rw [e11]
          have HQ := Lib.hid (And.intro P (And.intro QC (And.intro QO QX)))
          clear P QC QO QX
          refine skip_if (fun h => nomatch (show false = true from h)) ?_
          simp only [Act.put, List.setIfInBounds_toArray]
          obtain ⟨P, QC, QO, QX⟩ := HQ.out
          exact hKK (upd (upd gv 81 (.bool false)) 88 (undef)) _ (by rw [upd_same e11]; exact ⟨hBx, vals_step (n := 18) (v := undef) hD (by decide) (by omega) P (fun _ => rfl), QC, QO, QX⟩)
        | 19, _ =>
          cases hio
          have h11 : On f 11 := he ⟨11, .guard⟩ (by simp) rfl
          have e11 : gv 81 = .bool false := P 11 (by decide) rfl h11
          rw [e11]
          have HQ := Lib.hid (And.intro P (And.intro QC (And.intro QO QX)))
          clear P QC QO QX
          refine skip_if (fun h => nomatch (show false = true from h)) ?_
          simp only [Act.put, List.setIfInBounds_toArray]
          obtain ⟨P, QC, QO, QX⟩ := HQ.out
          exact hKK (upd (upd gv 81 (.bool false)) 89 (undef)) _ (by rw [upd_same e11]; exact ⟨hBx, vals_step (n := 19) (v := undef) hD (by decide) (by omega) P (fun _ => rfl), QC, QO, QX⟩)
        | 20, _ =>
          cases hio
          have h11 : On f 11 := he ⟨11, .guard⟩ (by simp) rfl
          have e11 : gv 81 = .bool false := P 11 (by decide) rfl h11
          rw [e11]
          have HQ := Lib.hid (And.intro P (And.intro QC (And.intro QO QX)))
          clear P QC QO QX
          refine skip_if (fun h => nomatch (show false = true from h)) ?_
          simp only [Act.put, List.setIfInBounds_toArray]
          obtain ⟨P, QC, QO, QX⟩ := HQ.out
          exact hKK (upd (upd gv 81 (.bool false)) 90 (undef)) _ (by rw [upd_same e11]; exact ⟨hBx, vals_step (n := 20) (v := undef) hD (by decide) (by omega) P (fun _ => rfl), QC, QO, QX⟩)
        | 21, _ =>
          cases hio
          have h11 : On f 11 := he ⟨11, .guard⟩ (by simp) rfl
          have e11 : gv 81 = .bool false := P 11 (by decide) rfl h11
          rw [e11]
          have HQ := Lib.hid (And.intro P (And.intro QC (And.intro QO QX)))
          clear P QC QO QX
          refine skip_if (fun h => nomatch (show false = true from h)) ?_
          simp only [Act.put, List.setIfInBounds_toArray]
          obtain ⟨P, QC, QO, QX⟩ := HQ.out
          exact hKK (upd (upd gv 81 (.bool false)) 91 (undef)) _ (by rw [upd_same e11]; exact ⟨hBx, vals_step (n := 21) (v := undef) hD (by decide) (by omega) P (fun _ => rfl), QC, QO, QX⟩)
        | 22, _ =>
          cases hio
          have h8 : On f 8 := he ⟨8, .guard⟩ (by simp) rfl
          have e8 : gv 78 = .bool false := P 8 (by decide) rfl h8
          have h11 : On f 11 := he ⟨11, .data⟩ (by simp) rfl
          have e11 : gv 81 = .bool false := P 11 (by decide) rfl h11
          have h21 : On f 21 := he ⟨21, .data⟩ (by simp) rfl
          have e21 : gv 91 = undef := P 21 (by decide) rfl h21
          rw [e8, e11, e21]
          rw [if_pos (by rfl)]
          have HQ := Lib.hid (And.intro P (And.intro QC (And.intro QO QX)))
          clear P QC QO QX
          go_simp
          obtain ⟨P, QC, QO, QX⟩ := HQ.out
          exact hKK (upd (upd (upd (upd gv 78 (.bool false)) 81 (.bool false)) 91 (undef)) 92 (.bool false)) _ (by rw [upd_same e8]; rw [upd_same e11]; rw [upd_same e21]; exact ⟨hBx, vals_step (n := 22) (v := .bool false) hD (by decide) (by omega) P (fun _ => rfl), QC, QO, QX⟩)
        | 23, _ =>
          cases hio
          have h8 : On f 8 := he ⟨8, .data⟩ (by simp) rfl
          have e8 : gv 78 = .bool false := P 8 (by decide) rfl h8
          have h22 : On f 22 := he ⟨22, .data⟩ (by simp) rfl
          have e22 : gv 92 = .bool false := P 22 (by decide) rfl h22
          rw [e8, e22]
          have HQ := Lib.hid (And.intro P (And.intro QC (And.intro QO QX)))
          clear P QC QO QX
          go_simp
          obtain ⟨P, QC, QO, QX⟩ := HQ.out
          exact hKK (upd (upd (upd gv 78 (.bool false)) 92 (.bool false)) 93 (.bool false)) _ (by rw [upd_same e8]; rw [upd_same e22]; exact ⟨hBx, vals_step (n := 23) (v := .bool false) hD (by decide) (by omega) P (fun _ => rfl), QC, QO, QX⟩)
        | 24, _ =>
          cases hio
          have h23 : On f 23 := he ⟨23, .data⟩ (by simp) rfl
          have e23 : gv 93 = .bool false := P 23 (by decide) rfl h23
          rw [e23]
          have HQ := Lib.hid (And.intro P (And.intro QC (And.intro QO QX)))
          clear P QC QO QX
          go_simp
          obtain ⟨P, QC, QO, QX⟩ := HQ.out
          exact hKK (upd (upd gv 93 (.bool false)) 94 (.bool false)) _ (by rw [upd_same e23]; exact ⟨hBx, vals_step (n := 24) (v := .bool false) hD (by decide) (by omega) P (fun _ => rfl), QC, QO, QX⟩)
        | 25, _ =>
          cases hio
          have h24 : On f 24 := he ⟨24, .guard⟩ (by simp) rfl
          have e24 : gv 94 = .bool false := P 24 (by decide) rfl h24
          rw [e24]
          rw [if_pos (by rfl)]
          have HQ := Lib.hid (And.intro P (And.intro QC (And.intro QO QX)))
          clear P QC QO QX
          go_simp
          obtain ⟨P, QC, QO, QX⟩ := HQ.out
          exact hKK (upd (upd gv 94 (.bool false)) 95 (.int .i64 1)) _ (by rw [upd_same e24]; exact ⟨hBx, vals_step (n := 25) (v := .int .i64 1) hD (by decide) (by omega) P (fun _ => rfl), QC, QO, QX⟩)
        | 26, _ =>
          cases hio
          have h24 : On f 24 := he ⟨24, .guard⟩ (by simp) rfl
          have e24 : gv 94 = .bool false := P 24 (by decide) rfl h24
          have h25 : On f 25 := he ⟨25, .data⟩ (by simp) rfl
          have e25 : gv 95 = .int .i64 1 := P 25 (by decide) rfl h25
          rw [e24, e25]
          rw [if_pos (by rfl)]
          have HQ := Lib.hid (And.intro P (And.intro QC (And.intro QO QX)))
          clear P QC QO QX
          go_simp
          obtain ⟨P, QC, QO, QX⟩ := HQ.out
          exact hKK (upd (upd (upd gv 94 (.bool false)) 95 (.int .i64 1)) 96 (.bool false)) _ (by rw [upd_same e24]; rw [upd_same e25]; exact ⟨hBx, vals_step (n := 26) (v := .bool false) hD (by decide) (by omega) P (fun _ => rfl), QC, QO, QX⟩)
        | 27, _ =>
          cases hio
          have h24 : On f 24 := he ⟨24, .guard⟩ (by simp) rfl
          have e24 : gv 94 = .bool false := P 24 (by decide) rfl h24
          have h26 : On f 26 := he ⟨26, .data⟩ (by simp) rfl
          have e26 : gv 96 = .bool false := P 26 (by decide) rfl h26
          rw [e24, e26]
          rw [if_pos (by rfl)]
          have HQ := Lib.hid (And.intro P (And.intro QC (And.intro QO QX)))
          clear P QC QO QX
          go_simp
          obtain ⟨P, QC, QO, QX⟩ := HQ.out
          exact hKK (upd (upd (upd gv 94 (.bool false)) 96 (.bool false)) 97 (.bool false)) _ (by rw [upd_same e24]; rw [upd_same e26]; exact ⟨hBx, vals_step (n := 27) (v := .bool false) hD (by decide) (by omega) P (fun _ => rfl), QC, QO, QX⟩)
        | 28, _ =>
          cases hio
          have h27 : On f 27 := he ⟨27, .guard⟩ (by simp) rfl
          have e27 : gv 97 = .bool false := P 27 (by decide) rfl h27
          rw [e27]
          have HQ := Lib.hid (And.intro P (And.intro QC (And.intro QO QX)))
          clear P QC QO QX
          refine skip_if (fun h => nomatch (show false = true from h)) ?_
          simp only [Act.put, List.setIfInBounds_toArray]
          obtain ⟨P, QC, QO, QX⟩ := HQ.out
          exact hKK (upd (upd gv 97 (.bool false)) 98 (undef)) _ (by rw [upd_same e27]; exact ⟨hBx, vals_step (n := 28) (v := undef) hD (by decide) (by omega) P (fun _ => rfl), QC, QO, QX⟩)
        | 29, _ =>
          cases hio
          have h27 : On f 27 := he ⟨27, .guard⟩ (by simp) rfl
          have e27 : gv 97 = .bool false := P 27 (by decide) rfl h27
          rw [e27]
          have HQ := Lib.hid (And.intro P (And.intro QC (And.intro QO QX)))
          clear P QC QO QX
          refine skip_if (fun h => nomatch (show false = true from h)) ?_
          simp only [Act.put, List.setIfInBounds_toArray]
          obtain ⟨P, QC, QO, QX⟩ := HQ.out
          exact hKK (upd (upd gv 97 (.bool false)) 99 (undef)) _ (by rw [upd_same e27]; exact ⟨hBx, vals_step (n := 29) (v := undef) hD (by decide) (by omega) P (fun _ => rfl), QC, QO, QX⟩)
        | 30, _ =>
          cases hio
          have h27 : On f 27 := he ⟨27, .guard⟩ (by simp) rfl
          have e27 : gv 97 = .bool false := P 27 (by decide) rfl h27
          rw [e27]
          have HQ := Lib.hid (And.intro P (And.intro QC (And.intro QO QX)))
          clear P QC QO QX
          refine skip_if (fun h => nomatch (show false = true from h)) ?_
          simp only [Act.put, List.setIfInBounds_toArray]
          obtain ⟨P, QC, QO, QX⟩ := HQ.out
          exact hKK (upd (upd gv 97 (.bool false)) 100 (undef)) _ (by rw [upd_same e27]; exact ⟨hBx, vals_step (n := 30) (v := undef) hD (by decide) (by omega) P (fun _ => rfl), QC, QO, QX⟩)
        | 31, _ =>
          cases hio
          have h27 : On f 27 := he ⟨27, .guard⟩ (by simp) rfl
          have e27 : gv 97 = .bool false := P 27 (by decide) rfl h27
          rw [e27]
          have HQ := Lib.hid (And.intro P (And.intro QC (And.intro QO QX)))
          clear P QC QO QX
          refine skip_if (fun h => nomatch (show false = true from h)) ?_
          simp only [Act.put, List.setIfInBounds_toArray]
          obtain ⟨P, QC, QO, QX⟩ := HQ.out
          exact hKK (upd (upd gv 97 (.bool false)) 101 (undef)) _ (by rw [upd_same e27]; exact ⟨hBx, vals_step (n := 31) (v := undef) hD (by decide) (by omega) P (fun _ => rfl), QC, QO, QX⟩)
        | 32, _ =>
          cases hio
          have h27 : On f 27 := he ⟨27, .guard⟩ (by simp) rfl
          have e27 : gv 97 = .bool false := P 27 (by decide) rfl h27
          rw [e27]
          have HQ := Lib.hid (And.intro P (And.intro QC (And.intro QO QX)))
          clear P QC QO QX
          refine skip_if (fun h => nomatch (show false = true from h)) ?_
          simp only [Act.put, List.setIfInBounds_toArray]
          obtain ⟨P, QC, QO, QX⟩ := HQ.out
          exact hKK (upd (upd gv 97 (.bool false)) 102 (undef)) _ (by rw [upd_same e27]; exact ⟨hBx, vals_step (n := 32) (v := undef) hD (by decide) (by omega) P (fun _ => rfl), QC, QO, QX⟩)
        | 33, _ =>
          cases hio
          have h27 : On f 27 := he ⟨27, .guard⟩ (by simp) rfl
          have e27 : gv 97 = .bool false := P 27 (by decide) rfl h27
          rw [e27]
          have HQ := Lib.hid (And.intro P (And.intro QC (And.intro QO QX)))
          clear P QC QO QX
          refine skip_if (fun h => nomatch (show false = true from h)) ?_
          simp only [Act.put, List.setIfInBounds_toArray]
          obtain ⟨P, QC, QO, QX⟩ := HQ.out
          exact hKK (upd (upd gv 97 (.bool false)) 103 (undef)) _ (by rw [upd_same e27]; exact ⟨hBx, vals_step (n := 33) (v := undef) hD (by decide) (by omega) P (fun _ => rfl), QC, QO, QX⟩)
        | 34, _ =>
          cases hio
          have h27 : On f 27 := he ⟨27, .guard⟩ (by simp) rfl
          have e27 : gv 97 = .bool false := P 27 (by decide) rfl h27
          rw [e27]
          have HQ := Lib.hid (And.intro P (And.intro QC (And.intro QO QX)))
          clear P QC QO QX
          refine skip_if (fun h => nomatch (show false = true from h)) ?_
          simp only [Act.put, List.setIfInBounds_toArray]
          obtain ⟨P, QC, QO, QX⟩ := HQ.out
          exact hKK (upd (upd gv 97 (.bool false)) 104 (undef)) _ (by rw [upd_same e27]; exact ⟨hBx, vals_step (n := 34) (v := undef) hD (by decide) (by omega) P (fun _ => rfl), QC, QO, QX⟩)
        | 35, _ =>
          cases hio
          have h27 : On f 27 := he ⟨27, .guard⟩ (by simp) rfl
          have e27 : gv 97 = .bool false := P 27 (by decide) rfl h27
          rw [e27]
          have HQ := Lib.hid (And.intro P (And.intro QC (And.intro QO QX)))
          clear P QC QO QX
          refine skip_if (fun h => nomatch (show false = true from h)) ?_
          simp only [Act.put, List.setIfInBounds_toArray]
          obtain ⟨P, QC, QO, QX⟩ := HQ.out
          exact hKK (upd (upd gv 97 (.bool false)) 105 (undef)) _ (by rw [upd_same e27]; exact ⟨hBx, vals_step (n := 35) (v := undef) hD (by decide) (by omega) P (fun _ => rfl), QC, QO, QX⟩)
        | 36, _ =>
          cases hio
          have h27 : On f 27 := he ⟨27, .guard⟩ (by simp) rfl
          have e27 : gv 97 = .bool false := P 27 (by decide) rfl h27
          rw [e27]
          have HQ := Lib.hid (And.intro P (And.intro QC (And.intro QO QX)))
          clear P QC QO QX
          refine skip_if (fun h => nomatch (show false = true from h)) ?_
          simp only [Act.put, List.setIfInBounds_toArray]
          obtain ⟨P, QC, QO, QX⟩ := HQ.out
          exact hKK (upd (upd gv 97 (.bool false)) 106 (undef)) _ (by rw [upd_same e27]; exact ⟨hBx, vals_step (n := 36) (v := undef) hD (by decide) (by omega) P (fun _ => rfl), QC, QO, QX⟩)
        | 37, _ =>
          cases hio
          have h27 : On f 27 := he ⟨27, .guard⟩ (by simp) rfl
          have e27 : gv 97 = .bool false := P 27 (by decide) rfl h27
          rw [e27]
          have HQ := Lib.hid (And.intro P (And.intro QC (And.intro QO QX)))
          clear P QC QO QX
          refine skip_if (fun h => nomatch (show false = true from h)) ?_
          simp only [Act.put, List.setIfInBounds_toArray]
          obtain ⟨P, QC, QO, QX⟩ := HQ.out
          exact hKK (upd (upd gv 97 (.bool false)) 107 (undef)) _ (by rw [upd_same e27]; exact ⟨hBx, vals_step (n := 37) (v := undef) hD (by decide) (by omega) P (fun _ => rfl), QC, QO, QX⟩)
        | 38, _ =>
          cases hio
          have h27 : On f 27 := he ⟨27, .guard⟩ (by simp) rfl
          have e27 : gv 97 = .bool false := P 27 (by decide) rfl h27
          rw [e27]
          have HQ := Lib.hid (And.intro P (And.intro QC (And.intro QO QX)))
          clear P QC QO QX
          refine skip_if (fun h => nomatch (show false = true from h)) ?_
          simp only [Act.put, List.setIfInBounds_toArray]
          obtain ⟨P, QC, QO, QX⟩ := HQ.out
          exact hKK (upd (upd gv 97 (.bool false)) 108 (undef)) _ (by rw [upd_same e27]; exact ⟨hBx, vals_step (n := 38) (v := undef) hD (by decide) (by omega) P (fun _ => rfl), QC, QO, QX⟩)
        | 39, _ =>
          cases hio
          have h24 : On f 24 := he ⟨24, .guard⟩ (by simp) rfl
          have e24 : gv 94 = .bool false := P 24 (by decide) rfl h24
          have h27 : On f 27 := he ⟨27, .data⟩ (by simp) rfl
          have e27 : gv 97 = .bool false := P 27 (by decide) rfl h27
          have h38 : On f 38 := he ⟨38, .data⟩ (by simp) rfl
          have e38 : gv 108 = undef := P 38 (by decide) rfl h38
          rw [e24, e27, e38]
          rw [if_pos (by rfl)]
          have HQ := Lib.hid (And.intro P (And.intro QC (And.intro QO QX)))
          clear P QC QO QX
          go_simp
          obtain ⟨P, QC, QO, QX⟩ := HQ.out
          exact hKK (upd (upd (upd (upd gv 94 (.bool false)) 97 (.bool false)) 108 (undef)) 109 (.bool false)) _ (by rw [upd_same e24]; rw [upd_same e27]; rw [upd_same e38]; exact ⟨hBx, vals_step (n := 39) (v := .bool false) hD (by decide) (by omega) P (fun _ => rfl), QC, QO, QX⟩)
        | 40, _ =>
          cases hio
          have h24 : On f 24 := he ⟨24, .data⟩ (by simp) rfl
          have e24 : gv 94 = .bool false := P 24 (by decide) rfl h24
          have h39 : On f 39 := he ⟨39, .data⟩ (by simp) rfl
          have e39 : gv 109 = .bool false := P 39 (by decide) rfl h39
          rw [e24, e39]
          have HQ := Lib.hid (And.intro P (And.intro QC (And.intro QO QX)))
          clear P QC QO QX
          go_simp
          obtain ⟨P, QC, QO, QX⟩ := HQ.out
          exact hKK (upd (upd (upd gv 94 (.bool false)) 109 (.bool false)) 110 (.bool false)) _ (by rw [upd_same e24]; rw [upd_same e39]; exact ⟨hBx, vals_step (n := 40) (v := .bool false) hD (by decide) (by omega) P (fun _ => rfl), QC, QO, QX⟩)
      · rintro f gv w5 hall hs' ⟨hBx, P, QC, QO, QX⟩
        replace hs' : f.size = 41 := hs'
        have on : ∀ j, j < 41 → On f j := fun j hj => on_all hall hs' j hj
        have e110 : gv 110 = .bool false := P 40 (by decide) rfl (on 40 (by decide))
        have HC13 := Lib.hid QC
        have HB13 := Lib.hid (HB12.out.step hBx)
        have HID13 := Lib.hid (HID.out _ (HRC.out.below HB13.out))
        clear P QC QO QX  hBx hall hs' on hD
        rw [e110]
        clear e110
        have p0 : w5.cell? ⟨b1, 0, none⟩ = some (.int .i64 node) := HC13.out.at 0 _ rfl
        have p1 : w5.cell? ⟨b1, 1, none⟩ = some (.int .i64 seq) := HC13.out.at 1 _ rfl
        have p2 : w5.cell? ⟨b1, 2, none⟩ = some (.int .i64 gen) := HC13.out.at 2 _ rfl
        have p3 : w5.cell? ⟨b1, 3, none⟩ = some (.slice a n cap) := HC13.out.at 3 _ rfl
        have p4 : w5.cell? ⟨b1, 4, none⟩ = some (.int .i64 kind) := HC13.out.at 4 _ rfl
        have p5 : w5.cell? ⟨b1, 5, none⟩ = some (.string s1) := HC13.out.at 5 _ rfl
        have p6 : w5.cell? ⟨b1, 6, none⟩ = some (.string s2) := HC13.out.at 6 _ rfl
        have p7 : w5.cell? ⟨b1, 7, none⟩ = some (.int .i64 num) := HC13.out.at 7 _ rfl
        by_cases hn2 : (n : Int) < 2
        · go_wp2_with fail
          go_ret
          exact ⟨rfl, HB13.out⟩
        go_upto_region 17 with fail
        obtain ⟨b5, hb5⟩ : ∃ b, b = w5.heap.size := ⟨_, rfl⟩
        have hC0 := Cel.new w5 28 [.int .i64 node, .int .i64 seq, .int .i64 gen, .slice a n cap, .int .i64 kind, .string s1, .string s2, .int .i64 num]
        rw [← hb5] at hC0 ⊢
        generalize hw14 : w5.alloc (.cells _ _) = w14
        have HD14 := Lib.hid (show Cel w14 b5 28 [.int .i64 node, .int .i64 seq, .int .i64 gen, .slice a n cap, .int .i64 kind, .string s1, .string s2, .int .i64 num] by rw [← hw14]; exact hC0)
        have hb514 : Below w5.heap.size w5 w14 := by rw [← hw14]; exact (Below.refl _ _).alloc (Nat.le_refl _) _
        have HC14 := Lib.hid (HC13.out.step hb514)
        have HB14 := Lib.hid (HB13.out.step hb514)
        have hs0 := HC13.out.lt
        have hs1 := HB13.out.size
        have hs2 := HD14.out.lt
        have hidx := HID.out _ (HRC.out.below HB14.out)
        obtain ⟨ba, oa, rfl⟩ : ∃ b off, a = some ⟨b, off, none⟩ := by
          rcases hidx.cells with h0 | ⟨b', off', e, _⟩
          · omega
          · exact ⟨b', off', e⟩
        have hba : ba < w14.heap.size := by
          rcases hidx.cells with h0 | ⟨b', off', e, hc⟩
          · omega
          · cases e
            have hx := hc 0 (by omega) 0 _ (List.getElem?_eq_getElem (by rw [Bs_length, hidx.at32 0 (by omega)]; decide))
            have := World.block_lt_of_cell? w14 _ hx
            simpa using this
        obtain ⟨g, capg, rest, w15, hrun, hcg, hnc, hcm, hg, hb⟩ := app_ids hidx (by omega) hn8
        obtain ⟨x, y, r, hp⟩ : ∃ x y r, c.par = x :: y :: r := by
          have := HN.out
          match hcp : c.par with
          | [] => rw [hcp] at this; simp at this; omega
          | [_] => rw [hcp] at this; simp at this; omega
          | x :: y :: r => exact ⟨x, y, r, rfl⟩
        have hx32 := hidx.is32
        rw [hp] at hcg hx32
        have HXY := Lib.hid (show x.length = 32 ∧ y.length = 32 ∧ all32 r from ⟨hx32 x (by simp), hx32 y (by simp), fun z hz => hx32 z (by simp [hz])⟩)
        have HRUN := Lib.hid hrun
        have HP := Lib.hid hp
        have HCP := Lib.hid (And.intro hnc hcm)
        obtain ⟨R, hR⟩ : ∃ R, R = Bs r.flatten ++ rest := ⟨_, rfl⟩
        have HR := Lib.hid hR
        have HG15 := Lib.hid (show Cel w15 g 36 ([] ++ (Bs x ++ (Bs y ++ R))) by rw [hR]; simpa [Bs, List.map_append, List.append_assoc] using hcg)
        have HD15 := Lib.hid (HD14.out.step hb)
        have HC15 := Lib.hid (HC14.out.step hb)
        have HB15 := Lib.hid (HB14.out.step hb)
        have HS15 := Lib.hid (show b1 < b5 ∧ b5 < g ∧ ba < g ∧ w.heap.size ≤ g ∧ w.heap.size ≤ b5 from ⟨by omega, by omega, by omega, by omega, by omega⟩)
        have p3 : w14.cell? ⟨b1, 3, none⟩ = some (.slice (some ⟨ba, oa, none⟩) n cap) := HC14.out.at 3 _ rfl
        have r3 : w15.cell? ⟨b5, 3, none⟩ = some (.slice (some ⟨ba, oa, none⟩) n cap) := HD15.out.at 3 _ rfl
        have f3 : w15.frozen? ⟨b5, 3, none⟩ = false := HD15.out.free 3
        clear hC0 hw14 hb514 hb5 hs0 hs1 hs2 hidx hba hrun hcg hnc hcm hg hp hx32 hb hR p0 p1 p2 p4 p5 p6 p7
        go_upto_region 18 with (at_builtin; refine Lib.wpList_append_run _ rfl _ _ _ _ rfl _ _ rfl rfl _ _ HRUN.out ?_)
        generalize hw16 : World.setCell w15 _ _ = w16
        have ho16 : Only w15 w16 b5 := by rw [← hw16]; exact only_set _ _ _ _
        have HD16 := Lib.hid (show Cel w16 b5 28 [.int .i64 node, .int .i64 seq, .int .i64 gen, .slice (some ⟨g, 0, none⟩) n capg, .int .i64 kind, .string s1, .string s2, .int .i64 num] by rw [← hw16]; exact HD15.out.set 3 _)
        have hs := HS15.out
        have HC16 := Lib.hid (show Cel w16 b1 28 [.int .i64 node, .int .i64 seq, .int .i64 gen, .slice (some ⟨ba, oa, none⟩) n cap, .int .i64 kind, .string s1, .string s2, .int .i64 num] from ho16.heap HC15.out (by omega))
        have HG16 := Lib.hid (show Cel w16 g 36 ([] ++ (Bs x ++ (Bs y ++ R))) from ho16.heap HG15.out (by omega))
        have HB16 := Lib.hid (ho16.below HB15.out (by omega))
        have HI16 := Lib.hid (HID.out _ (HRC.out.below HB16.out))
        have hi1 : (1 : Int) < (n : Int) := by omega
        have hi0 : (0 : Int) < (n : Int) := by omega
        have hi1' : 1 < n := by omega
        have hi0' : 0 < n := by omega
        clear hw16 ho16 hs p3 r3 f3
        have hD : ∀ j, j < 8 → ∀ n, n < 8 → j ≠ n → dkN [120, 121, 122, 123, 124, 125, 126, 1007] j ≠ dkN [120, 121, 122, 123, 124, 125, 126, 1007] n := by decide +kernel
        refine region_fun (by kernel_rfl) (by kernel_rfl) (fun gv => #[gv 0, gv 1, gv 2, .pointer (some ⟨b1, 0, none⟩), gv 4, gv 5, gv 6, gv 7, gv 8, gv 9, gv 10, gv 11, gv 12, gv 13, gv 14, gv 15, gv 16, .pointer (some ⟨b5, 0, none⟩), gv 18, gv 19, gv 20, gv 21, gv 22, gv 23, gv 24, gv 25, gv 26, gv 27, gv 28, gv 29, gv 30, gv 31, gv 32, gv 33, gv 34, gv 35, gv 36, gv 37, gv 38, gv 39, gv 40, gv 41, gv 42, gv 43, gv 44, gv 45, gv 46, gv 47, gv 48, gv 49, gv 50, gv 51, gv 52, gv 53, gv 54, gv 55, gv 56, gv 57, gv 58, gv 59, gv 60, gv 61, gv 62, gv 63, gv 64, gv 65, gv 66, gv 67, gv 68, gv 69, gv 70, gv 71, gv 72, gv 73, gv 74, gv 75, gv 76, gv 77, gv 78, gv 79, gv 80, gv 81, gv 82, gv 83, gv 84, gv 85, gv 86, gv 87, gv 88, gv 89, gv 90, gv 91, gv 92, gv 93, gv 94, gv 95, gv 96, gv 97, gv 98, gv 99, gv 100, gv 101, gv 102, gv 103, gv 104, gv 105, gv 106, gv 107, gv 108, gv 109, gv 110, gv 111, gv 112, gv 113, gv 114, gv 115, gv 116, gv 117, gv 118, gv 119, gv 120, gv 121, gv 122, gv 123, gv 124, gv 125, gv 126, gv 127, gv 128, gv 129, gv 130, gv 131, gv 132, gv 133, gv 134, gv 135, gv 136]) rfl (fun f gv wx => Below w.heap.size w wx ∧ (∀ j, j < 8 → (fun j => Nat.beq j 7) j = false → On f j → gv (dkN [120, 121, 122, 123, 124, 125, 126, 1007] j) = vkN [.pointer (some ⟨b5, 3, none⟩), .slice (some ⟨g, 0, none⟩) n capg, .pointer (some ⟨b1, 3, none⟩), .slice (some ⟨ba, oa, none⟩) n cap, .pointer (some ⟨ba, oa + 32, none⟩), .agg (Bs y).toArray, .pointer (some ⟨g, 0, none⟩), undef] j) ∧ (Cel wx b1 28 [.int .i64 node, .int .i64 seq, .int .i64 gen, .slice (some ⟨ba, oa, none⟩) n cap, .int .i64 kind, .string s1, .string s2, .int .i64 num]) ∧ (Cel wx b5 28 [.int .i64 node, .int .i64 seq, .int .i64 gen, .slice (some ⟨g, 0, none⟩) n capg, .int .i64 kind, .string s1, .string s2, .int .i64 num]) ∧ ((¬ On f 7 → Cel wx g 36 ([] ++ (Bs x ++ (Bs y ++ R)))) ∧ (On f 7 → Cel wx g 36 ([] ++ (Bs y ++ (Bs y ++ R))))) ∧ (Ids wx (some ⟨ba, oa, none⟩) n cap c.par)) ?_ ?_ ?_
        · have hoff : ∀ j, ¬ On (Array.replicate 8 false) j := by
            intro j hj; simp only [On, Array.getD_eq_getD_getElem?, Array.getElem?_replicate] at hj; split at hj <;> simp at hj
          exact ⟨HB16.out.drew, fun j _ _ x => absurd x (hoff _), HC16.out.step (below_drewNw _ _), HD16.out.step (below_drewNw _ _), ⟨fun _ => HG16.out.step (below_drewNw _ _), fun x => absurd x (hoff _)⟩, HI16.out.below (below_drewNw _ _)⟩
        · rintro i' o' f gv wm hio hs' hn he ⟨hBx, P, QC, QD, QG, QI⟩ KK hKK
          have hi' : i' < 8 := (Array.getElem?_eq_some_iff.1 hio).1
          replace hs' : f.size = 8 := hs'
          match i', hi' with
          | 0, _ =>
            cases hio
            have HQ := Lib.hid (And.intro P (And.intro QC (And.intro QD (And.intro QG QI))))
            clear P QC QD QG QI
            go_simp
            obtain ⟨P, QC, QD, QG, QI⟩ := HQ.out
            have bk : ∀ j, j ≠ 0 → On (f.setIfInBounds 0 true) j → On f j := fun j hj x => on_back (by omega) x hj
            have fw : ∀ j, On f j → On (f.setIfInBounds 0 true) j := fun j x => (on_put (by omega)).2 (.inr x)
            exact hKK (upd gv 120 (.pointer (some ⟨b5, 3, none⟩))) _ (by exact ⟨hBx, vals_step (n := 0) (v := .pointer (some ⟨b5, 3, none⟩)) hD (by decide) (by omega) P (fun _ => rfl), QC, QD, ⟨fun x => QG.1 (fun y => x (fw 7 y)), fun x => QG.2 (bk 7 (by decide) x)⟩, QI⟩)
          | 1, _ =>
            cases hio
            have h0 : On f 0 := he ⟨0, .data⟩ (by simp) rfl
            have e0 : gv 120 = .pointer (some ⟨b5, 3, none⟩) := P 0 (by decide) rfl h0
            have d3 : wm.cell? ⟨b5, 3, none⟩ = some (.slice (some ⟨g, 0, none⟩) n capg) := QD.at 3 _ rfl
            rw [e0]
            have HQ := Lib.hid (And.intro P (And.intro QC (And.intro QD (And.intro QG QI))))
            clear P QC QD QG QI
            go_simp
            obtain ⟨P, QC, QD, QG, QI⟩ := HQ.out
            have bk : ∀ j, j ≠ 1 → On (f.setIfInBounds 1 true) j → On f j := fun j hj x => on_back (by omega) x hj
            have fw : ∀ j, On f j → On (f.setIfInBounds 1 true) j := fun j x => (on_put (by omega)).2 (.inr x)
            exact hKK (upd (upd gv 120 (.pointer (some ⟨b5, 3, none⟩))) 121 (.slice (some ⟨g, 0, none⟩) n capg)) _ (by rw [upd_same e0]; exact ⟨hBx, vals_step (n := 1) (v := .slice (some ⟨g, 0, none⟩) n capg) hD (by decide) (by omega) P (fun _ => rfl), QC, QD, ⟨fun x => QG.1 (fun y => x (fw 7 y)), fun x => QG.2 (bk 7 (by decide) x)⟩, QI⟩)
          | 2, _ =>
            cases hio
            have HQ := Lib.hid (And.intro P (And.intro QC (And.intro QD (And.intro QG QI))))
            clear P QC QD QG QI
            go_simp
            obtain ⟨P, QC, QD, QG, QI⟩ := HQ.out
            have bk : ∀ j, j ≠ 2 → On (f.setIfInBounds 2 true) j → On f j := fun j hj x => on_back (by omega) x hj
            have fw : ∀ j, On f j → On (f.setIfInBounds 2 true) j := fun j x => (on_put (by omega)).2 (.inr x)
            exact hKK (upd gv 122 (.pointer (some ⟨b1, 3, none⟩))) _ (by exact ⟨hBx, vals_step (n := 2) (v := .pointer (some ⟨b1, 3, none⟩)) hD (by decide) (by omega) P (fun _ => rfl), QC, QD, ⟨fun x => QG.1 (fun y => x (fw 7 y)), fun x => QG.2 (bk 7 (by decide) x)⟩, QI⟩)
          | 3, _ =>
            cases hio
            have h2 : On f 2 := he ⟨2, .data⟩ (by simp) rfl
            have e2 : gv 122 = .pointer (some ⟨b1, 3, none⟩) := P 2 (by decide) rfl h2
            have d3 : wm.cell? ⟨b1, 3, none⟩ = some (.slice (some ⟨ba, oa, none⟩) n cap) := QC.at 3 _ rfl
            rw [e2]
            have HQ := Lib.hid (And.intro P (And.intro QC (And.intro QD (And.intro QG QI))))
            clear P QC QD QG QI
            go_simp
            obtain ⟨P, QC, QD, QG, QI⟩ := HQ.out
            have bk : ∀ j, j ≠ 3 → On (f.setIfInBounds 3 true) j → On f j := fun j hj x => on_back (by omega) x hj
            have fw : ∀ j, On f j → On (f.setIfInBounds 3 true) j := fun j x => (on_put (by omega)).2 (.inr x)
            exact hKK (upd (upd gv 122 (.pointer (some ⟨b1, 3, none⟩))) 123 (.slice (some ⟨ba, oa, none⟩) n cap)) _ (by rw [upd_same e2]; exact ⟨hBx, vals_step (n := 3) (v := .slice (some ⟨ba, oa, none⟩) n cap) hD (by decide) (by omega) P (fun _ => rfl), QC, QD, ⟨fun x => QG.1 (fun y => x (fw 7 y)), fun x => QG.2 (bk 7 (by decide) x)⟩, QI⟩)
          | 4, _ =>
            cases hio
            have h3 : On f 3 := he ⟨3, .data⟩ (by simp) rfl
            have e3 : gv 123 = .slice (some ⟨ba, oa, none⟩) n cap := P 3 (by decide) rfl h3
            rw [e3]
            have HQ := Lib.hid (And.intro P (And.intro QC (And.intro QD (And.intro QG QI))))
            clear P QC QD QG QI
            go_simp
            obtain ⟨P, QC, QD, QG, QI⟩ := HQ.out
            have bk : ∀ j, j ≠ 4 → On (f.setIfInBounds 4 true) j → On f j := fun j hj x => on_back (by omega) x hj
            have fw : ∀ j, On f j → On (f.setIfInBounds 4 true) j := fun j x => (on_put (by omega)).2 (.inr x)
            exact hKK (upd (upd gv 123 (.slice (some ⟨ba, oa, none⟩) n cap)) 124 (.pointer (some ⟨ba, oa + 32, none⟩))) _ (by rw [upd_same e3]; exact ⟨hBx, vals_step (n := 4) (v := .pointer (some ⟨ba, oa + 32, none⟩)) hD (by decide) (by omega) P (fun _ => rfl), QC, QD, ⟨fun x => QG.1 (fun y => x (fw 7 y)), fun x => QG.2 (bk 7 (by decide) x)⟩, QI⟩)
          | 5, _ =>
            cases hio
            have h4 : On f 4 := he ⟨4, .data⟩ (by simp) rfl
            have e4 : gv 124 = .pointer (some ⟨ba, oa + 32, none⟩) := P 4 (by decide) rfl h4
            have hrg : wm.rangeAt ba (oa + 32) (Bs y) := by
              rcases QI.cells with h0 | ⟨b9, o9, e9, hc⟩
              · omega
              · cases e9
                have h9 := hc 1 (by omega)
                rw [HP.out] at h9
                simpa using h9
            rw [e4]
            have HQ := Lib.hid (And.intro P (And.intro QC (And.intro QD (And.intro QG QI))))
            clear P QC QD QG QI
            refine rng_load (by rfl) 125 rfl 36 (.tmp 124) rfl (by rfl) (Bs y) _ hrg under_ids rfl (info_x HXY.out.2.1) ?_
            simp only [List.setIfInBounds_toArray]
            obtain ⟨P, QC, QD, QG, QI⟩ := HQ.out
            have bk : ∀ j, j ≠ 5 → On (f.setIfInBounds 5 true) j → On f j := fun j hj x => on_back (by omega) x hj
            have fw : ∀ j, On f j → On (f.setIfInBounds 5 true) j := fun j x => (on_put (by omega)).2 (.inr x)
            exact hKK (upd (upd gv 124 (.pointer (some ⟨ba, oa + 32, none⟩))) 125 (.agg (Bs y).toArray)) _ (by rw [upd_same e4]; exact ⟨hBx, vals_step (n := 5) (v := .agg (Bs y).toArray) hD (by decide) (by omega) P (fun _ => rfl), QC, QD, ⟨fun x => QG.1 (fun y => x (fw 7 y)), fun x => QG.2 (bk 7 (by decide) x)⟩, QI⟩)
          | 6, _ =>
            cases hio
            have h1 : On f 1 := he ⟨1, .data⟩ (by simp) rfl
            have e1 : gv 121 = .slice (some ⟨g, 0, none⟩) n capg := P 1 (by decide) rfl h1
            rw [e1]
            have HQ := Lib.hid (And.intro P (And.intro QC (And.intro QD (And.intro QG QI))))
            clear P QC QD QG QI
            go_simp
            obtain ⟨P, QC, QD, QG, QI⟩ := HQ.out
            have bk : ∀ j, j ≠ 6 → On (f.setIfInBounds 6 true) j → On f j := fun j hj x => on_back (by omega) x hj
            have fw : ∀ j, On f j → On (f.setIfInBounds 6 true) j := fun j x => (on_put (by omega)).2 (.inr x)
            exact hKK (upd (upd gv 121 (.slice (some ⟨g, 0, none⟩) n capg)) 126 (.pointer (some ⟨g, 0, none⟩))) _ (by rw [upd_same e1]; exact ⟨hBx, vals_step (n := 6) (v := .pointer (some ⟨g, 0, none⟩)) hD (by decide) (by omega) P (fun _ => rfl), QC, QD, ⟨fun x => QG.1 (fun y => x (fw 7 y)), fun x => QG.2 (bk 7 (by decide) x)⟩, QI⟩)
          | 7, _ =>
            cases hio
            have off : ¬ On f 7 := on_off (by omega) hn
            have h5 : On f 5 := he ⟨5, .data⟩ (by simp) rfl
            have e5 : gv 125 = .agg (Bs y).toArray := P 5 (by decide) rfl h5
            have h6 : On f 6 := he ⟨6, .data⟩ (by simp) rfl
            have e6 : gv 126 = .pointer (some ⟨g, 0, none⟩) := P 6 (by decide) rfl h6
            have hq := QG.1 off
            rw [e5, e6]
            have HQ := Lib.hid (And.intro P (And.intro QC (And.intro QD (And.intro QG QI))))
            clear P QC QD QG QI
            refine mid_store (by rfl) rfl 36 (.tmp 126) (.tmp 125) rfl (by rfl) (Bs y) (by rfl) hq rfl ?_ ?_ (Bs_one _) ?_
            · rw [Bs_length, Bs_length, HXY.out.1, HXY.out.2.1]
            · exact info_x HXY.out.2.1
            intro w6 hc6 ho6
            have hxx := HS15.out
            obtain ⟨P, QC, QD, QG, QI⟩ := HQ.out
            have fn : On (f.setIfInBounds 7 true) 7 := (on_put (by omega)).2 (.inl rfl)
            exact hKK (upd (upd gv 125 (.agg (Bs y).toArray)) 126 (.pointer (some ⟨g, 0, none⟩))) _ (by rw [upd_same e5]; rw [upd_same e6]; exact ⟨ho6.below hBx (by omega), vals_keep (n := 7) (by omega) rfl P, ho6.heap QC (by omega), ho6.heap QD (by omega), ⟨fun x => absurd fn x, fun _ => hc6⟩, QI.only ho6 (fun z hz => by injection hz with hz; rw [← hz]; show ba ≠ g; omega)⟩)
        · rintro f gv w5 hall hs' ⟨hBx, P, QC, QD, QG, QI⟩
          replace hs' : f.size = 8 := hs'
          have on : ∀ j, j < 8 → On f j := fun j hj => on_all hall hs' j hj
          have HG18 := Lib.hid (QG.2 (on 7 (by decide)))
          have HC18 := Lib.hid QC
          have HD18 := Lib.hid QD
          have HI18 := Lib.hid QI
          have HB18 := Lib.hid hBx
          clear P QC QD QG QI hBx hall hs' on hD
          go_upto_region 19 with fail
          have hD : ∀ j, j < 8 → ∀ n, n < 8 → j ≠ n → dkN [127, 128, 129, 130, 131, 132, 133, 1007] j ≠ dkN [127, 128, 129, 130, 131, 132, 133, 1007] n := by decide +kernel
          refine region_fun (by kernel_rfl) (by kernel_rfl) (fun gv => #[gv 0, gv 1, gv 2, .pointer (some ⟨b1, 0, none⟩), gv 4, gv 5, gv 6, gv 7, gv 8, gv 9, gv 10, gv 11, gv 12, gv 13, gv 14, gv 15, gv 16, .pointer (some ⟨b5, 0, none⟩), gv 18, gv 19, gv 20, gv 21, gv 22, gv 23, gv 24, gv 25, gv 26, gv 27, gv 28, gv 29, gv 30, gv 31, gv 32, gv 33, gv 34, gv 35, gv 36, gv 37, gv 38, gv 39, gv 40, gv 41, gv 42, gv 43, gv 44, gv 45, gv 46, gv 47, gv 48, gv 49, gv 50, gv 51, gv 52, gv 53, gv 54, gv 55, gv 56, gv 57, gv 58, gv 59, gv 60, gv 61, gv 62, gv 63, gv 64, gv 65, gv 66, gv 67, gv 68, gv 69, gv 70, gv 71, gv 72, gv 73, gv 74, gv 75, gv 76, gv 77, gv 78, gv 79, gv 80, gv 81, gv 82, gv 83, gv 84, gv 85, gv 86, gv 87, gv 88, gv 89, gv 90, gv 91, gv 92, gv 93, gv 94, gv 95, gv 96, gv 97, gv 98, gv 99, gv 100, gv 101, gv 102, gv 103, gv 104, gv 105, gv 106, gv 107, gv 108, gv 109, gv 110, gv 111, gv 112, gv 113, gv 114, gv 115, gv 116, gv 117, gv 118, gv 119, gv 120, gv 121, gv 122, gv 123, gv 124, gv 125, gv 126, gv 127, gv 128, gv 129, gv 130, gv 131, gv 132, gv 133, gv 134, gv 135, gv 136]) rfl (fun f gv wx => Below w.heap.size w wx ∧ (∀ j, j < 8 → (fun j => Nat.beq j 7) j = false → On f j → gv (dkN [127, 128, 129, 130, 131, 132, 133, 1007] j) = vkN [.pointer (some ⟨b5, 3, none⟩), .slice (some ⟨g, 0, none⟩) n capg, .pointer (some ⟨b1, 3, none⟩), .slice (some ⟨ba, oa, none⟩) n cap, .pointer (some ⟨ba, oa, none⟩), .agg (Bs x).toArray, .pointer (some ⟨g, 32, none⟩), undef] j) ∧ (Cel wx b1 28 [.int .i64 node, .int .i64 seq, .int .i64 gen, .slice (some ⟨ba, oa, none⟩) n cap, .int .i64 kind, .string s1, .string s2, .int .i64 num]) ∧ (Cel wx b5 28 [.int .i64 node, .int .i64 seq, .int .i64 gen, .slice (some ⟨g, 0, none⟩) n capg, .int .i64 kind, .string s1, .string s2, .int .i64 num]) ∧ ((¬ On f 7 → Cel wx g 36 (Bs y ++ (Bs y ++ R))) ∧ (On f 7 → Cel wx g 36 (Bs y ++ (Bs x ++ R)))) ∧ (Ids wx (some ⟨ba, oa, none⟩) n cap c.par)) ?_ ?_ ?_
          · have hoff : ∀ j, ¬ On (Array.replicate 8 false) j := by
              intro j hj; simp only [On, Array.getD_eq_getD_getElem?, Array.getElem?_replicate] at hj; split at hj <;> simp at hj
            exact ⟨HB18.out.drew, fun j _ _ x => absurd x (hoff _), HC18.out.step (below_drewNw _ _), HD18.out.step (below_drewNw _ _), ⟨fun _ => HG18.out.step (below_drewNw _ _), fun x => absurd x (hoff _)⟩, HI18.out.below (below_drewNw _ _)⟩
          · rintro i' o' f gv wm hio hs' hn he ⟨hBx, P, QC, QD, QG, QI⟩ KK hKK
            have hi' : i' < 8 := (Array.getElem?_eq_some_iff.1 hio).1
            replace hs' : f.size = 8 := hs'
            match i', hi' with
            | 0, _ =>
              cases hio
              have HQ := Lib.hid (And.intro P (And.intro QC (And.intro QD (And.intro QG QI))))
              clear P QC QD QG QI
              go_simp
              obtain ⟨P, QC, QD, QG, QI⟩ := HQ.out
              have bk : ∀ j, j ≠ 0 → On (f.setIfInBounds 0 true) j → On f j := fun j hj x => on_back (by omega) x hj
              have fw : ∀ j, On f j → On (f.setIfInBounds 0 true) j := fun j x => (on_put (by omega)).2 (.inr x)
              exact hKK (upd gv 127 (.pointer (some ⟨b5, 3, none⟩))) _ (by exact ⟨hBx, vals_step (n := 0) (v := .pointer (some ⟨b5, 3, none⟩)) hD (by decide) (by omega) P (fun _ => rfl), QC, QD, ⟨fun x => QG.1 (fun y => x (fw 7 y)), fun x => QG.2 (bk 7 (by decide) x)⟩, QI⟩)
            | 1, _ =>
              cases hio
              have h0 : On f 0 := he ⟨0, .data⟩ (by simp) rfl
              have e0 : gv 127 = .pointer (some ⟨b5, 3, none⟩) := P 0 (by decide) rfl h0
              have d3 : wm.cell? ⟨b5, 3, none⟩ = some (.slice (some ⟨g, 0, none⟩) n capg) := QD.at 3 _ rfl
              rw [e0]
              have HQ := Lib.hid (And.intro P (And.intro QC (And.intro QD (And.intro QG QI))))
              clear P QC QD QG QI
              go_simp
              obtain ⟨P, QC, QD, QG, QI⟩ := HQ.out
              have bk : ∀ j, j ≠ 1 → On (f.setIfInBounds 1 true) j → On f j := fun j hj x => on_back (by omega) x hj
              have fw : ∀ j, On f j → On (f.setIfInBounds 1 true) j := fun j x => (on_put (by omega)).2 (.inr x)
              exact hKK (upd (upd gv 127 (.pointer (some ⟨b5, 3, none⟩))) 128 (.slice (some ⟨g, 0, none⟩) n capg)) _ (by rw [upd_same e0]; exact ⟨hBx, vals_step (n := 1) (v := .slice (some ⟨g, 0, none⟩) n capg) hD (by decide) (by omega) P (fun _ => rfl), QC, QD, ⟨fun x => QG.1 (fun y => x (fw 7 y)), fun x => QG.2 (bk 7 (by decide) x)⟩, QI⟩)
            | 2, _ =>
              cases hio
              have HQ := Lib.hid (And.intro P (And.intro QC (And.intro QD (And.intro QG QI))))
              clear P QC QD QG QI
              go_simp
              obtain ⟨P, QC, QD, QG, QI⟩ := HQ.out
              have bk : ∀ j, j ≠ 2 → On (f.setIfInBounds 2 true) j → On f j := fun j hj x => on_back (by omega) x hj
              have fw : ∀ j, On f j → On (f.setIfInBounds 2 true) j := fun j x => (on_put (by omega)).2 (.inr x)
              exact hKK (upd gv 129 (.pointer (some ⟨b1, 3, none⟩))) _ (by exact ⟨hBx, vals_step (n := 2) (v := .pointer (some ⟨b1, 3, none⟩)) hD (by decide) (by omega) P (fun _ => rfl), QC, QD, ⟨fun x => QG.1 (fun y => x (fw 7 y)), fun x => QG.2 (bk 7 (by decide) x)⟩, QI⟩)
            | 3, _ =>
              cases hio
              have h2 : On f 2 := he ⟨2, .data⟩ (by simp) rfl
              have e2 : gv 129 = .pointer (some ⟨b1, 3, none⟩) := P 2 (by decide) rfl h2
              have d3 : wm.cell? ⟨b1, 3, none⟩ = some (.slice (some ⟨ba, oa, none⟩) n cap) := QC.at 3 _ rfl
              rw [e2]
              have HQ := Lib.hid (And.intro P (And.intro QC (And.intro QD (And.intro QG QI))))
              clear P QC QD QG QI
              go_simp
              obtain ⟨P, QC, QD, QG, QI⟩ := HQ.out
              have bk : ∀ j, j ≠ 3 → On (f.setIfInBounds 3 true) j → On f j := fun j hj x => on_back (by omega) x hj
              have fw : ∀ j, On f j → On (f.setIfInBounds 3 true) j := fun j x => (on_put (by omega)).2 (.inr x)
              exact hKK (upd (upd gv 129 (.pointer (some ⟨b1, 3, none⟩))) 130 (.slice (some ⟨ba, oa, none⟩) n cap)) _ (by rw [upd_same e2]; exact ⟨hBx, vals_step (n := 3) (v := .slice (some ⟨ba, oa, none⟩) n cap) hD (by decide) (by omega) P (fun _ => rfl), QC, QD, ⟨fun x => QG.1 (fun y => x (fw 7 y)), fun x => QG.2 (bk 7 (by decide) x)⟩, QI⟩)
            | 4, _ =>
              cases hio
              have h3 : On f 3 := he ⟨3, .data⟩ (by simp) rfl
              have e3 : gv 130 = .slice (some ⟨ba, oa, none⟩) n cap := P 3 (by decide) rfl h3
              rw [e3]
              have HQ := Lib.hid (And.intro P (And.intro QC (And.intro QD (And.intro QG QI))))
              clear P QC QD QG QI
              go_simp
              obtain ⟨P, QC, QD, QG, QI⟩ := HQ.out
              have bk : ∀ j, j ≠ 4 → On (f.setIfInBounds 4 true) j → On f j := fun j hj x => on_back (by omega) x hj
              have fw : ∀ j, On f j → On (f.setIfInBounds 4 true) j := fun j x => (on_put (by omega)).2 (.inr x)
              exact hKK (upd (upd gv 130 (.slice (some ⟨ba, oa, none⟩) n cap)) 131 (.pointer (some ⟨ba, oa, none⟩))) _ (by rw [upd_same e3]; exact ⟨hBx, vals_step (n := 4) (v := .pointer (some ⟨ba, oa, none⟩)) hD (by decide) (by omega) P (fun _ => rfl), QC, QD, ⟨fun x => QG.1 (fun y => x (fw 7 y)), fun x => QG.2 (bk 7 (by decide) x)⟩, QI⟩)
            | 5, _ =>
              cases hio
              have h4 : On f 4 := he ⟨4, .data⟩ (by simp) rfl
              have e4 : gv 131 = .pointer (some ⟨ba, oa, none⟩) := P 4 (by decide) rfl h4
              have hrg : wm.rangeAt ba (oa) (Bs x) := by
                rcases QI.cells with h0 | ⟨b9, o9, e9, hc⟩
                · omega
                · cases e9
                  have h9 := hc 0 (by omega)
                  rw [HP.out] at h9
                  simpa using h9
              rw [e4]
              have HQ := Lib.hid (And.intro P (And.intro QC (And.intro QD (And.intro QG QI))))
              clear P QC QD QG QI
              refine rng_load (by rfl) 132 rfl 36 (.tmp 131) rfl (by rfl) (Bs x) _ hrg under_ids rfl (info_x HXY.out.1) ?_
              simp only [List.setIfInBounds_toArray]
              obtain ⟨P, QC, QD, QG, QI⟩ := HQ.out
              have bk : ∀ j, j ≠ 5 → On (f.setIfInBounds 5 true) j → On f j := fun j hj x => on_back (by omega) x hj
              have fw : ∀ j, On f j → On (f.setIfInBounds 5 true) j := fun j x => (on_put (by omega)).2 (.inr x)
              exact hKK (upd (upd gv 131 (.pointer (some ⟨ba, oa, none⟩))) 132 (.agg (Bs x).toArray)) _ (by rw [upd_same e4]; exact ⟨hBx, vals_step (n := 5) (v := .agg (Bs x).toArray) hD (by decide) (by omega) P (fun _ => rfl), QC, QD, ⟨fun x => QG.1 (fun y => x (fw 7 y)), fun x => QG.2 (bk 7 (by decide) x)⟩, QI⟩)
            | 6, _ =>
              cases hio
              have h1 : On f 1 := he ⟨1, .data⟩ (by simp) rfl
              have e1 : gv 128 = .slice (some ⟨g, 0, none⟩) n capg := P 1 (by decide) rfl h1
              rw [e1]
              have HQ := Lib.hid (And.intro P (And.intro QC (And.intro QD (And.intro QG QI))))
              clear P QC QD QG QI
              go_simp
              obtain ⟨P, QC, QD, QG, QI⟩ := HQ.out
              have bk : ∀ j, j ≠ 6 → On (f.setIfInBounds 6 true) j → On f j := fun j hj x => on_back (by omega) x hj
              have fw : ∀ j, On f j → On (f.setIfInBounds 6 true) j := fun j x => (on_put (by omega)).2 (.inr x)
              exact hKK (upd (upd gv 128 (.slice (some ⟨g, 0, none⟩) n capg)) 133 (.pointer (some ⟨g, 32, none⟩))) _ (by rw [upd_same e1]; exact ⟨hBx, vals_step (n := 6) (v := .pointer (some ⟨g, 32, none⟩)) hD (by decide) (by omega) P (fun _ => rfl), QC, QD, ⟨fun x => QG.1 (fun y => x (fw 7 y)), fun x => QG.2 (bk 7 (by decide) x)⟩, QI⟩)
            | 7, _ =>
              cases hio
              have off : ¬ On f 7 := on_off (by omega) hn
              have h5 : On f 5 := he ⟨5, .data⟩ (by simp) rfl
              have e5 : gv 132 = .agg (Bs x).toArray := P 5 (by decide) rfl h5
              have h6 : On f 6 := he ⟨6, .data⟩ (by simp) rfl
              have e6 : gv 133 = .pointer (some ⟨g, 32, none⟩) := P 6 (by decide) rfl h6
              have hq := QG.1 off
              rw [e5, e6]
              have HQ := Lib.hid (And.intro P (And.intro QC (And.intro QD (And.intro QG QI))))
              clear P QC QD QG QI
              refine mid_store (by rfl) rfl 36 (.tmp 133) (.tmp 132) rfl (by rfl) (Bs x) (by rfl) hq (by rw [Bs_length]; exact HXY.out.2.1) ?_ ?_ (Bs_one _) ?_
              · rw [Bs_length, Bs_length, HXY.out.1, HXY.out.2.1]
              · exact info_x HXY.out.1
              intro w6 hc6 ho6
              have hxx := HS15.out
              obtain ⟨P, QC, QD, QG, QI⟩ := HQ.out
              have fn : On (f.setIfInBounds 7 true) 7 := (on_put (by omega)).2 (.inl rfl)
              exact hKK (upd (upd gv 132 (.agg (Bs x).toArray)) 133 (.pointer (some ⟨g, 32, none⟩))) _ (by rw [upd_same e5]; rw [upd_same e6]; exact ⟨ho6.below hBx (by omega), vals_keep (n := 7) (by omega) rfl P, ho6.heap QC (by omega), ho6.heap QD (by omega), ⟨fun x => absurd fn x, fun _ => hc6⟩, QI.only ho6 (fun z hz => by injection hz with hz; rw [← hz]; show ba ≠ g; omega)⟩)
          · rintro f gv w5 hall hs' ⟨hBx, P, QC, QD, QG, QI⟩
            replace hs' : f.size = 8 := hs'
            have on : ∀ j, j < 8 → On f j := fun j hj => on_all hall hs' j hj
            have HG19 := Lib.hid (QG.2 (on 7 (by decide)))
            have HD19 := Lib.hid QD
            have HB19 := Lib.hid hBx
            clear P QC QD QG QI hBx hall hs' on hD
            have HIS := Lib.hid (show Ids w5 (some ⟨g, 0, none⟩) n capg (y :: x :: r) from Ids.of_cel (rest := rest) (t := 36) (by have := HG19.out; rw [HR.out] at this; simpa [Bs, List.map_append, List.append_assoc] using this) (by rw [HN.out, HP.out]; rfl) (fun z hz => by
              have := HXY.out
              simp only [List.mem_cons] at hz
              rcases hz with rfl | rfl | hz
              · exact this.2.1
              · exact this.1
              · exact this.2.2 z hz) HCP.out.1 HCP.out.2)
            have p0 : w5.cell? ⟨b5, 0, none⟩ = some (.int .i64 node) := HD19.out.at 0 _ rfl
            have p1 : w5.cell? ⟨b5, 1, none⟩ = some (.int .i64 seq) := HD19.out.at 1 _ rfl
            have p2 : w5.cell? ⟨b5, 2, none⟩ = some (.int .i64 gen) := HD19.out.at 2 _ rfl
            have p3 : w5.cell? ⟨b5, 3, none⟩ = some (.slice (some ⟨g, 0, none⟩) n capg) := HD19.out.at 3 _ rfl
            have p4 : w5.cell? ⟨b5, 4, none⟩ = some (.int .i64 kind) := HD19.out.at 4 _ rfl
            have p5 : w5.cell? ⟨b5, 5, none⟩ = some (.string s1) := HD19.out.at 5 _ rfl
            have p6 : w5.cell? ⟨b5, 6, none⟩ = some (.string s2) := HD19.out.at 6 _ rfl
            have p7 : w5.cell? ⟨b5, 7, none⟩ = some (.int .i64 num) := HD19.out.at 7 _ rfl
            go_wp2_with fail
            refine (HMS.out _ g capg x y r HP.out (by first | rfl | trivial) HIS.out).mono ?_
            rintro e w20 ⟨rfl, hb⟩
            have HB20 := Lib.hid (HB19.out.step hb)
            go_wp2_with fail
            go_ret
            exact ⟨rfl, HB20.out⟩
end Go.Proofs.Ytdefdccbcnpodaa
