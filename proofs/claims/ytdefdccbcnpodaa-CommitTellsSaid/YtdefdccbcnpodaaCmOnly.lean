/- The statement CommitOnly, walked out of the contracts of what it calls. -/
import Derived.Test.YtdefdccbcnpodaaCmKinds
namespace Go.Proofs.Ytdefdccbcnpodaa
open Go.ChangeShapes Go.WideShapes Go.ChangeAt Go.RowKit
set_option linter.unusedVariables false
set_option linter.unusedSimpArgs false

theorem wpList_load_want {P : Program} {ops : Array Oper} {rest : List Oper} {op : Oper} {a : Act} {w : World} {Q : Exit → Act → World → Prop} (hw : Region.wanted op (yielded ops a.tmps) = true) (ty : TypeId) (x : Operand) (ho : op.op = .load ty x)
    (b o : Nat) (hx : a.eval x = .pointer (some ⟨b, o, none⟩)) (cs : List Value) (d : TypeDesc) (hc : w.rangeAt b o cs)
    (hu : P.underlying ty = some d) (hd : d.isRow = true) (hi : (P.info? ty).map (·.size) = some cs.length)
    (h : wpList P ops Q rest (a.put op.dst (.agg cs.toArray)) w) : wpList P ops Q (op :: rest) a w :=
  wpList_step fun K hK => by rw [if_pos hw]; exact wp_load_mid ty x ho b o hx cs d hc hu hd hi (hK _ _ h)
theorem only_plain (c d : Cmt) (h1 : mayC c = true) (h2 : mayC d = true) (h3 : all32 c.par) (h4 : all32 d.par) : decide (putC c = putC d) = decide (c = d) :=
  decide_eq_decide.2 ⟨fun h => putC_only h1 h2 h3 h4 h, fun h => by rw [h]⟩

set_option maxRecDepth 100000 in
set_option maxHeartbeats 16000000 in
theorem commitOnly_walk (c d : Cmt) (a a2 : Option Addr) (cap cap2 : Nat) (w : World) (hr : CmR w c a cap) (hr2 : CmR w d a2 cap2) : Calls Try.prog 6 #[c.val a cap, d.val a2 cap2] w fun e w' => e = .returned (.bool true) ∧ Below w.heap.size w w' := by
  have HFE := Lib.hid (fun w' h => fewc_any c a cap w' h)
  have HFE2 := Lib.hid (fun w' h => fewc_any d a2 cap2 w' h)
  have HMA := Lib.hid (fun w' h => cmay_any c a cap w' h)
  have HMA2 := Lib.hid (fun w' h => cmay_any d a2 cap2 w' h)
  have HPU := Lib.hid (fun w' h => cput_any c a cap w' h)
  have HPU2 := Lib.hid (fun w' h => cput_any d a2 cap2 w' h)
  have HHA := Lib.hid (fun w' h => chash_any c a cap w' h hr.ids.is32)
  have HHA2 := Lib.hid (fun w' h => chash_any d a2 cap2 w' h hr2.ids.is32)
  have HSA := Lib.hid (fun w' h h' => csame_any c d a a2 cap cap2 w' h h')
  have HRC := Lib.hid hr
  have HRC2 := Lib.hid hr2
  have HPL := Lib.hid (fun h1 h2 => only_plain c d h1 h2 hr.ids.is32 hr2.ids.is32)
  unfold CPutP at HPU HPU2
  unfold CHashP at HHA HHA2
  obtain ⟨few, hfew⟩ : ∃ b, b = fewC c := ⟨_, rfl⟩
  obtain ⟨few2, hfew2⟩ : ∃ b, b = fewC d := ⟨_, rfl⟩
  obtain ⟨may, hmay⟩ : ∃ b, b = mayC c := ⟨_, rfl⟩
  obtain ⟨may2, hmay2⟩ : ∃ b, b = mayC d := ⟨_, rfl⟩
  obtain ⟨same, hsame⟩ : ∃ b, b = decide (c = d) := ⟨_, rfl⟩
  rw [← hfew] at HFE
  rw [← hfew2] at HFE2
  rw [← hmay] at HMA HPU HHA HPL
  rw [← hmay2] at HMA2 HPU2 HHA2 HPL
  rw [← hsame] at HSA HPL
  obtain ⟨X, hX⟩ : ∃ X, X = putC c := ⟨_, rfl⟩
  obtain ⟨Y, hY⟩ : ∃ X, X = putC d := ⟨_, rfl⟩
  rw [← hX] at HPU HHA HPL
  rw [← hY] at HPU2 HHA2 HPL
  obtain ⟨X2, hX2⟩ : ∃ x, x = hashL X := ⟨_, rfl⟩
  obtain ⟨Y2, hY2⟩ : ∃ x, x = hashL Y := ⟨_, rfl⟩
  rw [← hX2] at HHA
  rw [← hY2] at HHA2
  have HX2 := Lib.hid (show X2.length = 32 by rw [hX2]; exact hashL_length X)
  have HY2 := Lib.hid (show Y2.length = 32 by rw [hY2]; exact hashL_length Y)
  have HXY := Lib.hid (show X = Y → X2 = Y2 from fun h => by rw [hX2, hY2, h])
  obtain ⟨lx, hlx⟩ : ∃ l, l = X.length := ⟨_, rfl⟩
  obtain ⟨ly, hly⟩ : ∃ l, l = Y.length := ⟨_, rfl⟩
  rw [← hlx] at HPU
  rw [← hly] at HPU2
  unfold arr at HHA HHA2
  unfold Cmt.val Cmt.cs at HFE HFE2 HMA HMA2 HPU HPU2 HHA HHA2 HSA ⊢
  obtain ⟨n, hn⟩ : ∃ x, x = c.par.length := ⟨_, rfl⟩
  obtain ⟨node, hnode⟩ : ∃ x, x = c.node := ⟨_, rfl⟩
  obtain ⟨seq, hseq⟩ : ∃ x, x = c.seq := ⟨_, rfl⟩
  obtain ⟨gen, hgen⟩ : ∃ x, x = c.gen := ⟨_, rfl⟩
  obtain ⟨kind, hkind⟩ : ∃ x, x = c.op.kind := ⟨_, rfl⟩
  obtain ⟨num, hnum⟩ : ∃ x, x = c.op.num := ⟨_, rfl⟩
  obtain ⟨s1, hs1⟩ : ∃ s : ByteArray, s = ⟨c.op.key.toArray⟩ := ⟨_, rfl⟩
  obtain ⟨s2, hs2⟩ : ∃ s : ByteArray, s = ⟨c.op.elem.toArray⟩ := ⟨_, rfl⟩
  try rw [← hn] at HFE
  try rw [← hnode] at HFE
  try rw [← hseq] at HFE
  try rw [← hgen] at HFE
  try rw [← hkind] at HFE
  try rw [← hnum] at HFE
  try rw [← hs1] at HFE
  try rw [← hs2] at HFE
  try rw [← hn] at HMA
  try rw [← hnode] at HMA
  try rw [← hseq] at HMA
  try rw [← hgen] at HMA
  try rw [← hkind] at HMA
  try rw [← hnum] at HMA
  try rw [← hs1] at HMA
  try rw [← hs2] at HMA
  try rw [← hn] at HPU
  try rw [← hnode] at HPU
  try rw [← hseq] at HPU
  try rw [← hgen] at HPU
  try rw [← hkind] at HPU
  try rw [← hnum] at HPU
  try rw [← hs1] at HPU
  try rw [← hs2] at HPU
  try rw [← hn] at HHA
  try rw [← hnode] at HHA
  try rw [← hseq] at HHA
  try rw [← hgen] at HHA
  try rw [← hkind] at HHA
  try rw [← hnum] at HHA
  try rw [← hs1] at HHA
  try rw [← hs2] at HHA
  try rw [← hn] at HSA
  try rw [← hnode] at HSA
  try rw [← hseq] at HSA
  try rw [← hgen] at HSA
  try rw [← hkind] at HSA
  try rw [← hnum] at HSA
  try rw [← hs1] at HSA
  try rw [← hs2] at HSA
  try rw [← hn] at ⊢
  try rw [← hnode] at ⊢
  try rw [← hseq] at ⊢
  try rw [← hgen] at ⊢
  try rw [← hkind] at ⊢
  try rw [← hnum] at ⊢
  try rw [← hs1] at ⊢
  try rw [← hs2] at ⊢
  obtain ⟨n2, hn2⟩ : ∃ x, x = d.par.length := ⟨_, rfl⟩
  obtain ⟨node2, hnode2⟩ : ∃ x, x = d.node := ⟨_, rfl⟩
  obtain ⟨seq2, hseq2⟩ : ∃ x, x = d.seq := ⟨_, rfl⟩
  obtain ⟨gen2, hgen2⟩ : ∃ x, x = d.gen := ⟨_, rfl⟩
  obtain ⟨kind2, hkind2⟩ : ∃ x, x = d.op.kind := ⟨_, rfl⟩
  obtain ⟨num2, hnum2⟩ : ∃ x, x = d.op.num := ⟨_, rfl⟩
  obtain ⟨s12, hs12⟩ : ∃ s : ByteArray, s = ⟨d.op.key.toArray⟩ := ⟨_, rfl⟩
  obtain ⟨s22, hs22⟩ : ∃ s : ByteArray, s = ⟨d.op.elem.toArray⟩ := ⟨_, rfl⟩
  try rw [← hn2] at HFE2
  try rw [← hnode2] at HFE2
  try rw [← hseq2] at HFE2
  try rw [← hgen2] at HFE2
  try rw [← hkind2] at HFE2
  try rw [← hnum2] at HFE2
  try rw [← hs12] at HFE2
  try rw [← hs22] at HFE2
  try rw [← hn2] at HMA2
  try rw [← hnode2] at HMA2
  try rw [← hseq2] at HMA2
  try rw [← hgen2] at HMA2
  try rw [← hkind2] at HMA2
  try rw [← hnum2] at HMA2
  try rw [← hs12] at HMA2
  try rw [← hs22] at HMA2
  try rw [← hn2] at HPU2
  try rw [← hnode2] at HPU2
  try rw [← hseq2] at HPU2
  try rw [← hgen2] at HPU2
  try rw [← hkind2] at HPU2
  try rw [← hnum2] at HPU2
  try rw [← hs12] at HPU2
  try rw [← hs22] at HPU2
  try rw [← hn2] at HHA2
  try rw [← hnode2] at HHA2
  try rw [← hseq2] at HHA2
  try rw [← hgen2] at HHA2
  try rw [← hkind2] at HHA2
  try rw [← hnum2] at HHA2
  try rw [← hs12] at HHA2
  try rw [← hs22] at HHA2
  try rw [← hn2] at HSA
  try rw [← hnode2] at HSA
  try rw [← hseq2] at HSA
  try rw [← hgen2] at HSA
  try rw [← hkind2] at HSA
  try rw [← hnum2] at HSA
  try rw [← hs12] at HSA
  try rw [← hs22] at HSA
  try rw [← hn2] at ⊢
  try rw [← hnode2] at ⊢
  try rw [← hseq2] at ⊢
  try rw [← hgen2] at ⊢
  try rw [← hkind2] at ⊢
  try rw [← hnum2] at ⊢
  try rw [← hs12] at ⊢
  try rw [← hs22] at ⊢
  clear hr hr2 hfew hfew2 hmay hmay2 hsame hX hY hX2 hY2 hlx hly hn hnode hseq hgen hkind hnum hs1 hs2 hn2 hnode2 hseq2 hgen2 hkind2 hnum2 hs12 hs22
  go_enter Try.func6, Try.ntmps6
  go_upto_region 1 with fail
  obtain ⟨w1, hw1⟩ : ∃ w1, w1 = w.alloc (.cells ([.int .i64 node, .int .i64 seq, .int .i64 gen, .slice a n cap, .int .i64 kind, .string s1, .string s2, .int .i64 num] : List Value).toArray 28) := ⟨_, rfl⟩
  obtain ⟨w2, hw2⟩ : ∃ w2, w2 = w1.alloc (.cells ([.int .i64 node2, .int .i64 seq2, .int .i64 gen2, .slice a2 n2 cap2, .int .i64 kind2, .string s12, .string s22, .int .i64 num2] : List Value).toArray 28) := ⟨_, rfl⟩
  have z1 : w1.heap.size = w.heap.size + 1 := by rw [hw1]; exact size_alloc' _ _
  have b01 : Below w.heap.size w w1 := by rw [hw1]; exact (Below.refl _ _).alloc (Nat.le_refl _) _
  have b12 : Below w1.heap.size w1 w2 := by rw [hw2]; exact (Below.refl _ _).alloc (Nat.le_refl _) _
  have c1 : Cel w1 w.heap.size 28 [.int .i64 node, .int .i64 seq, .int .i64 gen, .slice a n cap, .int .i64 kind, .string s1, .string s2, .int .i64 num] := by rw [hw1]; exact Cel.new w _ _
  have c2 : Cel w2 (w.heap.size + 1) 28 [.int .i64 node2, .int .i64 seq2, .int .i64 gen2, .slice a2 n2 cap2, .int .i64 kind2, .string s12, .string s22, .int .i64 num2] := by rw [hw2, ← z1]; exact Cel.new w1 _ _
  generalize hwg : World.alloc (World.alloc w _) _ = wG
  obtain rfl : w2 = wG := by rw [← hwg, hw2, hw1]
  obtain ⟨b1, hb1⟩ : ∃ b, b = w.heap.size := ⟨_, rfl⟩
  obtain ⟨b2, hb2⟩ : ∃ b, b = w.heap.size + 1 := ⟨_, rfl⟩
  rw [← hb2] at c2 ⊢
  rw [← hb1] at c1 ⊢
  have HC2 := Lib.hid (c1.step b12)
  have HE2 := Lib.hid c2
  have HB2 := Lib.hid (b01.step b12)
  clear hwg hw1 hw2 z1 b01 b12 c1 c2 hb1 hb2
  go_wp2_with fail
  refine (awake10 _).mono ?_
  rintro e w3 ⟨rfl, hb⟩
  have HC3 := Lib.hid (HC2.out.step hb)
  have HE3 := Lib.hid (HE2.out.step hb)
  have HB3 := Lib.hid (HB2.out.step hb)
  clear hb
  have p0 : w3.cell? ⟨b1, 0, none⟩ = some (.int .i64 node) := HC3.out.at 0 _ rfl
  have p1 : w3.cell? ⟨b1, 1, none⟩ = some (.int .i64 seq) := HC3.out.at 1 _ rfl
  have p2 : w3.cell? ⟨b1, 2, none⟩ = some (.int .i64 gen) := HC3.out.at 2 _ rfl
  have p3 : w3.cell? ⟨b1, 3, none⟩ = some (.slice a n cap) := HC3.out.at 3 _ rfl
  have p4 : w3.cell? ⟨b1, 4, none⟩ = some (.int .i64 kind) := HC3.out.at 4 _ rfl
  have p5 : w3.cell? ⟨b1, 5, none⟩ = some (.string s1) := HC3.out.at 5 _ rfl
  have p6 : w3.cell? ⟨b1, 6, none⟩ = some (.string s2) := HC3.out.at 6 _ rfl
  have p7 : w3.cell? ⟨b1, 7, none⟩ = some (.int .i64 num) := HC3.out.at 7 _ rfl
  have q0 : w3.cell? ⟨b2, 0, none⟩ = some (.int .i64 node2) := HE3.out.at 0 _ rfl
  have q1 : w3.cell? ⟨b2, 1, none⟩ = some (.int .i64 seq2) := HE3.out.at 1 _ rfl
  have q2 : w3.cell? ⟨b2, 2, none⟩ = some (.int .i64 gen2) := HE3.out.at 2 _ rfl
  have q3 : w3.cell? ⟨b2, 3, none⟩ = some (.slice a2 n2 cap2) := HE3.out.at 3 _ rfl
  have q4 : w3.cell? ⟨b2, 4, none⟩ = some (.int .i64 kind2) := HE3.out.at 4 _ rfl
  have q5 : w3.cell? ⟨b2, 5, none⟩ = some (.string s12) := HE3.out.at 5 _ rfl
  have q6 : w3.cell? ⟨b2, 6, none⟩ = some (.string s22) := HE3.out.at 6 _ rfl
  have q7 : w3.cell? ⟨b2, 7, none⟩ = some (.int .i64 num2) := HE3.out.at 7 _ rfl
  go_wp2_with fail
  refine (HFE.out _ (HRC.out.below HB3.out)).mono ?_
  rintro e w4 ⟨rfl, hb⟩
  have HC4 := Lib.hid (HC3.out.step hb)
  have HE4 := Lib.hid (HE3.out.step hb)
  have HB4 := Lib.hid (HB3.out.step hb)
  clear p0 p1 p2 p3 p4 p5 p6 p7 q0 q1 q2 q3 q4 q5 q6 q7
  clear hb
  have p0 : w4.cell? ⟨b1, 0, none⟩ = some (.int .i64 node) := HC4.out.at 0 _ rfl
  have p1 : w4.cell? ⟨b1, 1, none⟩ = some (.int .i64 seq) := HC4.out.at 1 _ rfl
  have p2 : w4.cell? ⟨b1, 2, none⟩ = some (.int .i64 gen) := HC4.out.at 2 _ rfl
  have p3 : w4.cell? ⟨b1, 3, none⟩ = some (.slice a n cap) := HC4.out.at 3 _ rfl
  have p4 : w4.cell? ⟨b1, 4, none⟩ = some (.int .i64 kind) := HC4.out.at 4 _ rfl
  have p5 : w4.cell? ⟨b1, 5, none⟩ = some (.string s1) := HC4.out.at 5 _ rfl
  have p6 : w4.cell? ⟨b1, 6, none⟩ = some (.string s2) := HC4.out.at 6 _ rfl
  have p7 : w4.cell? ⟨b1, 7, none⟩ = some (.int .i64 num) := HC4.out.at 7 _ rfl
  have q0 : w4.cell? ⟨b2, 0, none⟩ = some (.int .i64 node2) := HE4.out.at 0 _ rfl
  have q1 : w4.cell? ⟨b2, 1, none⟩ = some (.int .i64 seq2) := HE4.out.at 1 _ rfl
  have q2 : w4.cell? ⟨b2, 2, none⟩ = some (.int .i64 gen2) := HE4.out.at 2 _ rfl
  have q3 : w4.cell? ⟨b2, 3, none⟩ = some (.slice a2 n2 cap2) := HE4.out.at 3 _ rfl
  have q4 : w4.cell? ⟨b2, 4, none⟩ = some (.int .i64 kind2) := HE4.out.at 4 _ rfl
  have q5 : w4.cell? ⟨b2, 5, none⟩ = some (.string s12) := HE4.out.at 5 _ rfl
  have q6 : w4.cell? ⟨b2, 6, none⟩ = some (.string s22) := HE4.out.at 6 _ rfl
  have q7 : w4.cell? ⟨b2, 7, none⟩ = some (.int .i64 num2) := HE4.out.at 7 _ rfl
  go_wp2_with fail
  refine (HFE2.out _ (HRC2.out.below HB4.out)).mono ?_
  rintro e w5 ⟨rfl, hb⟩
  have HC5 := Lib.hid (HC4.out.step hb)
  have HE5 := Lib.hid (HE4.out.step hb)
  have HB5 := Lib.hid (HB4.out.step hb)
  clear p0 p1 p2 p3 p4 p5 p6 p7 q0 q1 q2 q3 q4 q5 q6 q7
  clear hb
  have p0 : w5.cell? ⟨b1, 0, none⟩ = some (.int .i64 node) := HC5.out.at 0 _ rfl
  have p1 : w5.cell? ⟨b1, 1, none⟩ = some (.int .i64 seq) := HC5.out.at 1 _ rfl
  have p2 : w5.cell? ⟨b1, 2, none⟩ = some (.int .i64 gen) := HC5.out.at 2 _ rfl
  have p3 : w5.cell? ⟨b1, 3, none⟩ = some (.slice a n cap) := HC5.out.at 3 _ rfl
  have p4 : w5.cell? ⟨b1, 4, none⟩ = some (.int .i64 kind) := HC5.out.at 4 _ rfl
  have p5 : w5.cell? ⟨b1, 5, none⟩ = some (.string s1) := HC5.out.at 5 _ rfl
  have p6 : w5.cell? ⟨b1, 6, none⟩ = some (.string s2) := HC5.out.at 6 _ rfl
  have p7 : w5.cell? ⟨b1, 7, none⟩ = some (.int .i64 num) := HC5.out.at 7 _ rfl
  have q0 : w5.cell? ⟨b2, 0, none⟩ = some (.int .i64 node2) := HE5.out.at 0 _ rfl
  have q1 : w5.cell? ⟨b2, 1, none⟩ = some (.int .i64 seq2) := HE5.out.at 1 _ rfl
  have q2 : w5.cell? ⟨b2, 2, none⟩ = some (.int .i64 gen2) := HE5.out.at 2 _ rfl
  have q3 : w5.cell? ⟨b2, 3, none⟩ = some (.slice a2 n2 cap2) := HE5.out.at 3 _ rfl
  have q4 : w5.cell? ⟨b2, 4, none⟩ = some (.int .i64 kind2) := HE5.out.at 4 _ rfl
  have q5 : w5.cell? ⟨b2, 5, none⟩ = some (.string s12) := HE5.out.at 5 _ rfl
  have q6 : w5.cell? ⟨b2, 6, none⟩ = some (.string s22) := HE5.out.at 6 _ rfl
  have q7 : w5.cell? ⟨b2, 7, none⟩ = some (.int .i64 num2) := HE5.out.at 7 _ rfl
  cases few with
  | false =>
    go_wp2_with fail
    go_ret
    exact ⟨rfl, HB5.out⟩
  | true =>
  cases few2 with
  | false =>
    go_wp2_with fail
    go_ret
    exact ⟨rfl, HB5.out⟩
  | true =>
  go_wp2_with fail
  refine (HMA.out _ (HRC.out.below HB5.out)).mono ?_
  rintro e w6 ⟨rfl, hb⟩
  have HC6 := Lib.hid (HC5.out.step hb)
  have HE6 := Lib.hid (HE5.out.step hb)
  have HB6 := Lib.hid (HB5.out.step hb)
  clear p0 p1 p2 p3 p4 p5 p6 p7 q0 q1 q2 q3 q4 q5 q6 q7
  clear hb
  have p0 : w6.cell? ⟨b1, 0, none⟩ = some (.int .i64 node) := HC6.out.at 0 _ rfl
  have p1 : w6.cell? ⟨b1, 1, none⟩ = some (.int .i64 seq) := HC6.out.at 1 _ rfl
  have p2 : w6.cell? ⟨b1, 2, none⟩ = some (.int .i64 gen) := HC6.out.at 2 _ rfl
  have p3 : w6.cell? ⟨b1, 3, none⟩ = some (.slice a n cap) := HC6.out.at 3 _ rfl
  have p4 : w6.cell? ⟨b1, 4, none⟩ = some (.int .i64 kind) := HC6.out.at 4 _ rfl
  have p5 : w6.cell? ⟨b1, 5, none⟩ = some (.string s1) := HC6.out.at 5 _ rfl
  have p6 : w6.cell? ⟨b1, 6, none⟩ = some (.string s2) := HC6.out.at 6 _ rfl
  have p7 : w6.cell? ⟨b1, 7, none⟩ = some (.int .i64 num) := HC6.out.at 7 _ rfl
  have q0 : w6.cell? ⟨b2, 0, none⟩ = some (.int .i64 node2) := HE6.out.at 0 _ rfl
  have q1 : w6.cell? ⟨b2, 1, none⟩ = some (.int .i64 seq2) := HE6.out.at 1 _ rfl
  have q2 : w6.cell? ⟨b2, 2, none⟩ = some (.int .i64 gen2) := HE6.out.at 2 _ rfl
  have q3 : w6.cell? ⟨b2, 3, none⟩ = some (.slice a2 n2 cap2) := HE6.out.at 3 _ rfl
  have q4 : w6.cell? ⟨b2, 4, none⟩ = some (.int .i64 kind2) := HE6.out.at 4 _ rfl
  have q5 : w6.cell? ⟨b2, 5, none⟩ = some (.string s12) := HE6.out.at 5 _ rfl
  have q6 : w6.cell? ⟨b2, 6, none⟩ = some (.string s22) := HE6.out.at 6 _ rfl
  have q7 : w6.cell? ⟨b2, 7, none⟩ = some (.int .i64 num2) := HE6.out.at 7 _ rfl
  cases may with
  | false =>
    go_wp2_with fail
    go_ret
    exact ⟨rfl, HB6.out⟩
  | true =>
  go_wp2_with fail
  refine (HMA2.out _ (HRC2.out.below HB6.out)).mono ?_
  rintro e w7 ⟨rfl, hb⟩
  have HC7 := Lib.hid (HC6.out.step hb)
  have HE7 := Lib.hid (HE6.out.step hb)
  have HB7 := Lib.hid (HB6.out.step hb)
  clear p0 p1 p2 p3 p4 p5 p6 p7 q0 q1 q2 q3 q4 q5 q6 q7
  clear hb
  have p0 : w7.cell? ⟨b1, 0, none⟩ = some (.int .i64 node) := HC7.out.at 0 _ rfl
  have p1 : w7.cell? ⟨b1, 1, none⟩ = some (.int .i64 seq) := HC7.out.at 1 _ rfl
  have p2 : w7.cell? ⟨b1, 2, none⟩ = some (.int .i64 gen) := HC7.out.at 2 _ rfl
  have p3 : w7.cell? ⟨b1, 3, none⟩ = some (.slice a n cap) := HC7.out.at 3 _ rfl
  have p4 : w7.cell? ⟨b1, 4, none⟩ = some (.int .i64 kind) := HC7.out.at 4 _ rfl
  have p5 : w7.cell? ⟨b1, 5, none⟩ = some (.string s1) := HC7.out.at 5 _ rfl
  have p6 : w7.cell? ⟨b1, 6, none⟩ = some (.string s2) := HC7.out.at 6 _ rfl
  have p7 : w7.cell? ⟨b1, 7, none⟩ = some (.int .i64 num) := HC7.out.at 7 _ rfl
  have q0 : w7.cell? ⟨b2, 0, none⟩ = some (.int .i64 node2) := HE7.out.at 0 _ rfl
  have q1 : w7.cell? ⟨b2, 1, none⟩ = some (.int .i64 seq2) := HE7.out.at 1 _ rfl
  have q2 : w7.cell? ⟨b2, 2, none⟩ = some (.int .i64 gen2) := HE7.out.at 2 _ rfl
  have q3 : w7.cell? ⟨b2, 3, none⟩ = some (.slice a2 n2 cap2) := HE7.out.at 3 _ rfl
  have q4 : w7.cell? ⟨b2, 4, none⟩ = some (.int .i64 kind2) := HE7.out.at 4 _ rfl
  have q5 : w7.cell? ⟨b2, 5, none⟩ = some (.string s12) := HE7.out.at 5 _ rfl
  have q6 : w7.cell? ⟨b2, 6, none⟩ = some (.string s22) := HE7.out.at 6 _ rfl
  have q7 : w7.cell? ⟨b2, 7, none⟩ = some (.int .i64 num2) := HE7.out.at 7 _ rfl
  cases may2 with
  | false =>
    go_wp2_with fail
    go_ret
    exact ⟨rfl, HB7.out⟩
  | true =>
  have HPM := Lib.hid (HPL.out (by first | rfl | trivial) (by first | rfl | trivial))
  simp only [if_true] at HPU HPU2 HHA HHA2
  go_wp2_with fail
  refine (HPU.out _ (HRC.out.below HB7.out)).mono ?_
  rintro e w8 ⟨a8, c8, rfl, hr8, hz8, hb⟩
  have HC8 := Lib.hid (HC7.out.step hb)
  have HE8 := Lib.hid (HE7.out.step hb)
  have HB8 := Lib.hid (HB7.out.step hb)
  have HX8 := Lib.hid (And.intro hr8 hz8)
  clear hr8 hz8
  clear p0 p1 p2 p3 p4 p5 p6 p7 q0 q1 q2 q3 q4 q5 q6 q7
  clear hb
  have p0 : w8.cell? ⟨b1, 0, none⟩ = some (.int .i64 node) := HC8.out.at 0 _ rfl
  have p1 : w8.cell? ⟨b1, 1, none⟩ = some (.int .i64 seq) := HC8.out.at 1 _ rfl
  have p2 : w8.cell? ⟨b1, 2, none⟩ = some (.int .i64 gen) := HC8.out.at 2 _ rfl
  have p3 : w8.cell? ⟨b1, 3, none⟩ = some (.slice a n cap) := HC8.out.at 3 _ rfl
  have p4 : w8.cell? ⟨b1, 4, none⟩ = some (.int .i64 kind) := HC8.out.at 4 _ rfl
  have p5 : w8.cell? ⟨b1, 5, none⟩ = some (.string s1) := HC8.out.at 5 _ rfl
  have p6 : w8.cell? ⟨b1, 6, none⟩ = some (.string s2) := HC8.out.at 6 _ rfl
  have p7 : w8.cell? ⟨b1, 7, none⟩ = some (.int .i64 num) := HC8.out.at 7 _ rfl
  have q0 : w8.cell? ⟨b2, 0, none⟩ = some (.int .i64 node2) := HE8.out.at 0 _ rfl
  have q1 : w8.cell? ⟨b2, 1, none⟩ = some (.int .i64 seq2) := HE8.out.at 1 _ rfl
  have q2 : w8.cell? ⟨b2, 2, none⟩ = some (.int .i64 gen2) := HE8.out.at 2 _ rfl
  have q3 : w8.cell? ⟨b2, 3, none⟩ = some (.slice a2 n2 cap2) := HE8.out.at 3 _ rfl
  have q4 : w8.cell? ⟨b2, 4, none⟩ = some (.int .i64 kind2) := HE8.out.at 4 _ rfl
  have q5 : w8.cell? ⟨b2, 5, none⟩ = some (.string s12) := HE8.out.at 5 _ rfl
  have q6 : w8.cell? ⟨b2, 6, none⟩ = some (.string s22) := HE8.out.at 6 _ rfl
  have q7 : w8.cell? ⟨b2, 7, none⟩ = some (.int .i64 num2) := HE8.out.at 7 _ rfl
  go_wp2_with fail
  refine (HPU2.out _ (HRC2.out.below HB8.out)).mono ?_
  rintro e w9 ⟨a9, c9, rfl, hr9, hz9, hb⟩
  have HC9 := Lib.hid (HC8.out.step hb)
  have HE9 := Lib.hid (HE8.out.step hb)
  have HB9 := Lib.hid (HB8.out.step hb)
  have HX9 := Lib.hid (HX8.out.1.below hb)
  have HY9 := Lib.hid hr9
  clear hr9 hz9
  clear p0 p1 p2 p3 p4 p5 p6 p7 q0 q1 q2 q3 q4 q5 q6 q7
  clear hb
  have p0 : w9.cell? ⟨b1, 0, none⟩ = some (.int .i64 node) := HC9.out.at 0 _ rfl
  have p1 : w9.cell? ⟨b1, 1, none⟩ = some (.int .i64 seq) := HC9.out.at 1 _ rfl
  have p2 : w9.cell? ⟨b1, 2, none⟩ = some (.int .i64 gen) := HC9.out.at 2 _ rfl
  have p3 : w9.cell? ⟨b1, 3, none⟩ = some (.slice a n cap) := HC9.out.at 3 _ rfl
  have p4 : w9.cell? ⟨b1, 4, none⟩ = some (.int .i64 kind) := HC9.out.at 4 _ rfl
  have p5 : w9.cell? ⟨b1, 5, none⟩ = some (.string s1) := HC9.out.at 5 _ rfl
  have p6 : w9.cell? ⟨b1, 6, none⟩ = some (.string s2) := HC9.out.at 6 _ rfl
  have p7 : w9.cell? ⟨b1, 7, none⟩ = some (.int .i64 num) := HC9.out.at 7 _ rfl
  have q0 : w9.cell? ⟨b2, 0, none⟩ = some (.int .i64 node2) := HE9.out.at 0 _ rfl
  have q1 : w9.cell? ⟨b2, 1, none⟩ = some (.int .i64 seq2) := HE9.out.at 1 _ rfl
  have q2 : w9.cell? ⟨b2, 2, none⟩ = some (.int .i64 gen2) := HE9.out.at 2 _ rfl
  have q3 : w9.cell? ⟨b2, 3, none⟩ = some (.slice a2 n2 cap2) := HE9.out.at 3 _ rfl
  have q4 : w9.cell? ⟨b2, 4, none⟩ = some (.int .i64 kind2) := HE9.out.at 4 _ rfl
  have q5 : w9.cell? ⟨b2, 5, none⟩ = some (.string s12) := HE9.out.at 5 _ rfl
  have q6 : w9.cell? ⟨b2, 6, none⟩ = some (.string s22) := HE9.out.at 6 _ rfl
  have q7 : w9.cell? ⟨b2, 7, none⟩ = some (.int .i64 num2) := HE9.out.at 7 _ rfl
  go_wp2_with fail
  refine (HHA.out _ (HRC.out.below HB9.out)).mono ?_
  rintro e wa ⟨rfl, hb⟩
  rename_i K9 hK9
  refine hK9 _ _ ?_
  clear hK9 K9
  iterate 8 go_step
  rename_i K9 hK9
  refine hK9 _ _ ?_
  clear hK9 K9
  refine wpList_new_store rfl rfl 36 12 (.tmp 56) rfl rfl rfl rfl (Bs zero32) (Bs X2) (by kernel_rfl) (by simp) rfl (by rw [Bs_length, Bs_length, zero32_length, HX2.out]) (info_x HX2.out) (Bs_one X2) ?_
  intro w10 hd hb2
  obtain ⟨bx, hbb⟩ : ∃ b, b = wa.heap.size := ⟨_, rfl⟩
  rw [← hbb] at hd ⊢
  have HC10 := Lib.hid ((HC9.out.step hb).step hb2)
  have HE10 := Lib.hid ((HE9.out.step hb).step hb2)
  have HB10 := Lib.hid ((HB9.out.step hb).step hb2)
  have HX10 := Lib.hid ((HX9.out.below hb).below hb2)
  have HY10 := Lib.hid ((HY9.out.below hb).below hb2)
  have HDbx := Lib.hid hd
  clear hb hb2 hd hbb
  clear p0 p1 p2 p3 p4 p5 p6 p7 q0 q1 q2 q3 q4 q5 q6 q7
  have p0 : w10.cell? ⟨b1, 0, none⟩ = some (.int .i64 node) := HC10.out.at 0 _ rfl
  have p1 : w10.cell? ⟨b1, 1, none⟩ = some (.int .i64 seq) := HC10.out.at 1 _ rfl
  have p2 : w10.cell? ⟨b1, 2, none⟩ = some (.int .i64 gen) := HC10.out.at 2 _ rfl
  have p3 : w10.cell? ⟨b1, 3, none⟩ = some (.slice a n cap) := HC10.out.at 3 _ rfl
  have p4 : w10.cell? ⟨b1, 4, none⟩ = some (.int .i64 kind) := HC10.out.at 4 _ rfl
  have p5 : w10.cell? ⟨b1, 5, none⟩ = some (.string s1) := HC10.out.at 5 _ rfl
  have p6 : w10.cell? ⟨b1, 6, none⟩ = some (.string s2) := HC10.out.at 6 _ rfl
  have p7 : w10.cell? ⟨b1, 7, none⟩ = some (.int .i64 num) := HC10.out.at 7 _ rfl
  have q0 : w10.cell? ⟨b2, 0, none⟩ = some (.int .i64 node2) := HE10.out.at 0 _ rfl
  have q1 : w10.cell? ⟨b2, 1, none⟩ = some (.int .i64 seq2) := HE10.out.at 1 _ rfl
  have q2 : w10.cell? ⟨b2, 2, none⟩ = some (.int .i64 gen2) := HE10.out.at 2 _ rfl
  have q3 : w10.cell? ⟨b2, 3, none⟩ = some (.slice a2 n2 cap2) := HE10.out.at 3 _ rfl
  have q4 : w10.cell? ⟨b2, 4, none⟩ = some (.int .i64 kind2) := HE10.out.at 4 _ rfl
  have q5 : w10.cell? ⟨b2, 5, none⟩ = some (.string s12) := HE10.out.at 5 _ rfl
  have q6 : w10.cell? ⟨b2, 6, none⟩ = some (.string s22) := HE10.out.at 6 _ rfl
  have q7 : w10.cell? ⟨b2, 7, none⟩ = some (.int .i64 num2) := HE10.out.at 7 _ rfl
  go_wp2_with fail
  refine (HHA2.out _ (HRC2.out.below HB10.out)).mono ?_
  rintro e wb ⟨rfl, hb⟩
  rename_i K9 hK9
  refine hK9 _ _ ?_
  clear hK9 K9
  iterate 8 go_step
  rename_i K9 hK9
  refine hK9 _ _ ?_
  clear hK9 K9
  refine wpList_new_store rfl rfl 36 14 (.tmp 61) rfl rfl rfl rfl (Bs zero32) (Bs Y2) (by kernel_rfl) (by simp) rfl (by rw [Bs_length, Bs_length, zero32_length, HY2.out]) (info_x HY2.out) (Bs_one Y2) ?_
  intro w11 hd hb2
  obtain ⟨by_, hbb⟩ : ∃ b, b = wb.heap.size := ⟨_, rfl⟩
  rw [← hbb] at hd ⊢
  have HC11 := Lib.hid ((HC10.out.step hb).step hb2)
  have HE11 := Lib.hid ((HE10.out.step hb).step hb2)
  have HB11 := Lib.hid ((HB10.out.step hb).step hb2)
  have HX11 := Lib.hid ((HX10.out.below hb).below hb2)
  have HY11 := Lib.hid ((HY10.out.below hb).below hb2)
  have HDbx1 := Lib.hid ((HDbx.out.step hb).step hb2)
  have HDby_ := Lib.hid hd
  clear hb hb2 hd hbb
  clear p0 p1 p2 p3 p4 p5 p6 p7 q0 q1 q2 q3 q4 q5 q6 q7
  have p0 : w11.cell? ⟨b1, 0, none⟩ = some (.int .i64 node) := HC11.out.at 0 _ rfl
  have p1 : w11.cell? ⟨b1, 1, none⟩ = some (.int .i64 seq) := HC11.out.at 1 _ rfl
  have p2 : w11.cell? ⟨b1, 2, none⟩ = some (.int .i64 gen) := HC11.out.at 2 _ rfl
  have p3 : w11.cell? ⟨b1, 3, none⟩ = some (.slice a n cap) := HC11.out.at 3 _ rfl
  have p4 : w11.cell? ⟨b1, 4, none⟩ = some (.int .i64 kind) := HC11.out.at 4 _ rfl
  have p5 : w11.cell? ⟨b1, 5, none⟩ = some (.string s1) := HC11.out.at 5 _ rfl
  have p6 : w11.cell? ⟨b1, 6, none⟩ = some (.string s2) := HC11.out.at 6 _ rfl
  have p7 : w11.cell? ⟨b1, 7, none⟩ = some (.int .i64 num) := HC11.out.at 7 _ rfl
  have q0 : w11.cell? ⟨b2, 0, none⟩ = some (.int .i64 node2) := HE11.out.at 0 _ rfl
  have q1 : w11.cell? ⟨b2, 1, none⟩ = some (.int .i64 seq2) := HE11.out.at 1 _ rfl
  have q2 : w11.cell? ⟨b2, 2, none⟩ = some (.int .i64 gen2) := HE11.out.at 2 _ rfl
  have q3 : w11.cell? ⟨b2, 3, none⟩ = some (.slice a2 n2 cap2) := HE11.out.at 3 _ rfl
  have q4 : w11.cell? ⟨b2, 4, none⟩ = some (.int .i64 kind2) := HE11.out.at 4 _ rfl
  have q5 : w11.cell? ⟨b2, 5, none⟩ = some (.string s12) := HE11.out.at 5 _ rfl
  have q6 : w11.cell? ⟨b2, 6, none⟩ = some (.string s22) := HE11.out.at 6 _ rfl
  have q7 : w11.cell? ⟨b2, 7, none⟩ = some (.int .i64 num2) := HE11.out.at 7 _ rfl
  go_wp2_with fail
  refine (HSA.out _ (HRC.out.below HB11.out) (HRC2.out.below HB11.out)).mono ?_
  rintro e w12 ⟨rfl, hb⟩
  have HB12 := Lib.hid (HB11.out.step hb)
  have HDX := Lib.hid (HDbx1.out.step hb)
  have HDY := Lib.hid (HDby_.out.step hb)
  have HX12 := Lib.hid (HX11.out.below hb)
  have HY12 := Lib.hid (HY11.out.below hb)
  clear p0 p1 p2 p3 p4 p5 p6 p7 q0 q1 q2 q3 q4 q5 q6 q7
  clear hb
  obtain ⟨sx, hsx⟩ : ∃ s : ByteArray, s = ⟨X.toArray⟩ := ⟨_, rfl⟩
  obtain ⟨sy, hsy⟩ : ∃ s : ByteArray, s = ⟨Y.toArray⟩ := ⟨_, rfl⟩
  have hcx : (convert 31 9 (.slice a8 lx c8)).run Try.prog w12 = .ok (.string sx) w12 := by rw [hsx]; exact HX12.out.str (P := Try.prog) 31 5 9 Try.underlying31 Try.underlying5 Try.underlying9
  have hcy : (convert 31 9 (.slice a9 ly c9)).run Try.prog w12 = .ok (.string sy) w12 := by rw [hsy]; exact HY12.out.str (P := Try.prog) 31 5 9 Try.underlying31 Try.underlying5 Try.underlying9
  have heq : (sx.toList == sy.toList) = same := by rw [hsx, hsy, toList_bytes, toList_bytes, ← HPM.out]; by_cases h : X = Y <;> simp [h]
  have HXY2 := Lib.hid (show same = true → X2 = Y2 from fun h => HXY.out (of_decide_eq_true (HPM.out.trans h)))
  clear hsx hsy
  cases same with
  | false =>
    go_wp2_with fail
    go_ret
    exact ⟨rfl, HB12.out⟩
  | true =>
    have heq2 := eq_arr X2 Y2 HX2.out HY2.out w12
    rw [decide_eq_true (HXY2.out (by first | rfl | trivial))] at heq2
    go_wp2_with (first | (refine wpList_load_want (by rfl) 36 (.tmp 12) rfl bx 0 (by rfl) (Bs X2) _ HDX.out.range under_ids rfl (info_x HX2.out) ?_) | (refine wpList_load_want (by rfl) 36 (.tmp 14) rfl by_ 0 (by rfl) (Bs Y2) _ HDY.out.range under_ids rfl (info_x HY2.out) ?_))
    go_ret
    exact ⟨rfl, HB12.out⟩
end Go.Proofs.Ytdefdccbcnpodaa
