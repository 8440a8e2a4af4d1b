/- The statement CommitBack, walked out of the contracts of what it calls. -/
import Derived.Test.YtdefdccbcnpodaaCmKinds
namespace Go.Proofs.Ytdefdccbcnpodaa
open Go.ChangeShapes Go.WideShapes Go.ChangeAt Go.RowKit
set_option linter.unusedVariables false
set_option linter.unusedSimpArgs false

/-- 'append(append([]byte(nil), x...), b...)': two runs, each in the world that the one ahead of it leaves. -/
theorem run_app2 {w : World} {i0 : TypeInfo} {z0 : Value} (hi : Try.prog.info? 5 = some i0) (hz0 : i0.zero = some z0) (hz1 : i0.size = 1) (hz2 : i0.bytes = 1) (hzs : z0.cells.size = 1)
    {a m c : _} {l : List UInt8} (hr : Rd w a m c l) (hac : a = none → c = 0) {a' m' c' : _} {l' : List UInt8} (hr' : Rd w a' m' c' l') (hac' : a' = none → c' = 0) (hm : m + m' ≤ 2000) :
    ∃ v1 w1 v2 w2, (Builtin.append_ #[31, 31] 31 #[.slice none 0 0, .slice a m c]).run Try.prog w = .ok v1 w1 ∧
      (Builtin.append_ #[31, 31] 31 #[v1, .slice a' m' c']).run Try.prog w1 = .ok v2 w2 ∧
      w2.ownsRow w.heap.size 5 1 v2 (m + m') ((l ++ l').map B) ∧ Below w.heap.size w w2 := by
  obtain ⟨v1, w1, h1, o1, g1⟩ := run_app (P := Try.prog) (ty := 31) Try.underlying31 hi hz0 hz1 hz2 hzs (World.ownsRow_nil w w.heap.size 5 1) hr hac (by omega) (Nat.le_refl _)
  have b1 := below_own (Below.refl _ w) (World.ownsRow_nil w w.heap.size 5 1) g1 (Nat.le_refl _)
  obtain ⟨v2, w2, h2, o2, g2⟩ := run_app (P := Try.prog) (ty := 31) Try.underlying31 hi hz0 hz1 hz2 hzs o1 (hr'.below b1) hac' (by omega) b1.size
  refine ⟨v1, w1, v2, w2, h1, h2, ?_, below_own b1 o1 g2 b1.size⟩
  rw [List.map_append]
  simpa using o2
theorem app_bytes (Y r : List UInt8) : ByteArray.toList ((⟨Y.toArray⟩ : ByteArray) ++ (⟨r.toArray⟩ : ByteArray)) = Y ++ r := by
  rw [Lib.toList_data]
  simp

set_option maxRecDepth 100000 in
set_option maxHeartbeats 16000000 in
theorem commitBack_walk (c : Cmt) (a : Option Addr) (cap : Nat) (a1 : Option Addr) (n1 c1 : Nat) (l : List UInt8) (w : World) (hr : CmR w c a cap) (hrd : Rd w a1 n1 c1 l) (hac : a1 = none → c1 = 0) :
    Calls Try.prog 5 #[c.val a cap, .slice a1 n1 c1] w fun e w' => e = .returned (.bool true) ∧ Below w.heap.size w w' := by
  have HFE := Lib.hid (fun w' h => fewc_any c a cap w' h)
  have HPU := Lib.hid (fun w' h => cput_any c a cap w' h)
  have HSA := Lib.hid (fun w' a' cap' h h' => csame_any c c a a' cap cap' w' h h')
  have HRC := Lib.hid hr
  have HR := Lib.hid (And.intro hrd hac)
  have hn163 : n1 ≤ 9223372036854775807 := Nat.le_trans hrd.le hrd.cap
  obtain ⟨i1, ji, jz0, jz1, jz2⟩ := info_parts info_u8
  have HIU := Lib.hid (show Try.prog.info? 5 = some i1 ∧ i1.zero = some (.int .u8 0) ∧ i1.size = 1 ∧ i1.bytes = 1 from ⟨ji, jz0, jz1, jz2⟩)
  have HSELF := Lib.hid (show decide (c = c) = true from decide_eq_true rfl)
  rw [HSELF.out] at HSA
  unfold CPutP at HPU
  obtain ⟨few, hfew⟩ : ∃ b, b = fewC c := ⟨_, rfl⟩
  obtain ⟨may, hmay⟩ : ∃ b, b = mayC c := ⟨_, rfl⟩
  rw [← hfew] at HFE
  rw [← hmay] at HPU
  obtain ⟨X, hX⟩ : ∃ X, X = putC c := ⟨_, rfl⟩
  rw [← hX] at HPU
  obtain ⟨lx, hlx⟩ : ∃ l, l = X.length := ⟨_, rfl⟩
  rw [← hlx] at HPU
  have HLX := Lib.hid (show may = true → lx ≤ 400 from fun h => by rw [hlx, hX]; exact putC_len (by rw [← hmay, h]) hr.ids.is32)
  have HLX2 := Lib.hid hlx
  have HGX := Lib.hid (show may = true → getC (X ++ l) = some (c, l) from fun h => by rw [hX]; exact getC_put c (by rw [← hmay, h]) hr.ids.is32 l)
  have HGT := Lib.hid (fun w' a' c' L' (hm : may = true) (hL : L' = (X ++ l).length) (h : Rd w' a' L' c' (X ++ l)) (hz : a' = none → c' = 0) (hb : L' ≤ 100000) => show Calls Try.prog 21 #[.slice a' L' c'] w' (fun e w'' => ∃ av cv ar cr, e = .returned (.tuple #[c.val av cv, .slice ar n1 cr, .int .i64 0]) ∧ CmR w'' c av cv ∧ Rd w'' ar n1 cr l ∧ Below w'.heap.size w' w'') by
    have h1 := cget_any a' L' c' (X ++ l) w' h hz hb
    unfold CGetP at h1
    rw [HGX.out hm] at h1
    refine h1.mono ?_
    rintro e w'' ⟨av, cv, ar, cr, rfl, h2, h3, _, h4⟩
    rw [HR.out.1.len] at h3 ⊢
    exact ⟨av, cv, ar, cr, rfl, h2, h3, h4⟩)
  have HG2 := Lib.hid (fun w' h hb => cget_any a1 n1 c1 l w' h HR.out.2 hb)
  unfold Cmt.val Cmt.cs at HFE HPU HSA HGT ⊢
  obtain ⟨n, hn⟩ : ∃ x, x = c.par.length := ⟨_, rfl⟩
  obtain ⟨node, hnode⟩ : ∃ x, x = c.node := ⟨_, rfl⟩
  obtain ⟨seq, hseq⟩ : ∃ x, x = c.seq := ⟨_, rfl⟩
  obtain ⟨gen, hgen⟩ : ∃ x, x = c.gen := ⟨_, rfl⟩
  obtain ⟨kind, hkind⟩ : ∃ x, x = c.op.kind := ⟨_, rfl⟩
  obtain ⟨num, hnum⟩ : ∃ x, x = c.op.num := ⟨_, rfl⟩
  obtain ⟨s1, hs1⟩ : ∃ s : ByteArray, s = ⟨c.op.key.toArray⟩ := ⟨_, rfl⟩
  obtain ⟨s2, hs2⟩ : ∃ s : ByteArray, s = ⟨c.op.elem.toArray⟩ := ⟨_, rfl⟩
  try rw [← hn] at HFE
  try rw [← hnode] at HFE
  try rw [← hseq] at HFE
  try rw [← hgen] at HFE
  try rw [← hkind] at HFE
  try rw [← hnum] at HFE
  try rw [← hs1] at HFE
  try rw [← hs2] at HFE
  try rw [← hn] at HPU
  try rw [← hnode] at HPU
  try rw [← hseq] at HPU
  try rw [← hgen] at HPU
  try rw [← hkind] at HPU
  try rw [← hnum] at HPU
  try rw [← hs1] at HPU
  try rw [← hs2] at HPU
  try rw [← hn] at HSA
  try rw [← hnode] at HSA
  try rw [← hseq] at HSA
  try rw [← hgen] at HSA
  try rw [← hkind] at HSA
  try rw [← hnum] at HSA
  try rw [← hs1] at HSA
  try rw [← hs2] at HSA
  try rw [← hn] at HGT
  try rw [← hnode] at HGT
  try rw [← hseq] at HGT
  try rw [← hgen] at HGT
  try rw [← hkind] at HGT
  try rw [← hnum] at HGT
  try rw [← hs1] at HGT
  try rw [← hs2] at HGT
  try rw [← hn] at ⊢
  try rw [← hnode] at ⊢
  try rw [← hseq] at ⊢
  try rw [← hgen] at ⊢
  try rw [← hkind] at ⊢
  try rw [← hnum] at ⊢
  try rw [← hs1] at ⊢
  try rw [← hs2] at ⊢
  clear hr hrd hac hfew hmay hX hlx ji jz0 jz1 jz2 hn hnode hseq hgen hkind hnum hs1 hs2
  go_enter Try.func5, Try.ntmps5
  go_upto_region 1 with fail
  obtain ⟨b1, hb1⟩ : ∃ b, b = w.heap.size := ⟨_, rfl⟩
  have hC0 := Cel.new w 28 [.int .i64 node, .int .i64 seq, .int .i64 gen, .slice a n cap, .int .i64 kind, .string s1, .string s2, .int .i64 num]
  rw [← hb1] at hC0 ⊢
  generalize hw1 : w.alloc (.cells _ _) = w1
  have HC1 := Lib.hid (show Cel w1 b1 28 [.int .i64 node, .int .i64 seq, .int .i64 gen, .slice a n cap, .int .i64 kind, .string s1, .string s2, .int .i64 num] by rw [← hw1]; exact hC0)
  have HB1 := Lib.hid (show Below w.heap.size w w1 by rw [← hw1]; exact (Below.refl _ _).alloc (Nat.le_refl _) _)
  clear hC0 hw1 hb1
  go_wp2_with fail
  refine (awake10 _).mono ?_
  rintro e w2 ⟨rfl, hb⟩
  have HC2 := Lib.hid (HC1.out.step hb)
  have HB2 := Lib.hid (HB1.out.step hb)
  clear hb
  have p0 : w2.cell? ⟨b1, 0, none⟩ = some (.int .i64 node) := HC2.out.at 0 _ rfl
  have p1 : w2.cell? ⟨b1, 1, none⟩ = some (.int .i64 seq) := HC2.out.at 1 _ rfl
  have p2 : w2.cell? ⟨b1, 2, none⟩ = some (.int .i64 gen) := HC2.out.at 2 _ rfl
  have p3 : w2.cell? ⟨b1, 3, none⟩ = some (.slice a n cap) := HC2.out.at 3 _ rfl
  have p4 : w2.cell? ⟨b1, 4, none⟩ = some (.int .i64 kind) := HC2.out.at 4 _ rfl
  have p5 : w2.cell? ⟨b1, 5, none⟩ = some (.string s1) := HC2.out.at 5 _ rfl
  have p6 : w2.cell? ⟨b1, 6, none⟩ = some (.string s2) := HC2.out.at 6 _ rfl
  have p7 : w2.cell? ⟨b1, 7, none⟩ = some (.int .i64 num) := HC2.out.at 7 _ rfl
  go_wp2_with fail
  refine (HFE.out _ (HRC.out.below HB2.out)).mono ?_
  rintro e w3 ⟨rfl, hb⟩
  have HC3 := Lib.hid (HC2.out.step hb)
  have HB3 := Lib.hid (HB2.out.step hb)
  clear p0 p1 p2 p3 p4 p5 p6 p7
  clear hb
  have p0 : w3.cell? ⟨b1, 0, none⟩ = some (.int .i64 node) := HC3.out.at 0 _ rfl
  have p1 : w3.cell? ⟨b1, 1, none⟩ = some (.int .i64 seq) := HC3.out.at 1 _ rfl
  have p2 : w3.cell? ⟨b1, 2, none⟩ = some (.int .i64 gen) := HC3.out.at 2 _ rfl
  have p3 : w3.cell? ⟨b1, 3, none⟩ = some (.slice a n cap) := HC3.out.at 3 _ rfl
  have p4 : w3.cell? ⟨b1, 4, none⟩ = some (.int .i64 kind) := HC3.out.at 4 _ rfl
  have p5 : w3.cell? ⟨b1, 5, none⟩ = some (.string s1) := HC3.out.at 5 _ rfl
  have p6 : w3.cell? ⟨b1, 6, none⟩ = some (.string s2) := HC3.out.at 6 _ rfl
  have p7 : w3.cell? ⟨b1, 7, none⟩ = some (.int .i64 num) := HC3.out.at 7 _ rfl
  cases few with
  | false =>
    go_wp2_with fail
    go_ret
    exact ⟨rfl, HB3.out⟩
  | true =>
  by_cases hn : (n1 : Int) ≤ 1000
  case neg =>
    have hn2 : 1000 < (n1 : Int) := by omega
    go_wp2_with fail
    go_ret
    exact ⟨rfl, HB3.out⟩
  have hn2 : ¬ 1000 < (n1 : Int) := by omega
  cases may with
  | false =>
    simp only [Bool.false_eq_true, if_false] at HPU
    go_wp2_with fail
    refine (HPU.out _ (HRC.out.below HB3.out)).mono ?_
    rintro e w4 ⟨rfl, hb⟩
    have HB4 := Lib.hid (HB3.out.step hb)
    clear p0 p1 p2 p3 p4 p5 p6 p7
    clear hb
    cases hgo : getC l with
    | none =>
      have HG := Lib.hid (show Calls Try.prog 21 #[.slice a1 n1 c1] w4 (fun e w'' => e = .returned (.tuple #[.agg #[.int .i64 0, .int .i64 0, .int .i64 0, .slice none 0 0, .int .i64 0, .string ⟨#[]⟩, .string ⟨#[]⟩, .int .i64 0], .slice none 0 0, .int .i64 2]) ∧ Below w4.heap.size w4 w'') by
        have h1 := HG2.out w4 (HR.out.1.below HB4.out) (by omega)
        unfold CGetP at h1
        rw [hgo] at h1
        exact h1)
      clear hgo
      go_wp2_with fail
      refine HG.out.mono ?_
      rintro e wa ⟨rfl, hb⟩
      have HBa := Lib.hid (HB4.out.step hb)
      clear hb
      go_upto_region 11 with fail
      generalize hw9 : wa.alloc (.cells _ _) = wb
      have hbab : Below wa.heap.size wa wb := by rw [← hw9]; exact (Below.refl _ _).alloc (Nat.le_refl _) _
      obtain ⟨bz, hbz⟩ : ∃ b, b = wa.heap.size := ⟨_, rfl⟩
      have z2 : wb.cell? ⟨bz, 2, none⟩ = some (.int .i64 0) := by rw [← hw9, hbz]; exact new_cell rfl
      have HBb := Lib.hid (HBa.out.step hbab)
      rw [← hbz]
      clear hw9 hbab hbz
      go_wp2_with fail
      go_ret
      exact ⟨rfl, HBb.out⟩
    | some pr =>
      obtain ⟨cc, r⟩ := pr
      obtain ⟨g1, g2, g3⟩ := getC_got hgo
      have HG := Lib.hid (show Calls Try.prog 21 #[.slice a1 n1 c1] w4 (fun e w'' => ∃ av cv ar cr, e = .returned (.tuple #[cc.val av cv, .slice ar r.length cr, .int .i64 0]) ∧ CmR w'' cc av cv ∧ Rd w'' ar r.length cr r ∧ Below w4.heap.size w4 w'') by
        have h1 := HG2.out w4 (HR.out.1.below HB4.out) (by omega)
        unfold CGetP at h1
        rw [hgo] at h1
        refine h1.mono ?_
        rintro e w'' ⟨av, cv, ar, cr, rfl, h2, h3, _, h4⟩
        exact ⟨av, cv, ar, cr, rfl, h2, h3, h4⟩)
      obtain ⟨Y, hY⟩ : ∃ Y, Y = putC cc := ⟨_, rfl⟩
      have HPT := Lib.hid (fun w' av cv (h : CmR w' cc av cv) => show Calls Try.prog 11 #[cc.val av cv] w' (fun e w'' => ∃ a c, e = .returned (.tuple #[.slice a Y.length c, .int .i64 0]) ∧ Rd w'' a Y.length c Y ∧ Below w'.heap.size w' w'') by
        have h1 := cput_any cc av cv w' h
        unfold CPutP at h1
        simp only [g1, if_true, ← hY] at h1
        exact h1.mono fun e w'' ⟨a, c, h2, h3, _, h4⟩ => ⟨a, c, h2, h3, h4⟩)
      have HMY := Lib.hid (fun w' av cv (h : CmR w' cc av cv) => show Calls Try.prog 18 #[cc.val av cv] w' (fun e w'' => e = .returned (.bool true) ∧ Below w'.heap.size w' w'') by
        have h1 := cmay_any cc av cv w' h
        rw [g1] at h1
        exact h1)
      have HYR := Lib.hid (show Y ++ r = l by rw [hY]; exact g2)
      obtain ⟨yl, hyl⟩ : ∃ yl, yl = Y.length := ⟨_, rfl⟩
      obtain ⟨rl, hrl⟩ : ∃ rl, rl = r.length := ⟨_, rfl⟩
      rw [← hyl] at HPT
      rw [← hrl] at HG
      unfold Cmt.val Cmt.cs at HG HPT HMY
      obtain ⟨n3, hn3⟩ : ∃ x, x = cc.par.length := ⟨_, rfl⟩
      obtain ⟨node3, hnode3⟩ : ∃ x, x = cc.node := ⟨_, rfl⟩
      obtain ⟨seq3, hseq3⟩ : ∃ x, x = cc.seq := ⟨_, rfl⟩
      obtain ⟨gen3, hgen3⟩ : ∃ x, x = cc.gen := ⟨_, rfl⟩
      obtain ⟨kind3, hkind3⟩ : ∃ x, x = cc.op.kind := ⟨_, rfl⟩
      obtain ⟨num3, hnum3⟩ : ∃ x, x = cc.op.num := ⟨_, rfl⟩
      obtain ⟨s13, hs13⟩ : ∃ s : ByteArray, s = ⟨cc.op.key.toArray⟩ := ⟨_, rfl⟩
      obtain ⟨s23, hs23⟩ : ∃ s : ByteArray, s = ⟨cc.op.elem.toArray⟩ := ⟨_, rfl⟩
      try rw [← hn3] at HG
      try rw [← hnode3] at HG
      try rw [← hseq3] at HG
      try rw [← hgen3] at HG
      try rw [← hkind3] at HG
      try rw [← hnum3] at HG
      try rw [← hs13] at HG
      try rw [← hs23] at HG
      try rw [← hn3] at HPT
      try rw [← hnode3] at HPT
      try rw [← hseq3] at HPT
      try rw [← hgen3] at HPT
      try rw [← hkind3] at HPT
      try rw [← hnum3] at HPT
      try rw [← hs13] at HPT
      try rw [← hs23] at HPT
      try rw [← hn3] at HMY
      try rw [← hnode3] at HMY
      try rw [← hseq3] at HMY
      try rw [← hgen3] at HMY
      try rw [← hkind3] at HMY
      try rw [← hnum3] at HMY
      try rw [← hs13] at HMY
      try rw [← hs23] at HMY
      clear hgo g1 g2 g3 hY hyl hrl hn3 hnode3 hseq3 hgen3 hkind3 hnum3 hs13 hs23
      go_wp2_with fail
      refine HG.out.mono ?_
      rintro e wa ⟨av3, cv3, aa, ca, rfl, hcm, hra, hb⟩
      have HBa := Lib.hid (HB4.out.step hb)
      have HRa := Lib.hid hra
      have HMa := Lib.hid hcm
      clear hb hra hcm
      go_upto_region 11 with fail
      generalize hw9 : wa.alloc (.cells _ _) = wb
      have hbab : Below wa.heap.size wa wb := by rw [← hw9]; exact (Below.refl _ _).alloc (Nat.le_refl _) _
      obtain ⟨bz, hbz⟩ : ∃ b, b = wa.heap.size := ⟨_, rfl⟩
      have HCb := Lib.hid (show Cel wb bz 28 [.int .i64 node3, .int .i64 seq3, .int .i64 gen3, .slice av3 n3 cv3, .int .i64 kind3, .string s13, .string s23, .int .i64 num3] by rw [← hw9, hbz]; exact Cel.new wa _ _)
      have HBb := Lib.hid (HBa.out.step hbab)
      have HRb := Lib.hid (HRa.out.below hbab)
      have HMb := Lib.hid (HMa.out.below hbab)
      rw [← hbz]
      clear hw9 hbab hbz
      have p0 : wb.cell? ⟨bz, 0, none⟩ = some (.int .i64 node3) := HCb.out.at 0 _ rfl
      have p1 : wb.cell? ⟨bz, 1, none⟩ = some (.int .i64 seq3) := HCb.out.at 1 _ rfl
      have p2 : wb.cell? ⟨bz, 2, none⟩ = some (.int .i64 gen3) := HCb.out.at 2 _ rfl
      have p3 : wb.cell? ⟨bz, 3, none⟩ = some (.slice av3 n3 cv3) := HCb.out.at 3 _ rfl
      have p4 : wb.cell? ⟨bz, 4, none⟩ = some (.int .i64 kind3) := HCb.out.at 4 _ rfl
      have p5 : wb.cell? ⟨bz, 5, none⟩ = some (.string s13) := HCb.out.at 5 _ rfl
      have p6 : wb.cell? ⟨bz, 6, none⟩ = some (.string s23) := HCb.out.at 6 _ rfl
      have p7 : wb.cell? ⟨bz, 7, none⟩ = some (.int .i64 num3) := HCb.out.at 7 _ rfl
      go_wp2_with fail
      refine (HPT.out _ _ _ HMb.out).mono ?_
      rintro e wc ⟨ac, cc', rfl, hrc, hb⟩
      have HBc := Lib.hid (HBb.out.step hb)
      have HCc := Lib.hid (HCb.out.step hb)
      have HRc := Lib.hid (HRb.out.below hb)
      have HMc := Lib.hid (HMb.out.below hb)
      have HYc := Lib.hid hrc
      clear hb hrc p0 p1 p2 p3 p4 p5 p6 p7
      have p0 : wc.cell? ⟨bz, 0, none⟩ = some (.int .i64 node3) := HCc.out.at 0 _ rfl
      have p1 : wc.cell? ⟨bz, 1, none⟩ = some (.int .i64 seq3) := HCc.out.at 1 _ rfl
      have p2 : wc.cell? ⟨bz, 2, none⟩ = some (.int .i64 gen3) := HCc.out.at 2 _ rfl
      have p3 : wc.cell? ⟨bz, 3, none⟩ = some (.slice av3 n3 cv3) := HCc.out.at 3 _ rfl
      have p4 : wc.cell? ⟨bz, 4, none⟩ = some (.int .i64 kind3) := HCc.out.at 4 _ rfl
      have p5 : wc.cell? ⟨bz, 5, none⟩ = some (.string s13) := HCc.out.at 5 _ rfl
      have p6 : wc.cell? ⟨bz, 6, none⟩ = some (.string s23) := HCc.out.at 6 _ rfl
      have p7 : wc.cell? ⟨bz, 7, none⟩ = some (.int .i64 num3) := HCc.out.at 7 _ rfl
      go_wp2_with fail
      refine (HMY.out _ _ _ HMc.out).mono ?_
      rintro e wd ⟨rfl, hb⟩
      have HBd := Lib.hid (HBc.out.step hb)
      have x1 : (convert 31 9 (.slice aa rl ca)).run Try.prog wd = .ok (.string ⟨r.toArray⟩) wd := str_drew (HRc.out.below hb) 0
      have x2 : (convert 31 9 (.slice ac yl cc')).run Try.prog wd = .ok (.string ⟨Y.toArray⟩) wd := str_drew (HYc.out.below hb) 0
      have x3 : (convert 31 9 (.slice a1 n1 c1)).run Try.prog wd = .ok (.string ⟨l.toArray⟩) wd := str_drew (HR.out.1.below HBd.out) 0
      clear hb p0 p1 p2 p3 p4 p5 p6 p7
      have hYr : ¬ 9223372036854775807 < Y.length + r.length := by
        have h1 := congrArg List.length HYR.out
        rw [List.length_append, HR.out.1.len] at h1
        omega
      have htl : (ByteArray.toList ((⟨Y.toArray⟩ : ByteArray) ++ (⟨r.toArray⟩ : ByteArray)) == l) = true := by rw [app_bytes, HYR.out]; exact beq_self_eq_true _
      go_wp2_with fail
      go_ret
      exact ⟨rfl, HBd.out⟩
  | true =>
    simp only [if_true] at HPU
    have HLXT := Lib.hid (HLX.out (by first | rfl | trivial))
    go_wp2_with fail
    refine (HPU.out _ (HRC.out.below HB3.out)).mono ?_
    rintro e w4 ⟨a4, c4, rfl, hr4, hz4, hb⟩
    have HC4 := Lib.hid (HC3.out.step hb)
    have HB4 := Lib.hid (HB3.out.step hb)
    clear p0 p1 p2 p3 p4 p5 p6 p7
    clear hb
    obtain ⟨x1, y1, x2, y2, hrun1, hrun2, hown5, hb5⟩ := run_app2 HIU.out.1 HIU.out.2.1 HIU.out.2.2.1 HIU.out.2.2.2 rfl hr4 hz4 (HR.out.1.below HB4.out) HR.out.2 (by have := HLXT.out; omega)
    have hlen5 : (X ++ l).length = lx + n1 := by rw [List.length_append, ← HLX2.out, HR.out.1.len]
    rw [← hlen5] at hown5
    obtain ⟨a5, c5, rfl, hr5⟩ := Rd.of_own hown5
    have hac5 := own_none hown5
    have HRUN1 := Lib.hid hrun1
    have HRUN2 := Lib.hid hrun2
    have HC5 := Lib.hid (HC4.out.step hb5)
    have HB5 := Lib.hid (HB4.out.step hb5)
    obtain ⟨L5, hL5⟩ : ∃ L5, L5 = (X ++ l).length := ⟨_, rfl⟩
    rw [← hL5] at HRUN2 hr5
    have HG5 := Lib.hid (HGT.out y2 a5 c5 L5 (by first | rfl | trivial) hL5 hr5 hac5 (by have := HLXT.out; omega))
    clear hr4 hz4 hrun1 hrun2 hown5 hb5 hlen5 hr5 hac5 hL5
    have tok1 : True := trivial
    go_wp2_with (first
      | (at_builtin; have _t := tok1; refine Lib.wpList_append_run _ rfl _ _ _ _ rfl _ _ rfl rfl _ _ HRUN1.out ?_; clear tok1)
      | (at_builtin; refine Lib.wpList_append_run _ rfl _ _ _ _ rfl _ _ rfl rfl _ _ HRUN2.out ?_))
    refine HG5.out.mono ?_
    rintro e w6 ⟨av, cv, a6, c6, rfl, hcm, hr6, hb⟩
    have HC6 := Lib.hid (HC5.out.step hb)
    have HB6 := Lib.hid (HB5.out.step hb)
    have HR6 := Lib.hid hr6
    have HM6 := Lib.hid hcm
    clear hb hr6 hcm HRUN1 HRUN2 HG5
    go_upto_region 8 with fail
    generalize hw7 : w6.alloc (.cells _ _) = w7
    have hb67 : Below w6.heap.size w6 w7 := by rw [← hw7]; exact (Below.refl _ _).alloc (Nat.le_refl _) _
    obtain ⟨b7, hb7⟩ : ∃ b7, b7 = w6.heap.size := ⟨_, rfl⟩
    have HD7 := Lib.hid (show Cel w7 b7 28 [.int .i64 node, .int .i64 seq, .int .i64 gen, .slice av n cv, .int .i64 kind, .string s1, .string s2, .int .i64 num] by rw [← hw7, hb7]; exact Cel.new w6 _ _)
    have HC7 := Lib.hid (HC6.out.step hb67)
    have HB7 := Lib.hid (HB6.out.step hb67)
    have HR7 := Lib.hid (HR6.out.below hb67)
    have HM7 := Lib.hid (HM6.out.below hb67)
    rw [← hb7]
    clear hw7 hb67 hb7
    have p0 : w7.cell? ⟨b1, 0, none⟩ = some (.int .i64 node) := HC7.out.at 0 _ rfl
    have p1 : w7.cell? ⟨b1, 1, none⟩ = some (.int .i64 seq) := HC7.out.at 1 _ rfl
    have p2 : w7.cell? ⟨b1, 2, none⟩ = some (.int .i64 gen) := HC7.out.at 2 _ rfl
    have p3 : w7.cell? ⟨b1, 3, none⟩ = some (.slice a n cap) := HC7.out.at 3 _ rfl
    have p4 : w7.cell? ⟨b1, 4, none⟩ = some (.int .i64 kind) := HC7.out.at 4 _ rfl
    have p5 : w7.cell? ⟨b1, 5, none⟩ = some (.string s1) := HC7.out.at 5 _ rfl
    have p6 : w7.cell? ⟨b1, 6, none⟩ = some (.string s2) := HC7.out.at 6 _ rfl
    have p7 : w7.cell? ⟨b1, 7, none⟩ = some (.int .i64 num) := HC7.out.at 7 _ rfl
    have q0 : w7.cell? ⟨b7, 0, none⟩ = some (.int .i64 node) := HD7.out.at 0 _ rfl
    have q1 : w7.cell? ⟨b7, 1, none⟩ = some (.int .i64 seq) := HD7.out.at 1 _ rfl
    have q2 : w7.cell? ⟨b7, 2, none⟩ = some (.int .i64 gen) := HD7.out.at 2 _ rfl
    have q3 : w7.cell? ⟨b7, 3, none⟩ = some (.slice av n cv) := HD7.out.at 3 _ rfl
    have q4 : w7.cell? ⟨b7, 4, none⟩ = some (.int .i64 kind) := HD7.out.at 4 _ rfl
    have q5 : w7.cell? ⟨b7, 5, none⟩ = some (.string s1) := HD7.out.at 5 _ rfl
    have q6 : w7.cell? ⟨b7, 6, none⟩ = some (.string s2) := HD7.out.at 6 _ rfl
    have q7 : w7.cell? ⟨b7, 7, none⟩ = some (.int .i64 num) := HD7.out.at 7 _ rfl
    go_wp2_with fail
    refine (HSA.out _ _ _ (HRC.out.below HB7.out) HM7.out).mono ?_
    rintro e w8 ⟨rfl, hb⟩
    have HB8 := Lib.hid (HB7.out.step hb)
    have x1 : (convert 31 9 (.slice a6 n1 c6)).run Try.prog w8 = .ok (.string ⟨l.toArray⟩) w8 := str_drew (HR7.out.below hb) 0
    have x2 : (convert 31 9 (.slice a1 n1 c1)).run Try.prog w8 = .ok (.string ⟨l.toArray⟩) w8 := str_drew (HR.out.1.below HB8.out) 0
    clear hb p0 p1 p2 p3 p4 p5 p6 p7 q0 q1 q2 q3 q4 q5 q6 q7
    go_upto_region 10 with fail
    clear x1 x2
    cases hgo : getC l with
    | none =>
      have HG := Lib.hid (show Calls Try.prog 21 #[.slice a1 n1 c1] w8 (fun e w'' => e = .returned (.tuple #[.agg #[.int .i64 0, .int .i64 0, .int .i64 0, .slice none 0 0, .int .i64 0, .string ⟨#[]⟩, .string ⟨#[]⟩, .int .i64 0], .slice none 0 0, .int .i64 2]) ∧ Below w8.heap.size w8 w'') by
        have h1 := HG2.out w8 (HR.out.1.below HB8.out) (by omega)
        unfold CGetP at h1
        rw [hgo] at h1
        exact h1)
      clear hgo
      go_wp2_with fail
      refine HG.out.mono ?_
      rintro e wa ⟨rfl, hb⟩
      have HBa := Lib.hid (HB8.out.step hb)
      clear hb
      go_upto_region 11 with fail
      generalize hw9 : wa.alloc (.cells _ _) = wb
      have hbab : Below wa.heap.size wa wb := by rw [← hw9]; exact (Below.refl _ _).alloc (Nat.le_refl _) _
      obtain ⟨bz, hbz⟩ : ∃ b, b = wa.heap.size := ⟨_, rfl⟩
      have z2 : wb.cell? ⟨bz, 2, none⟩ = some (.int .i64 0) := by rw [← hw9, hbz]; exact new_cell rfl
      have HBb := Lib.hid (HBa.out.step hbab)
      rw [← hbz]
      clear hw9 hbab hbz
      go_wp2_with fail
      go_ret
      exact ⟨rfl, HBb.out⟩
    | some pr =>
      obtain ⟨cc, r⟩ := pr
      obtain ⟨g1, g2, g3⟩ := getC_got hgo
      have HG := Lib.hid (show Calls Try.prog 21 #[.slice a1 n1 c1] w8 (fun e w'' => ∃ av cv ar cr, e = .returned (.tuple #[cc.val av cv, .slice ar r.length cr, .int .i64 0]) ∧ CmR w'' cc av cv ∧ Rd w'' ar r.length cr r ∧ Below w8.heap.size w8 w'') by
        have h1 := HG2.out w8 (HR.out.1.below HB8.out) (by omega)
        unfold CGetP at h1
        rw [hgo] at h1
        refine h1.mono ?_
        rintro e w'' ⟨av, cv, ar, cr, rfl, h2, h3, _, h4⟩
        exact ⟨av, cv, ar, cr, rfl, h2, h3, h4⟩)
      obtain ⟨Y, hY⟩ : ∃ Y, Y = putC cc := ⟨_, rfl⟩
      have HPT := Lib.hid (fun w' av cv (h : CmR w' cc av cv) => show Calls Try.prog 11 #[cc.val av cv] w' (fun e w'' => ∃ a c, e = .returned (.tuple #[.slice a Y.length c, .int .i64 0]) ∧ Rd w'' a Y.length c Y ∧ Below w'.heap.size w' w'') by
        have h1 := cput_any cc av cv w' h
        unfold CPutP at h1
        simp only [g1, if_true, ← hY] at h1
        exact h1.mono fun e w'' ⟨a, c, h2, h3, _, h4⟩ => ⟨a, c, h2, h3, h4⟩)
      have HMY := Lib.hid (fun w' av cv (h : CmR w' cc av cv) => show Calls Try.prog 18 #[cc.val av cv] w' (fun e w'' => e = .returned (.bool true) ∧ Below w'.heap.size w' w'') by
        have h1 := cmay_any cc av cv w' h
        rw [g1] at h1
        exact h1)
      have HYR := Lib.hid (show Y ++ r = l by rw [hY]; exact g2)
      obtain ⟨yl, hyl⟩ : ∃ yl, yl = Y.length := ⟨_, rfl⟩
      obtain ⟨rl, hrl⟩ : ∃ rl, rl = r.length := ⟨_, rfl⟩
      rw [← hyl] at HPT
      rw [← hrl] at HG
      unfold Cmt.val Cmt.cs at HG HPT HMY
      obtain ⟨n3, hn3⟩ : ∃ x, x = cc.par.length := ⟨_, rfl⟩
      obtain ⟨node3, hnode3⟩ : ∃ x, x = cc.node := ⟨_, rfl⟩
      obtain ⟨seq3, hseq3⟩ : ∃ x, x = cc.seq := ⟨_, rfl⟩
      obtain ⟨gen3, hgen3⟩ : ∃ x, x = cc.gen := ⟨_, rfl⟩
      obtain ⟨kind3, hkind3⟩ : ∃ x, x = cc.op.kind := ⟨_, rfl⟩
      obtain ⟨num3, hnum3⟩ : ∃ x, x = cc.op.num := ⟨_, rfl⟩
      obtain ⟨s13, hs13⟩ : ∃ s : ByteArray, s = ⟨cc.op.key.toArray⟩ := ⟨_, rfl⟩
      obtain ⟨s23, hs23⟩ : ∃ s : ByteArray, s = ⟨cc.op.elem.toArray⟩ := ⟨_, rfl⟩
      try rw [← hn3] at HG
      try rw [← hnode3] at HG
      try rw [← hseq3] at HG
      try rw [← hgen3] at HG
      try rw [← hkind3] at HG
      try rw [← hnum3] at HG
      try rw [← hs13] at HG
      try rw [← hs23] at HG
      try rw [← hn3] at HPT
      try rw [← hnode3] at HPT
      try rw [← hseq3] at HPT
      try rw [← hgen3] at HPT
      try rw [← hkind3] at HPT
      try rw [← hnum3] at HPT
      try rw [← hs13] at HPT
      try rw [← hs23] at HPT
      try rw [← hn3] at HMY
      try rw [← hnode3] at HMY
      try rw [← hseq3] at HMY
      try rw [← hgen3] at HMY
      try rw [← hkind3] at HMY
      try rw [← hnum3] at HMY
      try rw [← hs13] at HMY
      try rw [← hs23] at HMY
      clear hgo g1 g2 g3 hY hyl hrl hn3 hnode3 hseq3 hgen3 hkind3 hnum3 hs13 hs23
      go_wp2_with fail
      refine HG.out.mono ?_
      rintro e wa ⟨av3, cv3, aa, ca, rfl, hcm, hra, hb⟩
      have HBa := Lib.hid (HB8.out.step hb)
      have HRa := Lib.hid hra
      have HMa := Lib.hid hcm
      clear hb hra hcm
      go_upto_region 11 with fail
      generalize hw9 : wa.alloc (.cells _ _) = wb
      have hbab : Below wa.heap.size wa wb := by rw [← hw9]; exact (Below.refl _ _).alloc (Nat.le_refl _) _
      obtain ⟨bz, hbz⟩ : ∃ b, b = wa.heap.size := ⟨_, rfl⟩
      have HCb := Lib.hid (show Cel wb bz 28 [.int .i64 node3, .int .i64 seq3, .int .i64 gen3, .slice av3 n3 cv3, .int .i64 kind3, .string s13, .string s23, .int .i64 num3] by rw [← hw9, hbz]; exact Cel.new wa _ _)
      have HBb := Lib.hid (HBa.out.step hbab)
      have HRb := Lib.hid (HRa.out.below hbab)
      have HMb := Lib.hid (HMa.out.below hbab)
      rw [← hbz]
      clear hw9 hbab hbz
      have p0 : wb.cell? ⟨bz, 0, none⟩ = some (.int .i64 node3) := HCb.out.at 0 _ rfl
      have p1 : wb.cell? ⟨bz, 1, none⟩ = some (.int .i64 seq3) := HCb.out.at 1 _ rfl
      have p2 : wb.cell? ⟨bz, 2, none⟩ = some (.int .i64 gen3) := HCb.out.at 2 _ rfl
      have p3 : wb.cell? ⟨bz, 3, none⟩ = some (.slice av3 n3 cv3) := HCb.out.at 3 _ rfl
      have p4 : wb.cell? ⟨bz, 4, none⟩ = some (.int .i64 kind3) := HCb.out.at 4 _ rfl
      have p5 : wb.cell? ⟨bz, 5, none⟩ = some (.string s13) := HCb.out.at 5 _ rfl
      have p6 : wb.cell? ⟨bz, 6, none⟩ = some (.string s23) := HCb.out.at 6 _ rfl
      have p7 : wb.cell? ⟨bz, 7, none⟩ = some (.int .i64 num3) := HCb.out.at 7 _ rfl
      go_wp2_with fail
      refine (HPT.out _ _ _ HMb.out).mono ?_
      rintro e wc ⟨ac, cc', rfl, hrc, hb⟩
      have HBc := Lib.hid (HBb.out.step hb)
      have HCc := Lib.hid (HCb.out.step hb)
      have HRc := Lib.hid (HRb.out.below hb)
      have HMc := Lib.hid (HMb.out.below hb)
      have HYc := Lib.hid hrc
      clear hb hrc p0 p1 p2 p3 p4 p5 p6 p7
      have p0 : wc.cell? ⟨bz, 0, none⟩ = some (.int .i64 node3) := HCc.out.at 0 _ rfl
      have p1 : wc.cell? ⟨bz, 1, none⟩ = some (.int .i64 seq3) := HCc.out.at 1 _ rfl
      have p2 : wc.cell? ⟨bz, 2, none⟩ = some (.int .i64 gen3) := HCc.out.at 2 _ rfl
      have p3 : wc.cell? ⟨bz, 3, none⟩ = some (.slice av3 n3 cv3) := HCc.out.at 3 _ rfl
      have p4 : wc.cell? ⟨bz, 4, none⟩ = some (.int .i64 kind3) := HCc.out.at 4 _ rfl
      have p5 : wc.cell? ⟨bz, 5, none⟩ = some (.string s13) := HCc.out.at 5 _ rfl
      have p6 : wc.cell? ⟨bz, 6, none⟩ = some (.string s23) := HCc.out.at 6 _ rfl
      have p7 : wc.cell? ⟨bz, 7, none⟩ = some (.int .i64 num3) := HCc.out.at 7 _ rfl
      go_wp2_with fail
      refine (HMY.out _ _ _ HMc.out).mono ?_
      rintro e wd ⟨rfl, hb⟩
      have HBd := Lib.hid (HBc.out.step hb)
      have x1 : (convert 31 9 (.slice aa rl ca)).run Try.prog wd = .ok (.string ⟨r.toArray⟩) wd := str_drew (HRc.out.below hb) 0
      have x2 : (convert 31 9 (.slice ac yl cc')).run Try.prog wd = .ok (.string ⟨Y.toArray⟩) wd := str_drew (HYc.out.below hb) 0
      have x3 : (convert 31 9 (.slice a1 n1 c1)).run Try.prog wd = .ok (.string ⟨l.toArray⟩) wd := str_drew (HR.out.1.below HBd.out) 0
      clear hb p0 p1 p2 p3 p4 p5 p6 p7
      have hYr : ¬ 9223372036854775807 < Y.length + r.length := by
        have h1 := congrArg List.length HYR.out
        rw [List.length_append, HR.out.1.len] at h1
        omega
      have htl : (ByteArray.toList ((⟨Y.toArray⟩ : ByteArray) ++ (⟨r.toArray⟩ : ByteArray)) == l) = true := by rw [app_bytes, HYR.out]; exact beq_self_eq_true _
      go_wp2_with fail
      go_ret
      exact ⟨rfl, HBd.out⟩
end Go.Proofs.Ytdefdccbcnpodaa
