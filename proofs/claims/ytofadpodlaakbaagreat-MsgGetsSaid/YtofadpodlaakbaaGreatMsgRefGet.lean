/- The walk of the reference's Get, of the layer msg. -/
import Derived.Test.YtofadpodlaakbaaGreatMsgGet
import Derived.Test.YtofadpodlaakbaaGreatMsgRefLaw
import Derived.Test.YtofadpodlaakbaaGreatMsgRefPut
import Derived.Test.YtofadpodlaakbaaGreatCmRefGet
namespace Go.Proofs.YtofadpodlaakbaaGreat
open Go.ChangeShapes Go.WideShapes Go.ChangeAt Go.RowKit
set_option linter.unusedVariables false
set_option linter.unusedSimpArgs false
theorem RdR.grown2 {ok ok' : Nat → Prop} {w w' : World} {br : Nat} {t : TypeId} {vs : List Value} {l : List UInt8} {row : Option Nat} (h : RdR ok w br t vs l) (hg : w.grownBy w' row) (hbr : ∀ k, row = some k → k ≠ br) (hr : ∀ j, ok j → j < w.heap.size → ok' j ∧ ∀ k, row = some k → j ≠ k) : RdR ok' w' br t vs l := by
 obtain ⟨a, c, h1, h2, h3, h4⟩ := h
 refine ⟨a, c, h1.grownb hg hbr, ?_, h3, fun x hx hp => ⟨(h4 x hx hp).1, (hr _ (h4 x hx hp).2 (h2.lt hp x hx)).1⟩⟩
 refine ⟨h2.len, h2.le, h2.cap, ?_⟩
 obtain ⟨_, _, _, g4, g5⟩ := hg
 by_cases hz : l.length = 0
 ·exact .inl hz
 rcases h2.cells with h0 | ⟨b', off, rfl, hlt, hc⟩
 ·exact .inl h0
 ·refine .inr ⟨b', off, rfl, Nat.lt_of_lt_of_le hlt g4, fun i hi => ?_⟩
  have h5 := (hr b' (h4 ⟨b', off, none⟩ rfl (by omega)).2 hlt).2
  have h6 := hc i hi
  unfold World.cell? at h6 ⊢
  rw [g5 b' hlt (fun e => h5 b' e.symm rfl)]
  exact h6
set_option maxRecDepth 100000 in
set_option maxHeartbeats 20000000 in
theorem mget_ref (ab : Option Addr) (nb cb : Nat) (l : List UInt8) (w : World) (hr : Rd w ab nb cb l) (hz : ab = none → cb = 0) (hn : nb ≤ 1500) : Calls Tryz.prog 14 #[.slice ab nb cb] w (MGetP l w) := by
 have hln := hr.len
 have HR := Lib.hid (And.intro hr hz)
 have HLN := Lib.hid hln
 have HLT := Lib.hid (show ∀ x, ab = some x → 0 < nb → x.block < w.heap.size from fun x hx hp => hr.lt hp x hx)
 have hn63 : nb ≤ 9223372036854775807 := by omega
 obtain ⟨l1, hl1⟩ : ∃ x, x = l.drop (getL l).2 := ⟨_, rfl⟩
 obtain ⟨l2, hl2⟩ : ∃ x, x = l1.drop (getL l1).2 := ⟨_, rfl⟩
 have q0 : l.length ≤ 1500 := by omega
 have q1 : l1.length ≤ 1500 := by rw [hl1, List.length_drop]; omega
 have q2 : l2.length ≤ 1500 := by rw [hl2, List.length_drop]; omega
 obtain ⟨k, hk⟩ : ∃ x, x = (getL l).1 := ⟨_, rfl⟩
 obtain ⟨q, hq⟩ : ∃ x, x = (getL l1).1 := ⟨_, rfl⟩
 obtain ⟨d1, hd1⟩ : ∃ b, b = (false || decide ((getL l).2 = 0)) := ⟨_, rfl⟩
 obtain ⟨d2, hd2⟩ : ∃ b, b = (d1 || decide ((getL l1).2 = 0)) := ⟨_, rfl⟩
 obtain ⟨K, hK⟩ : ∃ x, x = IntKind.i64.wrap (k : Int) := ⟨_, rfl⟩
 have HRM := Lib.hid (readM (K := K) (q := q) hl1 hl2 (by rw [hK, hk]) hq)
 have HG0 := Lib.hid (show RefI l l2 K q 0 d2 [] [] l2 from ⟨fun h => (by
  cases hm : getM l with
  | none => rfl
  | some m =>
   obtain ⟨g1, g2, _⟩ := getM_read hl1 hl2 hm
   rw [hd2, hd1, decide_eq_false g1, decide_eq_false g2] at h
   cases h), fun _ _ => ⟨by omega, by simp, by simp⟩, fun _ _ => .inr rfl⟩)
 have HN0 := Lib.hid (fun w' br' (h : RdR (fun k => k < w.heap.size) w' br' 70 [.bool false] l) => rnum_ref _ br' false l w' h (by omega))
 have HN1 := Lib.hid (fun w' br' (h : RdR (fun k => k < w.heap.size) w' br' 70 [.bool d1] l1) => rnum_ref _ br' d1 l1 w' h (by omega))
 rw [← hk, ← hd1, ← hl1] at HN0
 rw [← hq, ← hd2, ← hl2] at HN1
 have hcs : IntKind.i64.wrap (k : Int) = K := hK.symm
 have hq64 : q < 18446744073709551616 := by rw [hq]; exact getL_lt l1
 have HQ64 := Lib.hid hq64
 have HQ2 := Lib.hid q2
 clear hr hz hln hl1 hl2 q0 q1 q2 hk hq hd1 hd2 hK hq64
 go_enter Tryz.func14, Tryz.ntmps14
 go_upto_region 2 with fail
 obtain ⟨w1, hw1⟩ : ∃ w1, w1 = w.alloc (.cells (zeroM : List Value).toArray 25) := ⟨_, rfl⟩
 obtain ⟨w2, hw2⟩ : ∃ w2, w2 = w1.alloc (.cells ([.slice ab nb cb, .bool false] : List Value).toArray 70) := ⟨_, rfl⟩
 have s1 : w1.heap.size = w.heap.size + 1 := by rw [hw1]; exact size_alloc' _ _
 have b01 : Below w.heap.size w w1 := by rw [hw1]; exact (Below.refl _ _).alloc (Nat.le_refl _) _
 have b12 : Below w1.heap.size w1 w2 := by rw [hw2]; exact (Below.refl _ _).alloc (Nat.le_refl _) _
 have c1 : Cel w1 w.heap.size 25 zeroM := by rw [hw1]; exact Cel.new w _ _
 have c2 : Cel w2 (w.heap.size + 1) 70 [.slice ab nb cb, .bool false] := by rw [hw2, ← s1]; exact Cel.new w1 _ _
 generalize hwg : World.alloc (World.alloc w _) _ = wG
 obtain rfl : w2 = wG := by rw [← hwg, hw2, hw1]; rfl
 obtain ⟨bm, hbm⟩ : ∃ b, b = w.heap.size := ⟨_, rfl⟩
 obtain ⟨br, hbr⟩ : ∃ b, b = w.heap.size + 1 := ⟨_, rfl⟩
 rw [← hbr] at c2 ⊢
 rw [← hbm] at c1 HN0 HN1 ⊢
 have HX2 := Lib.hid (show bm = w.heap.size ∧ br = bm + 1 ∧ w2.heap.size = bm + 2 from ⟨hbm, by omega, by rw [hw2, size_alloc', s1]; omega⟩)
 have HZ2 := Lib.hid (c1.step b12)
 have HB2 := Lib.hid (b01.step b12)
 have HR2 := Lib.hid (show RdR (fun k => k < bm) w2 br 70 [.bool false] l from ⟨ab, cb, by rw [HLN.out]; exact c2, by rw [HLN.out]; exact HR.out.1.below HB2.out, HR.out.2, fun x hx hp => ⟨by have hl0 := HLN.out; have := HLT.out x hx (by omega); omega, by have hl0 := HLN.out; have := HLT.out x hx (by omega); omega⟩⟩)
 clear hwg hw1 hw2 s1 b01 b12 c1 c2 hbm hbr
 go_wp2_with fail
 refine (HN0.out _ br HR2.out).mono ?_
 rintro e w3 ⟨rfl, hr, hp⟩
 have HR3 := Lib.hid hr
 have HZ3 := Lib.hid (show Cel w3 bm 25 zeroM from hp.heap HZ2.out (by have := HX2.out; omega))
 have HB3 := Lib.hid (hp.below HB2.out (by have := HX2.out; omega))
 have HS3 := Lib.hid (show w2.heap.size ≤ w3.heap.size from hp.size)
 clear hr hp HR2 HZ2 HB2 HN0
 go_upto_region 3 with fail
 generalize hw4 : w3.alloc (.cells _ _) = w4
 have hb4 : Below w3.heap.size w3 w4 := by rw [← hw4]; exact (Below.refl _ _).alloc (Nat.le_refl _) _
 obtain ⟨b5, hb5⟩ : ∃ b, b = w3.heap.size := ⟨_, rfl⟩
 have HC4 := Lib.hid (show Cel w4 b5 25 [.int .i64 K, .slice none 0 0, .slice none 0 0] by rw [← hw4, hb5]; exact Cel.new w3 _ _)
 rw [← hb5]
 have HX := Lib.hid (show bm = w.heap.size ∧ br = bm + 1 ∧ bm + 2 ≤ b5 from by have h1 := HX2.out; have h2 := HS3.out; exact ⟨h1.1, h1.2.1, by omega⟩)
 have HR4 := Lib.hid (HR3.out.below hb4)
 have HZ4 := Lib.hid (HZ3.out.step hb4)
 have HB4 := Lib.hid (HB3.out.step hb4)
 clear hw4 hb4 hb5 HR3 HZ3 HB3 HS3 HX2
 go_wp2_with fail
 refine (HN1.out _ br HR4.out).mono ?_
 rintro e w5 ⟨rfl, hr, hp⟩
 have HR5 := Lib.hid (show RdR (fun k => k ≠ bm ∧ k ≠ b5 ∧ (∀ g, (Value.slice none 0 0).ownBlock = some g → k ≠ g) ∧ (¬ K = 2 → k < bm)) w5 br 70 [.bool d2] l2 from hr.imp (fun k h => ⟨by omega, by have := HX.out; omega, fun g hg => (by cases hg), fun _ => h⟩))
 have HC5 := Lib.hid (show Cel w5 b5 25 [.int .i64 K, .slice none 0 0, .slice none 0 0] from hp.heap HC4.out (by have := HX.out; omega))
 have HZ5 := Lib.hid (show Cel w5 bm 25 zeroM from hp.heap HZ4.out (by have := HX.out; omega))
 have HB5 := Lib.hid (hp.below HB4.out (by have := HX.out; omega))
 clear hr hp HR4 HC4 HZ4 HB4 HN1 hcs
 go_wp2_with fail
 go_loopw [7] (fun v7 wr => ∃ (i ni nc : Nat) (av : Option Addr) (cv : Nat) (ac : Option Addr) (cc : Nat) (bd : Bool) (F : List UInt8) (L : List Cmt) (ps : List (Option Addr × Nat)) (lr : List UInt8), (i ≤ q ∧ i ≤ 17 ∧ ni + nc = i) ∧ v7 = .int .u64 (i : Int) ∧ Hid (F.length = 32 * ni ∧ lr.length ≤ 1500) ∧ Hid ((K = 2 → av = none ∧ ni = 0 ∧ cv = 0 ∧ F = [] ∧ nc = i) ∧ (¬ K = 2 → ac = none ∧ nc = 0 ∧ cc = 0 ∧ L = [] ∧ ps = [] ∧ ni = i)) ∧ Hid (Cel wr b5 25 [.int .i64 K, .slice av ni cv, .slice ac nc cc]) ∧ Hid (wr.ownsRow (b5 + 1) 48 32 (.slice av ni cv) ni (Bs F)) ∧ Hid (CmsO wr (b5 + 1) ac nc cc L ps) ∧ Hid (RdR (fun k => k ≠ bm ∧ k ≠ b5 ∧ (∀ g, (Value.slice ac nc cc).ownBlock = some g → k ≠ g) ∧ (¬ K = 2 → k < bm)) wr br 70 [.bool bd] lr) ∧ Hid (Cel wr bm 25 zeroM) ∧ Hid (Below w.heap.size w wr) ∧ Hid (RefI l l2 K q i bd F L lr)) (fun v7 _ => 17 - (intOf v7).toNat)
 case atStart => exact ⟨0, 0, 0, none, 0, none, 0, d2, [], [], [], l2, ⟨Nat.zero_le _, Nat.zero_le _, rfl⟩, rfl, Lib.hid ⟨rfl, HQ2.out⟩, Lib.hid ⟨fun _ => ⟨rfl, rfl, rfl, rfl, rfl⟩, fun _ => ⟨rfl, rfl, rfl, rfl, rfl, rfl⟩⟩, HC5, Lib.hid (World.ownsRow_nil _ _ _ _), Lib.hid (CmsO.nil _ _), HR5, HZ5, HB5, HG0⟩
 case round =>
  obtain ⟨i, ni, nc, av, cv, ac, cc, bd, F, L, ps, lr, ⟨hiq0, hi17, hsum⟩, rfl, hI, hK, hC, hO, hM, hR, hZ, hB, hG⟩ := hrel
  obtain ⟨a0, c0, hbrc, hrd0, hac0, hne0⟩ := hR.out
  have r1 : wr.cell? ⟨br, 1, none⟩ = some (.bool bd) := hbrc.at 1 _ rfl
  clear hrd0 hac0 hne0
  have p0 : wr.cell? ⟨b5, 0, none⟩ = some (.int .i64 K) := hC.out.at 0 _ rfl
  have p1 : wr.cell? ⟨b5, 1, none⟩ = some (.slice av ni cv) := hC.out.at 1 _ rfl
  have p2 : wr.cell? ⟨b5, 2, none⟩ = some (.slice ac nc cc) := hC.out.at 2 _ rfl
  obtain ⟨m, hm⟩ : ∃ m : Msg, m = ⟨K, idsOf ni F, L⟩ := ⟨_, rfl⟩
  have HMR := Lib.hid (show MsgR wr m av cv ac cc from by
   have hids : Ids wr av ni cv (idsOf ni F) := by
    obtain ⟨a', c', e, h2, _⟩ := Ids.of_own (b := F) (by rw [List.take_of_length_le (by rw [hI.out.1]; exact Nat.le_refl _)]; exact hO.out) (by rw [hI.out.1]; exact Nat.le_refl _)
    injection e with e1 _ e2
    subst e1 e2
    exact h2
   have hcms := hM.out.cms
   rw [hm]
   exact ⟨by show Ids wr av (idsOf ni F).length cv (idsOf ni F); rw [idsOf_length]; exact hids, by show Cms wr ac L.length cc L; rw [hM.out.len]; exact hcms⟩)
  have HVAL := Lib.hid (show m.val av cv ac cc = .agg #[.int .i64 K, .slice av ni cv, .slice ac nc cc] by rw [hm]; unfold Msg.val Msg.cs; simp only [idsOf_length, hM.out.len])
  obtain ⟨X, hX⟩ : ∃ X, X = if mayM m = true then putM m else [] := ⟨_, rfl⟩
  obtain ⟨er, her⟩ : ∃ x : Int, x = if mayM m = true then 0 else 1 := ⟨_, rfl⟩
  have HER := Lib.hid (And.intro her hX)
  have HPR := Lib.hid (show Calls Tryz.prog 8 #[.agg #[.int .i64 K, .slice av ni cv, .slice ac nc cc]] wr (fun e w'' => ∃ a' c', e = .returned (.tuple #[.slice a' X.length c', .int .i64 er]) ∧ Rd w'' a' X.length c' X ∧ Below wr.heap.size wr w'') by
   rw [← HVAL.out]
   refine (mput_ref m av cv ac cc wr HMR.out).mono fun e w'' hp => ?_
   unfold MPutP at hp
   cases hm : mayM m with
   | true =>
    rw [hm, if_pos rfl] at hp
    obtain ⟨a', c', h1, h2, _, h3⟩ := hp
    rw [hX, her, hm]
    exact ⟨a', c', h1, h2, h3⟩
   | false =>
    rw [hm, if_neg (by decide)] at hp
    rw [hX, her, hm]
    exact ⟨none, 0, hp.1, Rd.nil w'', hp.2⟩)
  obtain ⟨lx, hlx⟩ : ∃ l, l = X.length := ⟨_, rfl⟩
  rw [← hlx] at HPR
  clear hX her hlx
  have hw : IntKind.i64.wrap ((ni : Int) + (nc : Int)) = (i : Int) := by rw [wrap_i64']; split <;> omega
  by_cases hik : i < q
  case neg =>
   have hki : ¬ (i : Int) < (q : Int) := by omega
   cases bd with
   | true =>
    have HNOC := Lib.hid (hG.out.no rfl)
    go_wp2_with fail
    refine HPR.out.mono ?_
    rintro e wA ⟨a6, c6, rfl, hr6, hb⟩
    have HZA := Lib.hid (hZ.out.step hb)
    have HBA := Lib.hid (hB.out.step hb)
    have HBRA := Lib.hid (hbrc.step hb)
    have HXA := Lib.hid hr6
    have HCA := Lib.hid (hC.out.step hb)
    have HMA := Lib.hid (HMR.out.below hb)
    clear hr6 hb p0 p1 p2 r1 hbrc
    have r2 : wA.cell? ⟨br, 1, none⟩ = some (.bool true) := HBRA.out.at 1 _ rfl
    have z0 : wA.cell? ⟨bm, 0, none⟩ = some (.int .i64 0) := HZA.out.at 0 _ rfl
    have z1 : wA.cell? ⟨bm, 1, none⟩ = some (.slice none 0 0) := HZA.out.at 1 _ rfl
    have z2 : wA.cell? ⟨bm, 2, none⟩ = some (.slice none 0 0) := HZA.out.at 2 _ rfl
    have fz0 : wA.frozen? ⟨bm, 0, none⟩ = false := HZA.out.free 0
    have fz1 : wA.frozen? ⟨bm, 1, none⟩ = false := HZA.out.free 1
    have fz2 : wA.frozen? ⟨bm, 2, none⟩ = false := HZA.out.free 2
    go_wp2_with fail
    generalize hwF : World.setCell (World.setCell (World.setCell wA _ _) _ _) _ _ = wF
    have hOF : Only wA wF bm := by rw [← hwF]; exact ((only_set _ _ _ _).trans (only_set _ _ _ _)).trans (only_set _ _ _ _)
    have HCF := Lib.hid (show Cel wF bm 25 zeroM by rw [← hwF]; exact ((HZA.out.set 0 _).set 1 _).set 2 _)
    have HBF := Lib.hid (hOF.below HBA.out (by have := HX.out; omega))
    clear hwF hOF
    refine bodyPost_ret (v := .tuple #[.agg zeroM.toArray, .int .i64 2]) ?_ rfl (by show MGetP l w _ _; unfold MGetP; rw [HNOC.out]; exact ⟨rfl, HBF.out⟩)
    have hl := run_loadVar_mid (P := Tryz.prog) wF bm 0 25 zeroM _ HCF.out.range Tryz.underlying25 rfl (by kernel_rfl)
    simp [results, Tryz.results14, asAddr, hl, Result.andThen]
   | false =>
    have hon := getM_end (l := l) HMR.out.all32 (by rw [hm]; exact hG.out.only HRM.out hiq0 (.inl hik) (fun h => (hK.out.1 h).2.1) (fun h => ⟨(hK.out.2 h).2.2.2.2.2, (hK.out.2 h).2.2.2.1⟩))
    have HON := Lib.hid hon
    clear hon
    cases hmay : mayM m with
    | false =>
     have HNOC := Lib.hid (show getM l = none by rw [HON.out, if_neg (fun h => by rw [hmay] at h; exact absurd h.1 (by decide))])
     obtain rfl : er = 1 := by rw [HER.out.1, hmay]; rfl
     clear hmay
     go_wp2_with fail
     refine HPR.out.mono ?_
     rintro e wA ⟨a6, c6, rfl, hr6, hb⟩
     have HZA := Lib.hid (hZ.out.step hb)
     have HBA := Lib.hid (hB.out.step hb)
     have HBRA := Lib.hid (hbrc.step hb)
     have HXA := Lib.hid hr6
     have HCA := Lib.hid (hC.out.step hb)
     have HMA := Lib.hid (HMR.out.below hb)
     clear hr6 hb p0 p1 p2 r1 hbrc
     have r2 : wA.cell? ⟨br, 1, none⟩ = some (.bool false) := HBRA.out.at 1 _ rfl
     have z0 : wA.cell? ⟨bm, 0, none⟩ = some (.int .i64 0) := HZA.out.at 0 _ rfl
     have z1 : wA.cell? ⟨bm, 1, none⟩ = some (.slice none 0 0) := HZA.out.at 1 _ rfl
     have z2 : wA.cell? ⟨bm, 2, none⟩ = some (.slice none 0 0) := HZA.out.at 2 _ rfl
     have fz0 : wA.frozen? ⟨bm, 0, none⟩ = false := HZA.out.free 0
     have fz1 : wA.frozen? ⟨bm, 1, none⟩ = false := HZA.out.free 1
     have fz2 : wA.frozen? ⟨bm, 2, none⟩ = false := HZA.out.free 2
     go_wp2_with fail
     generalize hwF : World.setCell (World.setCell (World.setCell wA _ _) _ _) _ _ = wF
     have hOF : Only wA wF bm := by rw [← hwF]; exact ((only_set _ _ _ _).trans (only_set _ _ _ _)).trans (only_set _ _ _ _)
     have HCF := Lib.hid (show Cel wF bm 25 zeroM by rw [← hwF]; exact ((HZA.out.set 0 _).set 1 _).set 2 _)
     have HBF := Lib.hid (hOF.below HBA.out (by have := HX.out; omega))
     clear hwF hOF
     refine bodyPost_ret (v := .tuple #[.agg zeroM.toArray, .int .i64 2]) ?_ rfl (by show MGetP l w _ _; unfold MGetP; rw [HNOC.out]; exact ⟨rfl, HBF.out⟩)
     have hl := run_loadVar_mid (P := Tryz.prog) wF bm 0 25 zeroM _ HCF.out.range Tryz.underlying25 rfl (by kernel_rfl)
     simp [results, Tryz.results14, asAddr, hl, Result.andThen]
    | true =>
     obtain rfl : er = 0 := by rw [HER.out.1, hmay]; rfl
     have hXm : X = putM m := by rw [HER.out.2, hmay]; rfl
     by_cases hxl : X = l
     ·have HS := Lib.hid (show getM l = some m by rw [HON.out, if_pos ⟨hmay, by rw [← hXm]; exact hxl⟩])
      clear hmay hXm
      go_wp2_with fail
      refine HPR.out.mono ?_
      rintro e wA ⟨a6, c6, rfl, hr6, hb⟩
      have HZA := Lib.hid (hZ.out.step hb)
      have HBA := Lib.hid (hB.out.step hb)
      have HBRA := Lib.hid (hbrc.step hb)
      have HXA := Lib.hid hr6
      have HCA := Lib.hid (hC.out.step hb)
      have HMA := Lib.hid (HMR.out.below hb)
      clear hr6 hb p0 p1 p2 r1 hbrc
      have r2 : wA.cell? ⟨br, 1, none⟩ = some (.bool false) := HBRA.out.at 1 _ rfl
      obtain ⟨sx, hsx⟩ : ∃ s : ByteArray, s = ⟨X.toArray⟩ := ⟨_, rfl⟩
      have hcx : (convert 28 9 (.slice a6 lx c6)).run Tryz.prog wA = .ok (.string sx) wA := by rw [hsx]; exact HXA.out.str (P := Tryz.prog) 28 5 9 Tryz.underlying28 Tryz.underlying5 Tryz.underlying9
      have hcy : (convert 28 9 (.slice ab nb cb)).run Tryz.prog wA = .ok (.string sx) wA := by rw [hsx, hxl]; exact (HR.out.1.below HBA.out).str (P := Tryz.prog) 28 5 9 Tryz.underlying28 Tryz.underlying5 Tryz.underlying9
      clear hsx hxl
      have p0 : wA.cell? ⟨b5, 0, none⟩ = some (.int .i64 K) := HCA.out.at 0 _ rfl
      have p1 : wA.cell? ⟨b5, 1, none⟩ = some (.slice av ni cv) := HCA.out.at 1 _ rfl
      have p2 : wA.cell? ⟨b5, 2, none⟩ = some (.slice ac nc cc) := HCA.out.at 2 _ rfl
      have z0 : wA.cell? ⟨bm, 0, none⟩ = some (.int .i64 0) := HZA.out.at 0 _ rfl
      have z1 : wA.cell? ⟨bm, 1, none⟩ = some (.slice none 0 0) := HZA.out.at 1 _ rfl
      have z2 : wA.cell? ⟨bm, 2, none⟩ = some (.slice none 0 0) := HZA.out.at 2 _ rfl
      have fz0 : wA.frozen? ⟨bm, 0, none⟩ = false := HZA.out.free 0
      have fz1 : wA.frozen? ⟨bm, 1, none⟩ = false := HZA.out.free 1
      have fz2 : wA.frozen? ⟨bm, 2, none⟩ = false := HZA.out.free 2
      have nb5 : b5 ≠ bm := by have := HX.out; omega
      go_wp2_with fail
      generalize hwF : World.setCell (World.setCell (World.setCell wA _ _) _ _) _ _ = wF
      have hOF : Only wA wF bm := by rw [← hwF]; exact ((only_set _ _ _ _).trans (only_set _ _ _ _)).trans (only_set _ _ _ _)
      have HCF := Lib.hid (show Cel wF bm 25 [.int .i64 K, .slice av ni cv, .slice ac nc cc] by rw [← hwF]; exact ((HZA.out.set 0 _).set 1 _).set 2 _)
      have HBF := Lib.hid (hOF.below HBA.out (by have := HX.out; omega))
      have HMF := Lib.hid (HMA.out.only hOF HZA.out (by intro v hv z; simp only [zeroM, List.mem_cons, List.not_mem_nil, or_false] at hv; rcases hv with rfl | rfl | rfl <;> exact fun h => nomatch h) (by decide))
      have HEND := Lib.hid (show MGetP l w (.returned (.tuple #[.agg #[.int .i64 K, .slice av ni cv, .slice ac nc cc], .int .i64 0])) wF by
       unfold MGetP
       rw [HS.out]
       exact ⟨av, cv, ac, cc, by rw [HVAL.out], HMF.out, HBF.out⟩)
      clear hwF hOF
      refine bodyPost_ret (v := .tuple #[.agg #[.int .i64 K, .slice av ni cv, .slice ac nc cc], .int .i64 0]) ?_ rfl HEND.out
      have hl := run_loadVar_mid (P := Tryz.prog) wF bm 0 25 _ _ HCF.out.range Tryz.underlying25 rfl (by kernel_rfl)
      simp [results, Tryz.results14, asAddr, hl, Result.andThen]
     ·have HNOC := Lib.hid (show getM l = none by rw [HON.out, if_neg (fun h => hxl (by rw [hXm]; exact h.2))])
      clear hmay hXm
      go_wp2_with fail
      refine HPR.out.mono ?_
      rintro e wA ⟨a6, c6, rfl, hr6, hb⟩
      have HZA := Lib.hid (hZ.out.step hb)
      have HBA := Lib.hid (hB.out.step hb)
      have HBRA := Lib.hid (hbrc.step hb)
      have HXA := Lib.hid hr6
      have HCA := Lib.hid (hC.out.step hb)
      have HMA := Lib.hid (HMR.out.below hb)
      clear hr6 hb p0 p1 p2 r1 hbrc
      have r2 : wA.cell? ⟨br, 1, none⟩ = some (.bool false) := HBRA.out.at 1 _ rfl
      obtain ⟨sx, hsx⟩ : ∃ s : ByteArray, s = ⟨X.toArray⟩ := ⟨_, rfl⟩
      obtain ⟨sy, hsy⟩ : ∃ s : ByteArray, s = ⟨l.toArray⟩ := ⟨_, rfl⟩
      have hcx : (convert 28 9 (.slice a6 lx c6)).run Tryz.prog wA = .ok (.string sx) wA := by rw [hsx]; exact HXA.out.str (P := Tryz.prog) 28 5 9 Tryz.underlying28 Tryz.underlying5 Tryz.underlying9
      have hcy : (convert 28 9 (.slice ab nb cb)).run Tryz.prog wA = .ok (.string sy) wA := by rw [hsy]; exact (HR.out.1.below HBA.out).str (P := Tryz.prog) 28 5 9 Tryz.underlying28 Tryz.underlying5 Tryz.underlying9
      have hn1 : ¬ sx.data = sy.data := by rw [hsx, hsy]; intro h; exact hxl (by simpa using congrArg Array.toList h)
      have hn2 : (sx.data == sy.data) = false := by simpa using hn1
      have hn3 : ¬ sx = sy := fun h => hn1 (by rw [h])
      have hn5 : (sx.toList == sy.toList) = false := by rw [hsx, hsy, Lib.toList_data, Lib.toList_data]; simpa using hxl
      clear hsx hsy hxl
      have z0 : wA.cell? ⟨bm, 0, none⟩ = some (.int .i64 0) := HZA.out.at 0 _ rfl
      have z1 : wA.cell? ⟨bm, 1, none⟩ = some (.slice none 0 0) := HZA.out.at 1 _ rfl
      have z2 : wA.cell? ⟨bm, 2, none⟩ = some (.slice none 0 0) := HZA.out.at 2 _ rfl
      have fz0 : wA.frozen? ⟨bm, 0, none⟩ = false := HZA.out.free 0
      have fz1 : wA.frozen? ⟨bm, 1, none⟩ = false := HZA.out.free 1
      have fz2 : wA.frozen? ⟨bm, 2, none⟩ = false := HZA.out.free 2
      go_wp2_with fail
      generalize hwF : World.setCell (World.setCell (World.setCell wA _ _) _ _) _ _ = wF
      have hOF : Only wA wF bm := by rw [← hwF]; exact ((only_set _ _ _ _).trans (only_set _ _ _ _)).trans (only_set _ _ _ _)
      have HCF := Lib.hid (show Cel wF bm 25 zeroM by rw [← hwF]; exact ((HZA.out.set 0 _).set 1 _).set 2 _)
      have HBF := Lib.hid (hOF.below HBA.out (by have := HX.out; omega))
      clear hwF hOF
      refine bodyPost_ret (v := .tuple #[.agg zeroM.toArray, .int .i64 2]) ?_ rfl (by show MGetP l w _ _; unfold MGetP; rw [HNOC.out]; exact ⟨rfl, HBF.out⟩)
      have hl := run_loadVar_mid (P := Tryz.prog) wF bm 0 25 zeroM _ HCF.out.range Tryz.underlying25 rfl (by kernel_rfl)
      simp [results, Tryz.results14, asAddr, hl, Result.andThen]
  have hki : (i : Int) < (q : Int) := by omega
  cases bd with
  | true =>
   have HNOC := Lib.hid (hG.out.no rfl)
   go_wp2_with fail
   refine HPR.out.mono ?_
   rintro e wA ⟨a6, c6, rfl, hr6, hb⟩
   have HZA := Lib.hid (hZ.out.step hb)
   have HBA := Lib.hid (hB.out.step hb)
   have HBRA := Lib.hid (hbrc.step hb)
   have HXA := Lib.hid hr6
   have HCA := Lib.hid (hC.out.step hb)
   have HMA := Lib.hid (HMR.out.below hb)
   clear hr6 hb p0 p1 p2 r1 hbrc
   have r2 : wA.cell? ⟨br, 1, none⟩ = some (.bool true) := HBRA.out.at 1 _ rfl
   have z0 : wA.cell? ⟨bm, 0, none⟩ = some (.int .i64 0) := HZA.out.at 0 _ rfl
   have z1 : wA.cell? ⟨bm, 1, none⟩ = some (.slice none 0 0) := HZA.out.at 1 _ rfl
   have z2 : wA.cell? ⟨bm, 2, none⟩ = some (.slice none 0 0) := HZA.out.at 2 _ rfl
   have fz0 : wA.frozen? ⟨bm, 0, none⟩ = false := HZA.out.free 0
   have fz1 : wA.frozen? ⟨bm, 1, none⟩ = false := HZA.out.free 1
   have fz2 : wA.frozen? ⟨bm, 2, none⟩ = false := HZA.out.free 2
   go_wp2_with fail
   generalize hwF : World.setCell (World.setCell (World.setCell wA _ _) _ _) _ _ = wF
   have hOF : Only wA wF bm := by rw [← hwF]; exact ((only_set _ _ _ _).trans (only_set _ _ _ _)).trans (only_set _ _ _ _)
   have HCF := Lib.hid (show Cel wF bm 25 zeroM by rw [← hwF]; exact ((HZA.out.set 0 _).set 1 _).set 2 _)
   have HBF := Lib.hid (hOF.below HBA.out (by have := HX.out; omega))
   clear hwF hOF
   refine bodyPost_ret (v := .tuple #[.agg zeroM.toArray, .int .i64 2]) ?_ rfl (by show MGetP l w _ _; unfold MGetP; rw [HNOC.out]; exact ⟨rfl, HBF.out⟩)
   have hl := run_loadVar_mid (P := Tryz.prog) wF bm 0 25 zeroM _ HCF.out.range Tryz.underlying25 rfl (by kernel_rfl)
   simp [results, Tryz.results14, asAddr, hl, Result.andThen]
  | false =>
   by_cases h16 : i ≤ 16
   case neg =>
    have hs1 : ¬ (i : Int) ≤ 16 := by omega
    have hon := getM_end (l := l) HMR.out.all32 (by rw [hm]; exact hG.out.only HRM.out hiq0 (.inr (by omega)) (fun h => (hK.out.1 h).2.1) (fun h => ⟨(hK.out.2 h).2.2.2.2.2, (hK.out.2 h).2.2.2.1⟩))
    have HON := Lib.hid hon
    clear hon
    cases hmay : mayM m with
    | false =>
     have HNOC := Lib.hid (show getM l = none by rw [HON.out, if_neg (fun h => by rw [hmay] at h; exact absurd h.1 (by decide))])
     obtain rfl : er = 1 := by rw [HER.out.1, hmay]; rfl
     clear hmay
     go_wp2_with fail
     refine HPR.out.mono ?_
     rintro e wA ⟨a6, c6, rfl, hr6, hb⟩
     have HZA := Lib.hid (hZ.out.step hb)
     have HBA := Lib.hid (hB.out.step hb)
     have HBRA := Lib.hid (hbrc.step hb)
     have HXA := Lib.hid hr6
     have HCA := Lib.hid (hC.out.step hb)
     have HMA := Lib.hid (HMR.out.below hb)
     clear hr6 hb p0 p1 p2 r1 hbrc
     have r2 : wA.cell? ⟨br, 1, none⟩ = some (.bool false) := HBRA.out.at 1 _ rfl
     have z0 : wA.cell? ⟨bm, 0, none⟩ = some (.int .i64 0) := HZA.out.at 0 _ rfl
     have z1 : wA.cell? ⟨bm, 1, none⟩ = some (.slice none 0 0) := HZA.out.at 1 _ rfl
     have z2 : wA.cell? ⟨bm, 2, none⟩ = some (.slice none 0 0) := HZA.out.at 2 _ rfl
     have fz0 : wA.frozen? ⟨bm, 0, none⟩ = false := HZA.out.free 0
     have fz1 : wA.frozen? ⟨bm, 1, none⟩ = false := HZA.out.free 1
     have fz2 : wA.frozen? ⟨bm, 2, none⟩ = false := HZA.out.free 2
     go_wp2_with fail
     generalize hwF : World.setCell (World.setCell (World.setCell wA _ _) _ _) _ _ = wF
     have hOF : Only wA wF bm := by rw [← hwF]; exact ((only_set _ _ _ _).trans (only_set _ _ _ _)).trans (only_set _ _ _ _)
     have HCF := Lib.hid (show Cel wF bm 25 zeroM by rw [← hwF]; exact ((HZA.out.set 0 _).set 1 _).set 2 _)
     have HBF := Lib.hid (hOF.below HBA.out (by have := HX.out; omega))
     clear hwF hOF
     refine bodyPost_ret (v := .tuple #[.agg zeroM.toArray, .int .i64 2]) ?_ rfl (by show MGetP l w _ _; unfold MGetP; rw [HNOC.out]; exact ⟨rfl, HBF.out⟩)
     have hl := run_loadVar_mid (P := Tryz.prog) wF bm 0 25 zeroM _ HCF.out.range Tryz.underlying25 rfl (by kernel_rfl)
     simp [results, Tryz.results14, asAddr, hl, Result.andThen]
    | true =>
     obtain rfl : er = 0 := by rw [HER.out.1, hmay]; rfl
     have hXm : X = putM m := by rw [HER.out.2, hmay]; rfl
     by_cases hxl : X = l
     ·have HS := Lib.hid (show getM l = some m by rw [HON.out, if_pos ⟨hmay, by rw [← hXm]; exact hxl⟩])
      clear hmay hXm
      go_wp2_with fail
      refine HPR.out.mono ?_
      rintro e wA ⟨a6, c6, rfl, hr6, hb⟩
      have HZA := Lib.hid (hZ.out.step hb)
      have HBA := Lib.hid (hB.out.step hb)
      have HBRA := Lib.hid (hbrc.step hb)
      have HXA := Lib.hid hr6
      have HCA := Lib.hid (hC.out.step hb)
      have HMA := Lib.hid (HMR.out.below hb)
      clear hr6 hb p0 p1 p2 r1 hbrc
      have r2 : wA.cell? ⟨br, 1, none⟩ = some (.bool false) := HBRA.out.at 1 _ rfl
      obtain ⟨sx, hsx⟩ : ∃ s : ByteArray, s = ⟨X.toArray⟩ := ⟨_, rfl⟩
      have hcx : (convert 28 9 (.slice a6 lx c6)).run Tryz.prog wA = .ok (.string sx) wA := by rw [hsx]; exact HXA.out.str (P := Tryz.prog) 28 5 9 Tryz.underlying28 Tryz.underlying5 Tryz.underlying9
      have hcy : (convert 28 9 (.slice ab nb cb)).run Tryz.prog wA = .ok (.string sx) wA := by rw [hsx, hxl]; exact (HR.out.1.below HBA.out).str (P := Tryz.prog) 28 5 9 Tryz.underlying28 Tryz.underlying5 Tryz.underlying9
      clear hsx hxl
      have p0 : wA.cell? ⟨b5, 0, none⟩ = some (.int .i64 K) := HCA.out.at 0 _ rfl
      have p1 : wA.cell? ⟨b5, 1, none⟩ = some (.slice av ni cv) := HCA.out.at 1 _ rfl
      have p2 : wA.cell? ⟨b5, 2, none⟩ = some (.slice ac nc cc) := HCA.out.at 2 _ rfl
      have z0 : wA.cell? ⟨bm, 0, none⟩ = some (.int .i64 0) := HZA.out.at 0 _ rfl
      have z1 : wA.cell? ⟨bm, 1, none⟩ = some (.slice none 0 0) := HZA.out.at 1 _ rfl
      have z2 : wA.cell? ⟨bm, 2, none⟩ = some (.slice none 0 0) := HZA.out.at 2 _ rfl
      have fz0 : wA.frozen? ⟨bm, 0, none⟩ = false := HZA.out.free 0
      have fz1 : wA.frozen? ⟨bm, 1, none⟩ = false := HZA.out.free 1
      have fz2 : wA.frozen? ⟨bm, 2, none⟩ = false := HZA.out.free 2
      have nb5 : b5 ≠ bm := by have := HX.out; omega
      go_wp2_with fail
      generalize hwF : World.setCell (World.setCell (World.setCell wA _ _) _ _) _ _ = wF
      have hOF : Only wA wF bm := by rw [← hwF]; exact ((only_set _ _ _ _).trans (only_set _ _ _ _)).trans (only_set _ _ _ _)
      have HCF := Lib.hid (show Cel wF bm 25 [.int .i64 K, .slice av ni cv, .slice ac nc cc] by rw [← hwF]; exact ((HZA.out.set 0 _).set 1 _).set 2 _)
      have HBF := Lib.hid (hOF.below HBA.out (by have := HX.out; omega))
      have HMF := Lib.hid (HMA.out.only hOF HZA.out (by intro v hv z; simp only [zeroM, List.mem_cons, List.not_mem_nil, or_false] at hv; rcases hv with rfl | rfl | rfl <;> exact fun h => nomatch h) (by decide))
      have HEND := Lib.hid (show MGetP l w (.returned (.tuple #[.agg #[.int .i64 K, .slice av ni cv, .slice ac nc cc], .int .i64 0])) wF by
       unfold MGetP
       rw [HS.out]
       exact ⟨av, cv, ac, cc, by rw [HVAL.out], HMF.out, HBF.out⟩)
      clear hwF hOF
      refine bodyPost_ret (v := .tuple #[.agg #[.int .i64 K, .slice av ni cv, .slice ac nc cc], .int .i64 0]) ?_ rfl HEND.out
      have hl := run_loadVar_mid (P := Tryz.prog) wF bm 0 25 _ _ HCF.out.range Tryz.underlying25 rfl (by kernel_rfl)
      simp [results, Tryz.results14, asAddr, hl, Result.andThen]
     ·have HNOC := Lib.hid (show getM l = none by rw [HON.out, if_neg (fun h => hxl (by rw [hXm]; exact h.2))])
      clear hmay hXm
      go_wp2_with fail
      refine HPR.out.mono ?_
      rintro e wA ⟨a6, c6, rfl, hr6, hb⟩
      have HZA := Lib.hid (hZ.out.step hb)
      have HBA := Lib.hid (hB.out.step hb)
      have HBRA := Lib.hid (hbrc.step hb)
      have HXA := Lib.hid hr6
      have HCA := Lib.hid (hC.out.step hb)
      have HMA := Lib.hid (HMR.out.below hb)
      clear hr6 hb p0 p1 p2 r1 hbrc
      have r2 : wA.cell? ⟨br, 1, none⟩ = some (.bool false) := HBRA.out.at 1 _ rfl
      obtain ⟨sx, hsx⟩ : ∃ s : ByteArray, s = ⟨X.toArray⟩ := ⟨_, rfl⟩
      obtain ⟨sy, hsy⟩ : ∃ s : ByteArray, s = ⟨l.toArray⟩ := ⟨_, rfl⟩
      have hcx : (convert 28 9 (.slice a6 lx c6)).run Tryz.prog wA = .ok (.string sx) wA := by rw [hsx]; exact HXA.out.str (P := Tryz.prog) 28 5 9 Tryz.underlying28 Tryz.underlying5 Tryz.underlying9
      have hcy : (convert 28 9 (.slice ab nb cb)).run Tryz.prog wA = .ok (.string sy) wA := by rw [hsy]; exact (HR.out.1.below HBA.out).str (P := Tryz.prog) 28 5 9 Tryz.underlying28 Tryz.underlying5 Tryz.underlying9
      have hn1 : ¬ sx.data = sy.data := by rw [hsx, hsy]; intro h; exact hxl (by simpa using congrArg Array.toList h)
      have hn2 : (sx.data == sy.data) = false := by simpa using hn1
      have hn3 : ¬ sx = sy := fun h => hn1 (by rw [h])
      have hn5 : (sx.toList == sy.toList) = false := by rw [hsx, hsy, Lib.toList_data, Lib.toList_data]; simpa using hxl
      clear hsx hsy hxl
      have z0 : wA.cell? ⟨bm, 0, none⟩ = some (.int .i64 0) := HZA.out.at 0 _ rfl
      have z1 : wA.cell? ⟨bm, 1, none⟩ = some (.slice none 0 0) := HZA.out.at 1 _ rfl
      have z2 : wA.cell? ⟨bm, 2, none⟩ = some (.slice none 0 0) := HZA.out.at 2 _ rfl
      have fz0 : wA.frozen? ⟨bm, 0, none⟩ = false := HZA.out.free 0
      have fz1 : wA.frozen? ⟨bm, 1, none⟩ = false := HZA.out.free 1
      have fz2 : wA.frozen? ⟨bm, 2, none⟩ = false := HZA.out.free 2
      go_wp2_with fail
      generalize hwF : World.setCell (World.setCell (World.setCell wA _ _) _ _) _ _ = wF
      have hOF : Only wA wF bm := by rw [← hwF]; exact ((only_set _ _ _ _).trans (only_set _ _ _ _)).trans (only_set _ _ _ _)
      have HCF := Lib.hid (show Cel wF bm 25 zeroM by rw [← hwF]; exact ((HZA.out.set 0 _).set 1 _).set 2 _)
      have HBF := Lib.hid (hOF.below HBA.out (by have := HX.out; omega))
      clear hwF hOF
      refine bodyPost_ret (v := .tuple #[.agg zeroM.toArray, .int .i64 2]) ?_ rfl (by show MGetP l w _ _; unfold MGetP; rw [HNOC.out]; exact ⟨rfl, HBF.out⟩)
      have hl := run_loadVar_mid (P := Tryz.prog) wF bm 0 25 zeroM _ HCF.out.range Tryz.underlying25 rfl (by kernel_rfl)
      simp [results, Tryz.results14, asAddr, hl, Result.andThen]
   have hs1 : (i : Int) ≤ 16 := by omega
   clear HPR HER HVAL HMR hm
   obtain ⟨i1, hi1⟩ : ∃ i1, i1 = i + 1 := ⟨_, rfl⟩
   obtain ⟨x, hx⟩ : ∃ x, x = idX lr := ⟨_, rfl⟩
   have hx32 : x.length = 32 := by rw [hx]; exact idX_length lr
   have hlr0 := hI.out.2
   have HID := Lib.hid (fun w' (h : RdR (fun k => k ≠ bm ∧ k ≠ b5 ∧ (∀ g, (Value.slice ac nc cc).ownBlock = some g → k ≠ g) ∧ (¬ K = 2 → k < bm)) w' br 70 [.bool false] lr) => rid_ref _ br false lr w' h (by omega))
   obtain ⟨bd', hbd'⟩ : ∃ b, b = (false || !decide (32 ≤ lr.length)) := ⟨_, rfl⟩
   obtain ⟨lr', hlr'⟩ : ∃ b, b = idR lr := ⟨_, rfl⟩
   have hlrl : lr'.length ≤ 1500 := by
    rw [hlr']; unfold idR; split
    ·rw [List.length_drop]; omega
    ·exact hlr0
   obtain ⟨T, hT⟩ : ∃ x, x = cutT lr' 100000 := ⟨_, rfl⟩
   obtain ⟨R, hRR⟩ : ∃ x, x = cutR lr' 100000 := ⟨_, rfl⟩
   obtain ⟨is, his⟩ : ∃ x, x = cutIs lr' 100000 := ⟨_, rfl⟩
   have hTl : T.length ≤ 1500 := by
    rw [hT]; unfold cutT; split
    ·rw [List.length_take, List.length_drop]; omega
    ·simp
   have hRl : R.length ≤ 1500 := by
    rw [hRR]; unfold cutR; split
    ·rw [List.length_drop, List.length_drop]; omega
    ·simp
   have HIS := Lib.hid (show is = false → T = [] from fun h => by rw [hT]; unfold cutT; rw [← his, h]; rfl)
   have HGI := Lib.hid (show ¬ K = 2 → RefI l l2 K q i1 bd' (F ++ x) L lr' from fun h => by rw [hi1, hlr']; exact hG.out.id HRM.out h hik hbd' (by rw [hx]))
   have HGN := Lib.hid (show K = 2 → (getC T = none ∨ ∃ c r, getC T = some (c, r) ∧ ¬ r.length = 0) → getM l = none from fun h1 h2 => hG.out.none HRM.out h1 hik (by omega) (by
    rw [← hlr', ← hT]
    rcases h2 with h2 | h2
    ·exact .inl h2
    ·exact .inr (.inl h2)))
   have HGC := Lib.hid (show K = 2 → ∀ c r, getC T = some (c, r) → RefI l l2 K q i1 bd' F (L ++ [c]) R from fun h1 c r h2 => by
    rw [hi1, hRR, hlr']
    exact hG.out.cm HRM.out h1 hik (by omega) hbd' (by rw [← hlr', ← hT]; exact h2))
   have HCT := Lib.hid (fun a n c w' (h : Rd w' a n c lr') (hn : n ≤ 1500) => cut_ref a n c lr' 100000 w' h (by omega) (by decide) (by decide))
   unfold CutP at HCT
   rw [← hT, ← hRR, ← his] at HCT
   rw [← hx, ← hbd', ← hlr'] at HID
   unfold arr at HID
   have HX32 := Lib.hid hx32
   have HI1 := Lib.hid hi1
   have HIB := Lib.hid (show i ≤ 16 ∧ i < q ∧ ni + nc = i ∧ lr'.length ≤ 1500 ∧ T.length ≤ 1500 ∧ R.length ≤ 1500 from ⟨h16, hik, hsum, hlrl, hTl, hRl⟩)
   clear hi1 hx hx32 hbd' hlr' hT hRR his hlr0 hlrl hTl hRl
   go_wp2_with fail
   refine (HID.out _ hR.out).mono ?_
   rintro e w6 ⟨rfl, hr, hp⟩
   have HR6 := Lib.hid hr
   have HC6 := Lib.hid (show Cel w6 b5 25 [.int .i64 K, .slice av ni cv, .slice ac nc cc] from hp.heap hC.out (by have := HX.out; omega))
   have HO6 := Lib.hid (ownsRow_id_past hO.out hp (by have := HX.out; omega))
   have HM6 := Lib.hid (hM.out.pastn hp (by have := HX.out; omega))
   have HZ6 := Lib.hid (show Cel w6 bm 25 zeroM from hp.heap hZ.out (by have := HX.out; omega))
   have HB6 := Lib.hid (hp.below hB.out (by have := HX.out; omega))
   clear hr hp hC hO hM hR hZ hB hG HID r1 p0 p1 p2 hbrc hw hs1 hki hik h16 hiq0 hi17 hsum
   rename_i K9 hK9
   refine hK9 _ _ ?_
   clear hK9 K9
   refine wpList_new_store rfl rfl 48 8 (.tmp 49) rfl rfl rfl rfl (Bs zero32) (Bs x) (by kernel_rfl) (by simp) rfl (by rw [Bs_length, Bs_length, zero32_length, HX32.out]) (info_x HX32.out) (Bs_one x) ?_
   intro w7 hd hb2
   obtain ⟨b8, hb8⟩ : ∃ b, b = w6.heap.size := ⟨_, rfl⟩
   rw [← hb8] at hd ⊢
   have HD7 := Lib.hid hd
   have HR7 := Lib.hid (HR6.out.below hb2)
   have HC7 := Lib.hid (HC6.out.step hb2)
   have HO7 := Lib.hid (ownsRow_id_low HO6.out fun k hk => hb2.block k (HO6.out.lt k hk).2)
   have HM7 := Lib.hid (HM6.out.below hb2)
   have HZ7 := Lib.hid (HZ6.out.step hb2)
   have HB7 := Lib.hid (HB6.out.step hb2)
   clear hd hb2 hb8 HR6 HC6 HO6 HM6 HZ6 HB6
   have p0 : w7.cell? ⟨b5, 0, none⟩ = some (.int .i64 K) := HC7.out.at 0 _ rfl
   by_cases hK2 : K = 2
   case neg =>
    have hk1 : (K != 2) = true := by simpa using hK2
    have hk2 : decide (K = 2) = false := decide_eq_false hK2
    obtain ⟨e1, e2, e3, e4, e5, e6⟩ := hK.out.2 hK2
    subst e1 e2 e3 e4 e5
    have HNI := Lib.hid e6
    have HG15 := Lib.hid (HGI.out hK2)
    have HK2 := Lib.hid hK2
    clear e6 HGI HGN HGC HCT HIS HM7
    obtain ⟨n1, hn1⟩ : ∃ n1, n1 = ni + 1 := ⟨_, rfl⟩
    have HN1 := Lib.hid hn1
    clear hn1 hK2
    have hb23 : Below w7.heap.size w7 (w7.alloc (.cells (Bs x).toArray 48)) := (Below.refl _ _).alloc (Nat.le_refl _) _
    have hO13 := ownsRow_id_low HO7.out fun k hk => hb23.block k (HO7.out.lt k hk).2
    obtain ⟨v6, w14, hrun, hown, hg⟩ := app_id hO13 (Cel.new w7 48 (Bs x)) HX32.out (by have := HIB.out; omega) (by rw [size_alloc']; have := HC7.out.lt; omega)
    rw [← Bs_app, ← HN1.out] at hown
    have hlow : ∀ k, (Value.slice av ni cv).ownBlock = some k → b5 + 1 ≤ k := fun k hk => (hO13.lt k hk).1
    obtain ⟨a6, c6, rfl, hown6⟩ : ∃ a c, v6 = .slice a n1 c ∧ w14.ownsRow (b5 + 1) 48 32 (.slice a n1 c) n1 (Bs (F ++ x)) := by
     rcases hown.2 with ⟨e1, e2⟩ | ⟨g, cap, cur, e1, _⟩
     ·have := HN1.out; omega
     ·exact ⟨_, _, e1, e1 ▸ hown⟩
    have hc14 : Cel w14 b5 25 [.int .i64 K, .slice av ni cv, .slice none 0 0] := (HC7.out.step hb23).grown hg (fun k hk => hlow k hk)
    have p1 : w7.cell? ⟨b5, 1, none⟩ = some (.slice av ni cv) := HC7.out.at 1 _ rfl
    have p14 : w14.cell? ⟨b5, 1, none⟩ = some (.slice av ni cv) := hc14.at 1 _ rfl
    have f14 : w14.frozen? ⟨b5, 1, none⟩ = false := hc14.free 1
    have HRUN := Lib.hid hrun
    obtain ⟨i0, hi0z, hz0, hz1, _⟩ := info_parts info_idz
    have HC15 := Lib.hid (hc14.set 1 (.slice a6 n1 c6))
    have hO15 := only_set w14 b5 1 (.slice a6 n1 c6)
    have HO15 := Lib.hid (ownsRow_id_low hown6 fun k hk => hO15.block k (by have := (hown6.lt k hk).1; omega))
    have HZ15 := Lib.hid (show Cel (w14.setCell ⟨b5, 1, none⟩ (.slice a6 n1 c6)) bm 25 zeroM from hO15.heap ((HZ7.out.step hb23).grown hg (fun k hk => by have := hlow k hk; have := HX.out; omega)) (by have := HX.out; omega))
    have HB15 := Lib.hid (hO15.below (((PastN.of_below (b := br) (HB7.out.step hb23)).grown hg (fun k hk => by have := hlow k hk; have := HX.out; omega)).below (Below.refl _ _) (by have := HX.out; omega)) (by have := HX.out; omega))
    have hr14 : RdR (fun k => k < bm) w14 br 70 [.bool bd'] lr' := (HR7.out.below hb23).grown2 hg (fun k hk => by have := hlow k hk; have := HX.out; omega) (fun j hj _ => ⟨hj.2.2.2 HK2.out, fun k hk => by have h1 := hj.2.2.2 HK2.out; have := hlow k hk; have := HX.out; omega⟩)
    have HR15 := Lib.hid ((hr14.only hO15 (by have := HX.out; omega) (fun k hk => by have := HX.out; omega)).imp (ok' := (fun k => k ≠ bm ∧ k ≠ b5 ∧ (∀ g, (Value.slice none 0 0).ownBlock = some g → k ≠ g) ∧ (¬ K = 2 → k < bm))) (fun k h => ⟨by omega, by have := HX.out; omega, fun g hg => (by cases hg), fun _ => h⟩))
    clear hO13 hown hown6 hrun hlow hg hc14 hb23 hO15 hr14
    go_wp2_with (first
     | (refine wpList_load_mid rfl 48 (.tmp 8) rfl b8 0 (by rfl) (Bs x) _ HD7.out.range under_ids rfl (info_x HX32.out) ?_)
     | (refine wpList_one_slice rfl 22 48 (.tmp 55) rfl (Bs x) (by rfl) i0 _ Tryz.underlying22 hi0z hz0 (by rw [hz1, Bs_length, HX32.out]) (by rw [Bs_length, HX32.out]; decide) (by rw [Bs_length, HX32.out]; decide) ?_)
     | (at_builtin; refine Lib.wpList_append_run _ rfl _ _ _ _ rfl _ _ rfl rfl _ _ HRUN.out ?_))
    have hi1' := HI1.out
    have hib := HIB.out
    have hwu : IntKind.u64.wrap ((i : Int) + 1) = ((i1 : Nat) : Int) := by rw [wrap_u64]; omega
    refine ⟨⟨i1, n1, 0, a6, c6, none, 0, bd', F ++ x, [], [], lr', ⟨by omega, by omega, by have := HN1.out; omega⟩, by rw [hwu], Lib.hid ⟨by rw [List.length_append, HX32.out, hI.out.1, HN1.out]; omega, hib.2.2.2.1⟩, Lib.hid ⟨fun h => absurd h HK2.out, fun _ => ⟨rfl, rfl, rfl, rfl, rfl, by have := HN1.out; have := HNI.out; omega⟩⟩, HC15, HO15, Lib.hid (CmsO.nil _ _), HR15, HZ15, HB15, HG15⟩, ?_⟩
    simp [intOf, hwu]; omega
   case pos =>
    subst hK2
    obtain ⟨e1, e2, e3, e4, e5⟩ := hK.out.1 rfl
    subst e1 e2 e3 e4
    have HNI := Lib.hid e5
    clear e5 HGI HO7 HD7
    replace HGN := Lib.hid (HGN.out rfl)
    replace HGC := Lib.hid (HGC.out rfl)
    obtain ⟨a1, c1, k1, k2, k3, k4⟩ := HR7.out
    obtain ⟨nr, hnr⟩ : ∃ n, n = lr'.length := ⟨_, rfl⟩
    rw [← hnr] at k1 k2
    have HBR7 := Lib.hid k1
    have HCUT := Lib.hid (HCT.out a1 nr c1 w7 k2 (by have := HIB.out; omega))
    have HBRL := Lib.hid (show br < w7.heap.size ∧ b5 < w7.heap.size from ⟨HBR7.out.lt, HC7.out.lt⟩)
    have HRW := Lib.hid (show ∀ g, (Value.slice ac nc cc).ownBlock = some g → g < w7.heap.size ∧ b5 + 1 ≤ g from fun g hg => ⟨(HM7.out.row.lt g hg).2, (HM7.out.row.lt g hg).1⟩)
    have r0 : w7.cell? ⟨br, 0, none⟩ = some (.slice a1 nr c1) := k1.at 0 _ rfl
    clear k1 k2 k3 k4 hnr HCT HR7
    go_wp2_with fail
    refine HCUT.out.mono ?_
    rintro e w8 ⟨vr, rfl, hor, hb⟩
    have hlo := fun k hk => (hor.lt k hk).1
    obtain ⟨ar, cr, rfl, hrr⟩ := Rd.of_own hor
    have hzr := own_none hor
    obtain ⟨nR, hnR⟩ : ∃ n, n = R.length := ⟨_, rfl⟩
    rw [← hnR] at hrr ⊢
    have HNR := Lib.hid hnR
    have HRR8 := Lib.hid (And.intro hrr (And.intro hzr (show ∀ y, ar = some y → w7.heap.size ≤ y.block from fun y hy => hlo y.block (by rw [hy]; rfl))))
    have HS8 := Lib.hid (show w7.heap.size ≤ w8.heap.size from hb.size)
    have HBR8 := Lib.hid (HBR7.out.step hb)
    have HC8 := Lib.hid (HC7.out.step hb)
    have HM8 := Lib.hid (HM7.out.below hb)
    have HZ8 := Lib.hid (HZ7.out.step hb)
    have HB8 := Lib.hid (HB7.out.step hb)
    clear hlo hor hrr hzr hb hnR r0 p0 HBR7 HC7 HM7 HZ7 HB7 HCUT
    have hcv := Lib.run_convert_string_bytes (P := Tryz.prog) w8 9 28 5 ⟨T.toArray⟩ Tryz.underlying9 Tryz.underlying28 Tryz.underlying5
    have hr4 := Rd.of_textM w8 5 T (by have := HIB.out; omega)
    have hb4 : Below w8.heap.size w8 (Lib.bytesWorld w8 5 ⟨T.toArray⟩) := Lib.bytesWorld_below w8 5 ⟨T.toArray⟩
    generalize Lib.bytesWorld w8 5 ⟨T.toArray⟩ = w9 at *
    generalize grownCap w8 (ByteArray.mk T.toArray).size 0 5 = cap4 at *
    have hsz : (ByteArray.mk T.toArray).size = T.length := List.size_toArray
    rw [hsz] at hcv
    obtain ⟨nt, hnt⟩ : ∃ n, n = T.length := ⟨_, rfl⟩
    rw [← hnt] at hcv hr4
    obtain ⟨b4, hb4e⟩ : ∃ b, b = w8.heap.size := ⟨_, rfl⟩
    rw [← hb4e] at hcv hr4
    obtain ⟨sT, hsT⟩ : ∃ s : ByteArray, s = ⟨T.toArray⟩ := ⟨_, rfl⟩
    rw [← hsT] at hcv ⊢
    have HGET := Lib.hid (cget_ref_fresh (some ⟨b4, 0, none⟩) nt cap4 T w9 hr4 (fun h => by cases h) (by have := HIB.out; omega))
    unfold CGetF at HGET
    have HBR9 := Lib.hid (HBR8.out.step hb4)
    have HC9 := Lib.hid (HC8.out.step hb4)
    have HM9 := Lib.hid (HM8.out.below hb4)
    have HZ9 := Lib.hid (HZ8.out.step hb4)
    have HB9 := Lib.hid (HB8.out.step hb4)
    have HRR9 := Lib.hid (And.intro (HRR8.out.1.below hb4) HRR8.out.2)
    have HS9 := Lib.hid (show w7.heap.size ≤ w9.heap.size from Nat.le_trans HS8.out hb4.size)
    clear hr4 hb4 hsz hnt hb4e hsT HBR8 HC8 HM8 HZ8 HB8 HRR8 HS8
    cases hg : getC T with
    | none =>
     have HNOC := Lib.hid (HGN.out (.inl hg))
     simp only [hg] at HGET
     clear hg HGN HGC HIS
     go_wp2_with fail
     refine HGET.out.mono ?_
     rintro e w10 ⟨rfl, hb⟩
     have HZ10 := Lib.hid (HZ9.out.step hb)
     have HB10 := Lib.hid (HB9.out.step hb)
     clear hb hcv
     unfold zeroC
     go_upto_region 12 with fail
     generalize hw11 : w10.alloc (.cells _ _) = w11
     have hb11 : Below w10.heap.size w10 w11 := by rw [← hw11]; exact (Below.refl _ _).alloc (Nat.le_refl _) _
     have HZ11 := Lib.hid (HZ10.out.step hb11)
     have HB11 := Lib.hid (HB10.out.step hb11)
     clear hw11 hb11
     cases is with
     | false =>
      have z0 : w11.cell? ⟨bm, 0, none⟩ = some (.int .i64 0) := HZ11.out.at 0 _ rfl
      have z1 : w11.cell? ⟨bm, 1, none⟩ = some (.slice none 0 0) := HZ11.out.at 1 _ rfl
      have z2 : w11.cell? ⟨bm, 2, none⟩ = some (.slice none 0 0) := HZ11.out.at 2 _ rfl
      have fz0 : w11.frozen? ⟨bm, 0, none⟩ = false := HZ11.out.free 0
      have fz1 : w11.frozen? ⟨bm, 1, none⟩ = false := HZ11.out.free 1
      have fz2 : w11.frozen? ⟨bm, 2, none⟩ = false := HZ11.out.free 2
      go_wp2_with fail
      generalize hwF : World.setCell (World.setCell (World.setCell w11 _ _) _ _) _ _ = wF
      have hOF : Only w11 wF bm := by rw [← hwF]; exact ((only_set _ _ _ _).trans (only_set _ _ _ _)).trans (only_set _ _ _ _)
      have HCF := Lib.hid (show Cel wF bm 25 zeroM by rw [← hwF]; exact ((HZ11.out.set 0 _).set 1 _).set 2 _)
      have HBF := Lib.hid (hOF.below HB11.out (by have := HX.out; omega))
      clear hwF hOF
      refine bodyPost_ret (v := .tuple #[.agg zeroM.toArray, .int .i64 2]) ?_ rfl (by show MGetP l w _ _; unfold MGetP; rw [HNOC.out]; exact ⟨rfl, HBF.out⟩)
      have hl := run_loadVar_mid (P := Tryz.prog) wF bm 0 25 zeroM _ HCF.out.range Tryz.underlying25 rfl (by kernel_rfl)
      simp [results, Tryz.results14, asAddr, hl, Result.andThen]
     | true =>
      have z0 : w11.cell? ⟨bm, 0, none⟩ = some (.int .i64 0) := HZ11.out.at 0 _ rfl
      have z1 : w11.cell? ⟨bm, 1, none⟩ = some (.slice none 0 0) := HZ11.out.at 1 _ rfl
      have z2 : w11.cell? ⟨bm, 2, none⟩ = some (.slice none 0 0) := HZ11.out.at 2 _ rfl
      have fz0 : w11.frozen? ⟨bm, 0, none⟩ = false := HZ11.out.free 0
      have fz1 : w11.frozen? ⟨bm, 1, none⟩ = false := HZ11.out.free 1
      have fz2 : w11.frozen? ⟨bm, 2, none⟩ = false := HZ11.out.free 2
      go_wp2_with fail
      generalize hwF : World.setCell (World.setCell (World.setCell w11 _ _) _ _) _ _ = wF
      have hOF : Only w11 wF bm := by rw [← hwF]; exact ((only_set _ _ _ _).trans (only_set _ _ _ _)).trans (only_set _ _ _ _)
      have HCF := Lib.hid (show Cel wF bm 25 zeroM by rw [← hwF]; exact ((HZ11.out.set 0 _).set 1 _).set 2 _)
      have HBF := Lib.hid (hOF.below HB11.out (by have := HX.out; omega))
      clear hwF hOF
      refine bodyPost_ret (v := .tuple #[.agg zeroM.toArray, .int .i64 2]) ?_ rfl (by show MGetP l w _ _; unfold MGetP; rw [HNOC.out]; exact ⟨rfl, HBF.out⟩)
      have hl := run_loadVar_mid (P := Tryz.prog) wF bm 0 25 zeroM _ HCF.out.range Tryz.underlying25 rfl (by kernel_rfl)
      simp [results, Tryz.results14, asAddr, hl, Result.andThen]
    | some qq =>
    obtain ⟨cm, r2⟩ := qq
    obtain rfl : is = true := by
     cases is with
     | true => rfl
     | false => rw [HIS.out rfl, getC_empty] at hg; cases hg
    have HGO := Lib.hid (HGC.out cm r2 hg)
    have HGE := Lib.hid (show ¬ r2.length = 0 → getM l = none from fun h => HGN.out (.inr ⟨cm, r2, hg, h⟩))
    simp only [hg] at HGET
    obtain ⟨n2, hn2⟩ : ∃ n, n = r2.length := ⟨_, rfl⟩
    rw [← hn2] at HGET HGE
    clear hn2 hg HGN HGC HIS
    unfold Cmt.val Cmt.cs at HGET
    obtain ⟨n, hn⟩ : ∃ x, x = cm.par.length := ⟨_, rfl⟩
    obtain ⟨node, hnode⟩ : ∃ x, x = cm.node := ⟨_, rfl⟩
    obtain ⟨seq, hseq⟩ : ∃ x, x = cm.seq := ⟨_, rfl⟩
    obtain ⟨gen, hgen⟩ : ∃ x, x = cm.gen := ⟨_, rfl⟩
    obtain ⟨kind, hkind⟩ : ∃ x, x = cm.op.kind := ⟨_, rfl⟩
    obtain ⟨num, hnum⟩ : ∃ x, x = cm.op.num := ⟨_, rfl⟩
    obtain ⟨s1, hs1⟩ : ∃ s : ByteArray, s = ⟨cm.op.key.toArray⟩ := ⟨_, rfl⟩
    obtain ⟨s2, hs2⟩ : ∃ s : ByteArray, s = ⟨cm.op.elem.toArray⟩ := ⟨_, rfl⟩
    try rw [← hn] at HGET
    try rw [← hnode] at HGET
    try rw [← hseq] at HGET
    try rw [← hgen] at HGET
    try rw [← hkind] at HGET
    try rw [← hnum] at HGET
    try rw [← hs1] at HGET
    try rw [← hs2] at HGET
    have HVAL2 := Lib.hid (show ∀ pa pc, cm.cs pa pc = [.int .i64 node, .int .i64 seq, .int .i64 gen, .slice pa n pc, .int .i64 kind, .string s1, .string s2, .int .i64 num] from fun pa pc => by unfold Cmt.cs; rw [hn, hnode, hseq, hgen, hkind, hnum, hs1, hs2])
    clear hn hnode hseq hgen hkind hnum hs1 hs2
    go_wp2_with fail
    refine HGET.out.mono ?_
    rintro e w10 ⟨pa, pc, a2, c2, rfl, hcm, hrd2, hz2, hb, hfr⟩
    have HF10 := Lib.hid hcm
    have HFR := Lib.hid hfr
    have HBR10 := Lib.hid (HBR9.out.step hb)
    have HC10 := Lib.hid (HC9.out.step hb)
    have HM10 := Lib.hid (HM9.out.below hb)
    have HZ10 := Lib.hid (HZ9.out.step hb)
    have HB10 := Lib.hid (HB9.out.step hb)
    have HRR10 := Lib.hid (And.intro (HRR9.out.1.below hb) HRR9.out.2)
    have HS10 := Lib.hid (show w9.heap.size ≤ w10.heap.size from hb.size)
    clear hcm hrd2 hz2 hb hfr hcv HGET HBR9 HC9 HM9 HZ9 HB9 HRR9
    go_upto_region 12 with fail
    generalize hw11 : w10.alloc (.cells _ _) = w11
    have hb11 : Below w10.heap.size w10 w11 := by rw [← hw11]; exact (Below.refl _ _).alloc (Nat.le_refl _) _
    obtain ⟨b6, hb6e⟩ : ∃ b, b = w10.heap.size := ⟨_, rfl⟩
    have HK11 := Lib.hid (show Cel w11 b6 41 [.int .i64 node, .int .i64 seq, .int .i64 gen, .slice pa n pc, .int .i64 kind, .string s1, .string s2, .int .i64 num] by rw [← hw11, hb6e]; exact Cel.new w10 _ _)
    rw [← hb6e]
    have HB6 := Lib.hid (show w9.heap.size ≤ b6 from by have := HS10.out; omega)
    have HF11 := Lib.hid (HF10.out.below hb11)
    have HBR11 := Lib.hid (HBR10.out.step hb11)
    have HC11 := Lib.hid (HC10.out.step hb11)
    have HM11 := Lib.hid (HM10.out.below hb11)
    have HZ11 := Lib.hid (HZ10.out.step hb11)
    have HB11 := Lib.hid (HB10.out.step hb11)
    have HRR11 := Lib.hid (And.intro (HRR10.out.1.below hb11) HRR10.out.2)
    clear hw11 hb11 hb6e HF10 HBR10 HC10 HM10 HZ10 HB10 HRR10
    by_cases hn20 : n2 = 0
    case neg =>
     have hn2b : (0 : Int) < (n2 : Int) := by omega
     have HNOC := Lib.hid (HGE.out hn20)
     have z0 : w11.cell? ⟨bm, 0, none⟩ = some (.int .i64 0) := HZ11.out.at 0 _ rfl
     have z1 : w11.cell? ⟨bm, 1, none⟩ = some (.slice none 0 0) := HZ11.out.at 1 _ rfl
     have z2 : w11.cell? ⟨bm, 2, none⟩ = some (.slice none 0 0) := HZ11.out.at 2 _ rfl
     have fz0 : w11.frozen? ⟨bm, 0, none⟩ = false := HZ11.out.free 0
     have fz1 : w11.frozen? ⟨bm, 1, none⟩ = false := HZ11.out.free 1
     have fz2 : w11.frozen? ⟨bm, 2, none⟩ = false := HZ11.out.free 2
     go_wp2_with fail
     generalize hwF : World.setCell (World.setCell (World.setCell w11 _ _) _ _) _ _ = wF
     have hOF : Only w11 wF bm := by rw [← hwF]; exact ((only_set _ _ _ _).trans (only_set _ _ _ _)).trans (only_set _ _ _ _)
     have HCF := Lib.hid (show Cel wF bm 25 zeroM by rw [← hwF]; exact ((HZ11.out.set 0 _).set 1 _).set 2 _)
     have HBF := Lib.hid (hOF.below HB11.out (by have := HX.out; omega))
     clear hwF hOF
     refine bodyPost_ret (v := .tuple #[.agg zeroM.toArray, .int .i64 2]) ?_ rfl (by show MGetP l w _ _; unfold MGetP; rw [HNOC.out]; exact ⟨rfl, HBF.out⟩)
     have hl := run_loadVar_mid (P := Tryz.prog) wF bm 0 25 zeroM _ HCF.out.range Tryz.underlying25 rfl (by kernel_rfl)
     simp [results, Tryz.results14, asAddr, hl, Result.andThen]
    subst hn20
    have q0 : w11.cell? ⟨br, 0, none⟩ = some (.slice a1 nr c1) := HBR11.out.at 0 _ rfl
    have g0 : w11.frozen? ⟨br, 0, none⟩ = false := HBR11.out.free 0
    go_upto_region 15 with fail
    clear q0 g0
    generalize hw12 : World.setCell w11 _ _ = w12
    have ho12 : Only w11 w12 br := by rw [← hw12]; exact only_set _ _ _ _
    have hp12 : PastN w11 w12 br := PastN.of_only ho12
    have hbr12 : Cel w12 br 70 [.slice ar nR cr, .bool bd'] := by rw [← hw12]; exact HBR11.out.set 0 _
    have hc12 : Cel w12 b5 25 [.int .i64 2, .slice none 0 0, .slice ac nc cc] := ho12.heap HC11.out (by have := HX.out; omega)
    have hk12 : Cel w12 b6 41 [.int .i64 node, .int .i64 seq, .int .i64 gen, .slice pa n pc, .int .i64 kind, .string s1, .string s2, .int .i64 num] := ho12.heap HK11.out (by have h1 := HBRL.out; have h2 := HB6.out; have h3 := HS9.out; omega)
    have hz12 : Cel w12 bm 25 zeroM := ho12.heap HZ11.out (by have := HX.out; omega)
    have hb12 := ho12.below HB11.out (by have := HX.out; omega)
    have hm12 := HM11.out.pastn hp12 (by have := HX.out; omega)
    have hf12 : CmR w12 cm pa pc := CmR.moved HF11.out ho12 (fun y hy => by have h1 := HFR.out y hy; have h2 := HBRL.out; have h3 := HS9.out; omega)
    have hr12 : Rd w12 ar nR cr R := HRR11.out.1.only' ho12 (fun y hy _ => by have h1 := HRR11.out.2.2 y hy; have h2 := HBRL.out; omega)
    clear hw12 ho12 hp12
    have hb23 : Below w12.heap.size w12 (w12.alloc (.cells [.int .i64 node, .int .i64 seq, .int .i64 gen, .slice pa n pc, .int .i64 kind, .string s1, .string s2, .int .i64 num].toArray 41)) := (Below.refl _ _).alloc (Nat.le_refl _) _
    have hs12 : w9.heap.size ≤ w12.heap.size ∧ b5 + 1 ≤ w12.heap.size := ⟨by have h1 := hk12.lt; have h2 := HB6.out; omega, by have := hc12.lt; omega⟩
    have hcn : Cel (w12.alloc (.cells [.int .i64 node, .int .i64 seq, .int .i64 gen, .slice pa n pc, .int .i64 kind, .string s1, .string s2, .int .i64 num].toArray 41)) w12.heap.size 41 (cm.cs pa pc) := by rw [HVAL2.out]; exact Cel.new w12 _ _
    obtain ⟨an, cn, w14, hrun, hown, hgr, hkk⟩ := app_cm (hm12.below hb23) hcn (hf12.below hb23) (fun _ y hy => ⟨by have h1 := HFR.out y hy; have h2 := HS9.out; have h3 := HBRL.out; omega, fun k hk => by have h1 := HFR.out y hy; have h2 := HRW.out k hk; have h3 := HS9.out; omega⟩) (by have := HIB.out; omega) (by rw [size_alloc']; omega)
    obtain ⟨n1, hn1⟩ : ∃ n1, n1 = nc + 1 := ⟨_, rfl⟩
    rw [← hn1] at hrun hown hkk
    have HN1 := Lib.hid hn1
    have hrow : ∀ k, (Value.slice ac nc cc).ownBlock = some k → b5 + 1 ≤ k ∧ k < w7.heap.size := fun k hk => ⟨(HRW.out k hk).2, (HRW.out k hk).1⟩
    have hc14 : Cel w14 b5 25 [.int .i64 2, .slice none 0 0, .slice ac nc cc] := (hc12.step hb23).grownb hgr (fun k hk => by have := hrow k hk; omega)
    have p2 : w12.cell? ⟨b5, 2, none⟩ = some (.slice ac nc cc) := hc12.at 2 _ rfl
    have p14 : w14.cell? ⟨b5, 2, none⟩ = some (.slice ac nc cc) := hc14.at 2 _ rfl
    have f14 : w14.frozen? ⟨b5, 2, none⟩ = false := hc14.free 2
    have c0 : w12.cell? ⟨b6, 0, none⟩ = some (.int .i64 node) := hk12.at 0 _ rfl
    have c1 : w12.cell? ⟨b6, 1, none⟩ = some (.int .i64 seq) := hk12.at 1 _ rfl
    have c2 : w12.cell? ⟨b6, 2, none⟩ = some (.int .i64 gen) := hk12.at 2 _ rfl
    have c3 : w12.cell? ⟨b6, 3, none⟩ = some (.slice pa n pc) := hk12.at 3 _ rfl
    have c4 : w12.cell? ⟨b6, 4, none⟩ = some (.int .i64 kind) := hk12.at 4 _ rfl
    have c5 : w12.cell? ⟨b6, 5, none⟩ = some (.string s1) := hk12.at 5 _ rfl
    have c6 : w12.cell? ⟨b6, 6, none⟩ = some (.string s2) := hk12.at 6 _ rfl
    have c7 : w12.cell? ⟨b6, 7, none⟩ = some (.int .i64 num) := hk12.at 7 _ rfl
    have HRUN := Lib.hid hrun
    obtain ⟨i0, hi0z, hz0, hz1, _⟩ := info_parts info_cmz
    have hO15 := only_set w14 b5 2 (.slice an n1 cn)
    have HC15 := Lib.hid (hc14.set 2 (.slice an n1 cn))
    have HM15 := Lib.hid (hown.pastn (PastN.of_only hO15) (Nat.lt_succ_self _))
    have HZ15 := Lib.hid (show Cel (w14.setCell ⟨b5, 2, none⟩ (.slice an n1 cn)) bm 25 zeroM from hO15.heap ((hz12.step hb23).grownb hgr (fun k hk => by have := hrow k hk; have := HX.out; omega)) (by have := HX.out; omega))
    have HB15 := Lib.hid (hO15.below (((PastN.of_below (b := br) (Below.step hb12 hb23)).grown hgr (fun k hk => by have := hrow k hk; have := HX.out; omega)).below (Below.refl _ _) (by have := HX.out; omega)) (by have := HX.out; omega))
    have HR15 := Lib.hid (show RdR (fun k => k ≠ bm ∧ k ≠ b5 ∧ (∀ g, (Value.slice an n1 cn).ownBlock = some g → k ≠ g) ∧ (¬ (2 : Int) = 2 → k < bm)) (w14.setCell ⟨b5, 2, none⟩ (.slice an n1 cn)) br 70 [.bool bd'] R from ⟨ar, cr, by
      rw [← HNR.out]
      exact hO15.heap ((hbr12.step hb23).grownb hgr (fun k hk => by have := hrow k hk; have := HX.out; omega)) (by have := HX.out; omega), by
      rw [← HNR.out]
      exact ((hr12.below hb23).grownb hgr (fun k hk y hy => by have h1 := hrow k hk; have h2 := HRR11.out.2.2 y hy; omega)).only' hO15 (fun y hy _ => by have h1 := HRR11.out.2.2 y hy; have h2 := HBRL.out; omega), HRR11.out.2.1, fun y hy hp => by
      have h1 := HRR11.out.2.2 y hy
      have h2 := HBRL.out
      have h3 := HX.out
      refine ⟨by omega, by omega, by omega, fun g hg e => ?_, fun h => absurd rfl h⟩
      rcases hkk g hg with h4 | h4
      ·have := hrow g h4; omega
      ·rw [size_alloc'] at h4
       have h5 := hr12.lt (by rw [HNR.out]; exact hp) y hy
       omega⟩)
    clear hbr12 hc12 hk12 hz12 hb12 hm12 hf12 hr12 hb23 hs12 hcn hrun hown hgr hkk hn1 hrow hc14 hO15
    go_wp2_with (first
     | (refine wpList_one_slice rfl 23 41 (.tmp 93) rfl [.int .i64 node, .int .i64 seq, .int .i64 gen, .slice pa n pc, .int .i64 kind, .string s1, .string s2, .int .i64 num] (by rfl) i0 _ Tryz.underlying23 hi0z hz0 (by rw [hz1]; rfl) (by decide) (by decide) ?_)
     | (at_builtin; refine Lib.wpList_append_run _ rfl _ _ _ _ rfl _ _ rfl rfl _ _ HRUN.out ?_))
    have hi1' := HI1.out
    have hib := HIB.out
    have hwu : IntKind.u64.wrap ((i : Int) + 1) = ((i1 : Nat) : Int) := by rw [wrap_u64]; omega
    refine ⟨⟨i1, 0, n1, none, 0, an, cn, bd', [], L ++ [cm], ps ++ [(pa, pc)], R, ⟨by omega, by omega, by have := HN1.out; omega⟩, by rw [hwu], Lib.hid ⟨rfl, hib.2.2.2.2.2⟩, Lib.hid ⟨fun _ => ⟨rfl, rfl, rfl, rfl, by have := HN1.out; have := HNI.out; omega⟩, fun h => by simp at h⟩, HC15, Lib.hid (World.ownsRow_nil _ _ _ _), HM15, Lib.hid (HR15.out.imp fun k h => ⟨h.1, h.2.1, h.2.2.1, fun h' => by simp at h'⟩), HZ15, HB15, HGO⟩, ?_⟩
    simp [intOf, hwu]; omega
end Go.Proofs.YtofadpodlaakbaaGreat
