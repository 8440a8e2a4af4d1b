/- The walk of the reader's read, of the layer msg. -/
import Derived.Test.YtofadpodlaakbaaGreatMsgCm
namespace Go.Proofs.YtofadpodlaakbaaGreat
open Go.ChangeShapes Go.WideShapes Go.ChangeAt Go.RowKit
set_option linter.unusedVariables false
set_option linter.unusedSimpArgs false
theorem cmsI_none {b : List UInt8} {i : Nat} (h : cmsI i b = none) : ∀ n, i ≤ n → cmsI n b = none
 | 0, hn => by
  have : i = 0 := by omega
  rw [← this]; exact h
 | n + 1, hn => by
  by_cases e : i = n + 1
  ·rw [← e]; exact h
  ·unfold cmsI
   rw [cmsI_none h n (by omega)]
def MReadP (w : World) (br : Nat) (b : List UInt8) (e : Ending) (w' : World) : Prop :=
 match getM b with
 | none => e = .panicked wrongM ∧ PastN w w' br
 | some m => e = .returned (.tuple #[]) ∧ ∃ z ai ci ac cc, Cel w' br 67 [z, .int .i64 m.kind, .slice ai m.ids.length ci, .slice ac m.cms.length cc] ∧ MsgR w' m ai ci ac cc ∧ PastN w w' br
set_option maxRecDepth 100000 in
set_option maxHeartbeats 16000000 in
theorem mread_any (br : Nat) (b : List UInt8) (w : World) (hr : RdR (fun k => k < w.heap.size) w br 67 [.int .i64 0, .slice none 0 0, .slice none 0 0] b) (hl : b.length ≤ 100000) : Calls Tryz.prog 42 #[.pointer (some ⟨br, 0, none⟩)] w (MReadP w br b) := by
 have hlt : br < w.heap.size := hr.br_lt
 have HR := Lib.hid hr
 have HLT := Lib.hid hlt
 have HT := Lib.hid (mnum_any (fun k => k < w.heap.size) br 2 [.int .i64 0, .slice none 0 0, .slice none 0 0] b w hr hl (by decide))
 have HNO := Lib.hid (show getM b = none → ∀ w', PastN w w' br → MReadP w br b (.panicked wrongM) w' from fun h w' hp' => by unfold MReadP; rw [h]; exact ⟨rfl, hp'⟩)
 have HG0 := Lib.hid (show getM b = (match getR b with | none => none | some (m, r) => if r.length = 0 ∧ mayM m = true then some m else none) from rfl)
 clear hr hlt
 unfold MNumP at HT
 go_enter Tryz.func42, Tryz.ntmps42
 cases ht1 : takeM 2 b with
 | none =>
  have HN1 := Lib.hid (HNO.out (by rw [HG0.out]; unfold getR; rw [ht1]))
  simp only [ht1] at HT
  clear ht1
  go_wp2_with fail
  refine HT.out.mono ?_
  rintro e w1 ⟨rfl, ho⟩
  have HP1 := Lib.hid (show PastN w w1 br from PastN.of_only ho)
  clear ho
  go_wp2_with fail
  exact ⟨rfl, HN1.out _ HP1.out⟩
 | some p1 =>
 obtain ⟨K, r1⟩ := p1
 obtain ⟨hr1l, hK2⟩ := takeM_len ht1
 simp only [ht1] at HT
 have HG1 := Lib.hid (show getR b = (match takeM 16 r1 with
  | none => none
  | some (n, r2) =>
   if K = 2 then
    match cmsI n r2 with
    | none => none
    | some (l, r) => some (⟨2, [], l⟩, r)
   else if 32 * n ≤ r2.length then some (⟨(K : Int), idsOf n r2, []⟩, r2.drop (32 * n)) else none) by unfold getR; rw [ht1]; rfl)
 clear ht1
 go_wp2_with fail
 refine HT.out.mono ?_
 rintro e w1 ⟨rfl, hr1, ho1⟩
 obtain ⟨d1, f1⟩ := RdR.at_vs hr1 0 (.int .i64 0) rfl
 have HR1 := Lib.hid hr1
 have HP1 := Lib.hid (show PastN w w1 br from PastN.of_only ho1)
 clear hr1 ho1 HT HR
 go_upto_region 2 with fail
 generalize hw2 : World.setCell w1 _ _ = w2
 have hr2 : RdR (fun k => k < w.heap.size) w2 br 67 [.int .i64 (K : Int), .slice none 0 0, .slice none 0 0] r1 := by rw [← hw2]; exact HR1.out.set_vs 0 _
 have HP2 := Lib.hid (show PastN w w2 br by rw [← hw2]; exact HP1.out.only (only_set _ _ _ _))
 have HR2 := Lib.hid hr2
 have HT2 := Lib.hid (mnum_any (fun k => k < w.heap.size) br 16 [.int .i64 (K : Int), .slice none 0 0, .slice none 0 0] r1 w2 hr2 (by omega) (by decide))
 unfold MNumP at HT2
 obtain ⟨d2, _⟩ := RdR.at_vs hr2 0 (.int .i64 (K : Int)) rfl
 clear hw2 hr2 d1 f1 HR1 HP1
 by_cases hK : K = 2
 ·subst hK
  have d2' : w2.cell? ⟨br, 1, none⟩ = some (.int .i64 2) := d2
  clear d2
  cases ht2 : takeM 16 r1 with
  | none =>
   have HN1 := Lib.hid (HNO.out (by rw [HG0.out, HG1.out, ht2]))
   simp only [ht2] at HT2
   clear ht2
   go_wp2_with fail
   refine HT2.out.mono ?_
   rintro e w3 ⟨rfl, ho⟩
   have HP3 := Lib.hid (HP2.out.only ho)
   clear ho
   go_wp2_with fail
   exact ⟨rfl, HN1.out _ HP3.out⟩
  | some p2 =>
  obtain ⟨n, r2⟩ := p2
  obtain ⟨hr2l, hn16⟩ := takeM_len ht2
  simp only [ht2] at HT2
  have HG2 := Lib.hid (show getM b = (match cmsI n r2 with
   | none => none
   | some (l, r) => if r.length = 0 ∧ mayM ⟨2, [], l⟩ = true then some ⟨2, [], l⟩ else none) by
   rw [HG0.out, HG1.out, ht2]
   simp only [if_true]
   cases cmsI n r2 with
   | none => rfl
   | some q => rfl)
  clear ht2 HG0 HG1
  go_wp2_with fail
  refine HT2.out.mono ?_
  rintro e w3 ⟨rfl, hr3, ho3⟩
  have HR3 := Lib.hid (show RdR (fun k => ∀ g, (Value.slice none 0 0).ownBlock = some g → k ≠ g) w3 br 67 [.int .i64 2, .slice none 0 0, .slice none 0 0] r2 from hr3.imp (fun _ _ g hg => by cases hg))
  have HP3 := Lib.hid (HP2.out.only ho3)
  have hr2b : r2.length ≤ 100000 := by omega
  clear hr3 ho3 HT2 HR2 HP2 d2'
  go_wp2_with fail
  go_loopw [17] (fun v17 wr => ∃ (i : Nat) (ac : Option Addr) (cc : Nat), i ≤ n ∧ v17 = .int .i64 (i : Int) ∧ Hid (∃ L rr ps, cmsI i r2 = some (L, rr) ∧ RdR (fun k => ∀ g, (Value.slice ac i cc).ownBlock = some g → k ≠ g) wr br 67 [.int .i64 2, .slice none 0 0, .slice ac i cc] rr ∧ CmsO wr w.heap.size ac i cc L ps) ∧ Hid (PastN w wr br)) (fun v17 _ => n - (intOf v17).toNat)
  case atStart => exact ⟨0, none, 0, Nat.zero_le _, rfl, Lib.hid ⟨[], r2, [], rfl, HR3.out, CmsO.nil _ _⟩, HP3⟩
  case round =>
   obtain ⟨i, ac, cc, hi, rfl, hS, hP⟩ := hrel
   obtain ⟨L, rr, ps, hci, hrr, hco⟩ := hS.out
   obtain ⟨hLl, hLa, hLr⟩ := cmsI_got i hci
   have hrrl : rr.length ≤ 100000 := by
    have := congrArg List.length hLr
    rw [List.length_append] at this
    omega
   by_cases hlt : i < n
   ·have hlt' : (i : Int) < (n : Int) := by omega
    have HC := Lib.hid (mcm_any w br (.int .i64 2) (.slice none 0 0) ac i cc L ps rr wr HLT.out hP.out hrr hco hrrl (by omega))
    unfold MCmP at HC
    have HNX := Lib.hid (show cmsI (i + 1) r2 = (match cutC rr with
     | none => none
     | some (c, r') => some (L ++ [c], r')) by
     show (match cmsI i r2 with
      | none => none
      | some (l, r) => match cutC r with
       | none => none
       | some (c, r') => some (l ++ [c], r')) = _
     rw [hci])
    clear hci hrr hco hLl hLa hLr hS
    cases hcu : cutC rr with
    | none =>
     have HN1 := Lib.hid (HNO.out (by rw [HG2.out, cmsI_none (i := i + 1) (by rw [HNX.out, hcu]) n hlt]))
     simp only [hcu] at HC
     clear hcu
     go_wp2_with fail
     refine HC.out.mono ?_
     rintro e w4 ⟨rfl, hp4⟩
     have HP4 := Lib.hid hp4
     clear hp4
     go_wp2_with fail
     exact ⟨rfl, HN1.out _ HP4.out⟩
    | some q =>
     obtain ⟨cm, r'⟩ := q
     have HNX2 := Lib.hid (show cmsI (i + 1) r2 = some (L ++ [cm], r') by rw [HNX.out, hcu])
     simp only [hcu] at HC
     clear hcu HNX
     go_wp2_with fail
     refine HC.out.mono ?_
     rintro e w4 ⟨rfl, a4, c4, ps4, hr4, ho4, hp4⟩
     have HS4 := Lib.hid (show ∃ L rr ps, cmsI (i + 1) r2 = some (L, rr) ∧ RdR (fun k => ∀ g, (Value.slice a4 (i + 1) c4).ownBlock = some g → k ≠ g) w4 br 67 [.int .i64 2, .slice none 0 0, .slice a4 (i + 1) c4] rr ∧ CmsO w4 w.heap.size a4 (i + 1) c4 L ps from ⟨_, _, _, HNX2.out, hr4, ho4⟩)
     have HP4 := Lib.hid hp4
     clear hr4 ho4 hp4
     go_wp2_with fail
     refine ⟨⟨i + 1, a4, c4, by omega, by go_num, HS4, HP4⟩, ?_⟩
     simp [intOf]; omega
   ·obtain rfl : n = i := by omega
    have hlt' : ¬ (n : Int) < (n : Int) := by omega
    obtain ⟨aq, cq, k1, k2, _, _⟩ := hrr
    obtain ⟨nq, hnq⟩ : ∃ q, q = rr.length := ⟨_, rfl⟩
    rw [← hnq] at k1 k2
    obtain ⟨mb, hmb⟩ : ∃ x, x = mayM ⟨2, [], L⟩ := ⟨_, rfl⟩
    have HGM := Lib.hid (show getM b = (if nq = 0 ∧ mayM ⟨2, [], L⟩ = true then some ⟨2, [], L⟩ else none) by rw [HG2.out, hci, hnq])
    have HMR := Lib.hid (show MsgR wr ⟨2, [], L⟩ none 0 ac cc from ⟨Ids.nil _, by show Cms wr ac L.length cc L; rw [hLl]; exact hco.cms⟩)
    have HMAY := Lib.hid (fun w' h => mmay_any ⟨2, [], L⟩ none 0 ac cc w' h)
    rw [← hmb] at HMAY
    unfold Msg.val Msg.cs at HMAY
    simp only [hLl, List.length_nil] at HMAY
    have HMB := Lib.hid hmb
    have HLEN := Lib.hid (show ([] : List (List UInt8)).length = 0 ∧ L.length = n from ⟨rfl, hLl⟩)
    have HQ := Lib.hid k1
    have HPW := hP
    clear hci hco hLl hLa hLr hS hrrl hnq hmb k1 k2 hP HG2
    by_cases hq0 : nq = 0
    case neg =>
     have hqb : ((nq : Int) == 0) = false := by simp; omega
     have HN1 := Lib.hid (HNO.out (by rw [HGM.out, if_neg (fun h => hq0 h.1)]))
     have p0 : wr.cell? ⟨br, 0, none⟩ = some (.slice aq nq cq) := HQ.out.at 0 _ rfl
     go_wp2_with fail
     refine (munless_no _).mono ?_
     rintro e w' ⟨rfl, rfl⟩
     go_wp2_with fail
     exact ⟨rfl, HN1.out _ HPW.out⟩
    subst hq0
    have p0 : wr.cell? ⟨br, 0, none⟩ = some (.slice aq 0 cq) := HQ.out.at 0 _ rfl
    have p1 : wr.cell? ⟨br, 1, none⟩ = some (.int .i64 2) := HQ.out.at 1 _ rfl
    have p2 : wr.cell? ⟨br, 2, none⟩ = some (.slice none 0 0) := HQ.out.at 2 _ rfl
    have p3 : wr.cell? ⟨br, 3, none⟩ = some (.slice ac n cc) := HQ.out.at 3 _ rfl
    go_wp2_with fail
    refine (HMAY.out _ HMR.out).mono ?_
    rintro e wM ⟨rfl, hb⟩
    have HQM := Lib.hid (HQ.out.step hb)
    have HPM := Lib.hid (HPW.out.step hb)
    have HMM := Lib.hid (HMR.out.below hb)
    clear hb p0 p1 p2 p3
    cases mb with
    | false =>
     have HN1 := Lib.hid (HNO.out (by rw [HGM.out, if_neg (fun h => by rw [← HMB.out] at h; exact absurd h.2 (by decide))]))
     go_wp2_with fail
     refine (munless_no _).mono ?_
     rintro e w' ⟨rfl, rfl⟩
     go_wp2_with fail
     exact ⟨rfl, HN1.out _ HPM.out⟩
    | true =>
     have HY := Lib.hid (show getM b = some (⟨2, [], L⟩) by rw [HGM.out, if_pos (by have h := HMB.out.symm; simp [h])])
     go_wp2_with fail
     refine (munless_yes _).mono ?_
     rintro e w' ⟨rfl, rfl⟩
     go_wp2_with fail
     go_end0
     show MReadP w br b _ _
     unfold MReadP
     rw [HY.out]
     exact ⟨rfl, _, _, _, _, _, by simpa only [HLEN.out.1, HLEN.out.2] using HQM.out, HMM.out, HPM.out⟩
 ·have hKb : ((K : Int) == 2) = false := by simp; omega
  have d2' : w2.cell? ⟨br, 1, none⟩ = some (.int .i64 (K : Int)) := d2
  clear d2
  cases ht2 : takeM 16 r1 with
  | none =>
   have HN1 := Lib.hid (HNO.out (by rw [HG0.out, HG1.out, ht2]))
   simp only [ht2] at HT2
   clear ht2
   go_wp2_with fail
   refine HT2.out.mono ?_
   rintro e w3 ⟨rfl, ho⟩
   have HP3 := Lib.hid (HP2.out.only ho)
   clear ho
   go_wp2_with fail
   exact ⟨rfl, HN1.out _ HP3.out⟩
  | some p2 =>
  obtain ⟨n, r2⟩ := p2
  obtain ⟨hr2l, hn16⟩ := takeM_len ht2
  simp only [ht2] at HT2
  have HG2 := Lib.hid (show getM b = (if 32 * n ≤ r2.length then (if (r2.drop (32 * n)).length = 0 ∧ mayM ⟨(K : Int), idsOf n r2, []⟩ = true then some ⟨(K : Int), idsOf n r2, []⟩ else none) else none) by
   rw [HG0.out, HG1.out, ht2]
   simp only [if_neg hK]
   by_cases h : 32 * n ≤ r2.length
   ·rw [if_pos h, if_pos h]
   ·rw [if_neg h, if_neg h])
  clear ht2 HG0 HG1 hK
  go_wp2_with fail
  refine HT2.out.mono ?_
  rintro e w3 ⟨rfl, hr3, ho3⟩
  have HR3 := Lib.hid hr3
  have HP3 := Lib.hid (HP2.out.only ho3)
  have hr2b : r2.length ≤ 100000 := by omega
  clear hr3 ho3 HT2 HR2 HP2 d2' hKb
  go_wp2_with fail
  go_loopw [17] (fun v17 wr => ∃ (i : Nat) (av : Option Addr) (cv : Nat), i ≤ n ∧ v17 = .int .i64 (i : Int) ∧ Hid (32 * i ≤ r2.length) ∧ Hid (RdR (fun k => k < w.heap.size) wr br 67 [.int .i64 (K : Int), .slice av i cv, .slice none 0 0] (r2.drop (32 * i))) ∧ Hid (wr.ownsRow w.heap.size 48 32 (.slice av i cv) i (Bs (r2.take (32 * i)))) ∧ Hid (PastN w wr br)) (fun v17 _ => n - (intOf v17).toNat)
  case atStart => exact ⟨0, none, 0, Nat.zero_le _, rfl, Lib.hid (Nat.zero_le _), Lib.hid (by rw [Nat.mul_zero, List.drop_zero]; exact HR3.out), Lib.hid (World.ownsRow_nil _ _ _ _), HP3⟩
  case round =>
   obtain ⟨i, av, cv, hi, rfl, hI, hR, hO, hP⟩ := hrel
   have hrl : (r2.drop (32 * i)).length = r2.length - 32 * i := List.length_drop ..
   by_cases hlt : i < n
   ·have hlt' : (i : Int) < (n : Int) := by omega
    have HC := Lib.hid (mid_any w br (.int .i64 (K : Int)) (.slice none 0 0) av i cv (r2.take (32 * i)) (r2.drop (32 * i)) wr HLT.out hP.out hR.out hO.out (by omega) (by omega))
    unfold MIdsP at HC
    by_cases h32 : 32 ≤ (r2.drop (32 * i)).length
    ·simp only [if_pos h32] at HC
     have hI1 : 32 * (i + 1) ≤ r2.length := by omega
     have HI1 := Lib.hid hI1
     have e1 : (r2.drop (32 * i)).drop 32 = r2.drop (32 * (i + 1)) := by rw [List.drop_drop]; congr 1
     have e2 : r2.take (32 * i) ++ (r2.drop (32 * i)).take 32 = r2.take (32 * (i + 1)) := by rw [show 32 * (i + 1) = 32 * i + 32 by omega, List.take_add]
     rw [e1, e2] at HC
     clear e1 e2 h32 hI1 hrl
     go_wp2_with fail
     refine HC.out.mono ?_
     rintro e w4 ⟨rfl, a4, c4, hr4, ho4, hp4⟩
     have HR4 := Lib.hid hr4
     have HO4 := Lib.hid ho4
     have HP4 := Lib.hid hp4
     clear hr4 ho4 hp4
     go_wp2_with fail
     refine ⟨⟨i + 1, a4, c4, by omega, by go_num, HI1, HR4, HO4, HP4⟩, ?_⟩
     simp [intOf]; omega
    ·simp only [if_neg h32] at HC
     have HN1 := Lib.hid (HNO.out (by rw [HG2.out, if_neg (by omega)]))
     clear h32 hrl
     go_wp2_with fail
     refine HC.out.mono ?_
     rintro e w4 ⟨rfl, hp4⟩
     have HP4 := Lib.hid hp4
     clear hp4
     go_wp2_with fail
     exact ⟨rfl, HN1.out _ HP4.out⟩
   ·obtain rfl : n = i := by omega
    have hlt' : ¬ (n : Int) < (n : Int) := by omega
    obtain ⟨aq, cq, k1, k2, _, _⟩ := hR.out
    obtain ⟨nq, hnq⟩ : ∃ q, q = (r2.drop (32 * n)).length := ⟨_, rfl⟩
    rw [← hnq] at k1 k2
    obtain ⟨mb, hmb⟩ : ∃ x, x = mayM ⟨(K : Int), idsOf n r2, []⟩ := ⟨_, rfl⟩
    have HGM := Lib.hid (show getM b = (if nq = 0 ∧ mayM ⟨(K : Int), idsOf n r2, []⟩ = true then some ⟨(K : Int), idsOf n r2, []⟩ else none) by rw [HG2.out, if_pos hI.out, hnq])
    have HMR := Lib.hid (show MsgR wr ⟨(K : Int), idsOf n r2, []⟩ av cv none 0 from ⟨by
     obtain ⟨a', c', e, h2, _⟩ := Ids.of_own hO.out hI.out
     injection e with e1 _ e2
     subst e1 e2
     show Ids wr av (idsOf n r2).length cv (idsOf n r2)
     rw [idsOf_length]
     exact h2, Cms.nil _⟩)
    have HMAY := Lib.hid (fun w' h => mmay_any ⟨(K : Int), idsOf n r2, []⟩ av cv none 0 w' h)
    rw [← hmb] at HMAY
    unfold Msg.val Msg.cs at HMAY
    simp only [idsOf_length, List.length_nil] at HMAY
    have HMB := Lib.hid hmb
    have HLEN := Lib.hid (show (idsOf n r2).length = n ∧ ([] : List Cmt).length = 0 from ⟨idsOf_length _ _, rfl⟩)
    have HQ := Lib.hid k1
    have HPW := hP
    clear hrl hnq hmb k1 k2 hP HG2 hO hR
    by_cases hq0 : nq = 0
    case neg =>
     have hqb : ((nq : Int) == 0) = false := by simp; omega
     have HN1 := Lib.hid (HNO.out (by rw [HGM.out, if_neg (fun h => hq0 h.1)]))
     have p0 : wr.cell? ⟨br, 0, none⟩ = some (.slice aq nq cq) := HQ.out.at 0 _ rfl
     go_wp2_with fail
     refine (munless_no _).mono ?_
     rintro e w' ⟨rfl, rfl⟩
     go_wp2_with fail
     exact ⟨rfl, HN1.out _ HPW.out⟩
    subst hq0
    have p0 : wr.cell? ⟨br, 0, none⟩ = some (.slice aq 0 cq) := HQ.out.at 0 _ rfl
    have p1 : wr.cell? ⟨br, 1, none⟩ = some (.int .i64 (K : Int)) := HQ.out.at 1 _ rfl
    have p2 : wr.cell? ⟨br, 2, none⟩ = some (.slice av n cv) := HQ.out.at 2 _ rfl
    have p3 : wr.cell? ⟨br, 3, none⟩ = some (.slice none 0 0) := HQ.out.at 3 _ rfl
    go_wp2_with fail
    refine (HMAY.out _ HMR.out).mono ?_
    rintro e wM ⟨rfl, hb⟩
    have HQM := Lib.hid (HQ.out.step hb)
    have HPM := Lib.hid (HPW.out.step hb)
    have HMM := Lib.hid (HMR.out.below hb)
    clear hb p0 p1 p2 p3
    cases mb with
    | false =>
     have HN1 := Lib.hid (HNO.out (by rw [HGM.out, if_neg (fun h => by rw [← HMB.out] at h; exact absurd h.2 (by decide))]))
     go_wp2_with fail
     refine (munless_no _).mono ?_
     rintro e w' ⟨rfl, rfl⟩
     go_wp2_with fail
     exact ⟨rfl, HN1.out _ HPM.out⟩
    | true =>
     have HY := Lib.hid (show getM b = some (⟨(K : Int), idsOf n r2, []⟩) by rw [HGM.out, if_pos (by have h := HMB.out.symm; simp [h])])
     go_wp2_with fail
     refine (munless_yes _).mono ?_
     rintro e w' ⟨rfl, rfl⟩
     go_wp2_with fail
     go_end0
     show MReadP w br b _ _
     unfold MReadP
     rw [HY.out]
     exact ⟨rfl, _, _, _, _, _, by simpa only [HLEN.out.1, HLEN.out.2] using HQM.out, HMM.out, HPM.out⟩
end Go.Proofs.YtofadpodlaakbaaGreat
