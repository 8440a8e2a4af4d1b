/- The walks of the reference's id and Put, of the layer msg. -/
import Derived.Test.YtofadpodlaakbaaGreatMsgRef
import Derived.Test.YtofadpodlaakbaaGreatMsgPut
import Derived.Test.YtofadpodlaakbaaGreatCmRefHash
namespace Go.Proofs.YtofadpodlaakbaaGreat
open Go.ChangeShapes Go.WideShapes Go.ChangeAt Go.RowKit
set_option linter.unusedVariables false
set_option linter.unusedSimpArgs false
set_option maxRecDepth 100000 in
set_option maxHeartbeats 4000000 in
theorem id18_ref (x : List UInt8) (w : World) (hx : x.length = 32) : Calls Tryz.prog 23 #[arr x] w (OwnB x w) := by
 unfold arr
 have HX := Lib.hid hx
 clear hx
 go_enter Tryz.func23, Tryz.ntmps23
 go_upto_region 1 with fail
 obtain ⟨b1, hb1⟩ : ∃ b, b = w.heap.size := ⟨_, rfl⟩
 have hC0 := Cel.new w 48 (Bs x)
 rw [← hb1] at hC0 ⊢
 generalize hw1 : w.alloc (.cells _ _) = w1
 have HC1 := Lib.hid (show Cel w1 b1 48 (Bs x) by rw [← hw1]; exact hC0)
 have HB1 := Lib.hid (show Below w.heap.size w w1 by rw [← hw1]; exact (Below.refl _ _).alloc (Nat.le_refl _) _)
 clear hC0 hw1 hb1
 go_wp2_with fail
 go_loopw [3, 4] (fun v3 v4 wr => ∃ i : Nat, i ≤ 32 ∧ v4 = .int .i64 (i : Int) ∧ Hid (wr.ownsRow w1.heap.size 5 1 v3 (x.take i).length ((x.take i).map B)) ∧ Hid (Below w1.heap.size w1 wr) ∧ Hid (Cel wr b1 48 (Bs x))) (fun _ v4 _ => 32 - (intOf v4).toNat)
 case atStart => exact ⟨0, Nat.zero_le _, rfl, Lib.hid (World.ownsRow_nil _ _ _ _), Lib.hid (Below.refl _ _), HC1⟩
 case round =>
  obtain ⟨i, hi, rfl, hO, hB, hC⟩ := hrel
  by_cases hlt : i < 32
  ·have hlt' : (i : Int) < 32 := by omega
   have hi0 : (0 : Int) ≤ (i : Int) := by omega
   have hcell := hC.out.at i _ (Bs_at x i (by rw [HX.out]; exact hlt))
   obtain ⟨y, hy⟩ : ∃ y, y = x.getD i 0 := ⟨_, rfl⟩
   rw [← hy] at hcell
   have hl := HX.out
   obtain ⟨v', w7, hrun, hown, hb⟩ := app_byte y hO.out hB.out (by rw [List.length_take]; omega)
   have e : x.take (i + 1) = x.take i ++ [y] := by
    rw [List.take_add_one, hy, List.getD_eq_getElem?_getD, List.getElem?_eq_getElem (by omega)]
    rfl
   rw [← e] at hown
   have HRUN := Lib.hid hrun
   have HO7 := Lib.hid hown
   have HB7 := Lib.hid hb
   have HC7 := Lib.hid (show Cel w7 b1 48 (Bs x) from HC1.out.step hb)
   clear hrun hown hb e hl hy
   go_wp2_with (at_builtin; refine Lib.wpList_append_run _ rfl _ _ _ _ rfl _ _ rfl rfl _ _ HRUN.out ?_)
   refine ⟨⟨i + 1, by omega, by go_num, HO7, HB7, HC7⟩, ?_⟩
   simp [intOf]; omega
  ·obtain rfl : i = 32 := by omega
   have hlt' : ¬ ((32 : Nat) : Int) < 32 := by omega
   have hE := hO.out
   rw [List.take_of_length_le (by rw [HX.out]; exact Nat.le_refl _)] at hE
   have HE := Lib.hid hE
   clear hE hlt
   go_wp2_with fail
   go_ret
   exact ⟨_, rfl, ownsRow_mono HE.out HB1.out.size, HB1.out.step hB.out⟩
set_option maxRecDepth 100000 in
set_option maxHeartbeats 16000000 in
theorem mput_ref (m : Msg) (ai : Option Addr) (ci : Nat) (ac : Option Addr) (cc : Nat) (w : World) (hr : MsgR w m ai ci ac cc) : Calls Tryz.prog 8 #[m.val ai ci ac cc] w (MPutP m w) := by
 have HMAY := Lib.hid (fun w' h => mmay_ref m ai ci ac cc w' h)
 obtain ⟨mm, hmm⟩ : ∃ x, x = mayM m := ⟨_, rfl⟩
 rw [← hmm] at HMAY
 have HRM := Lib.hid hr
 have HM := Lib.hid hmm
 have HA32 := Lib.hid hr.all32
 obtain ⟨n1, hn1⟩ : ∃ n, n = m.ids.length := ⟨_, rfl⟩
 obtain ⟨n2, hn2⟩ : ∃ n, n = m.cms.length := ⟨_, rfl⟩
 have hi := hr.ids
 have hc := hr.cms
 rw [← hn1] at hi
 rw [← hn2] at hc
 have hn163 : n1 ≤ 9223372036854775807 := Nat.le_trans hi.le hi.cap
 have hn263 : n2 ≤ 9223372036854775807 := Nat.le_trans hc.le hc.cap
 have HI := Lib.hid hi
 have HC := Lib.hid hc
 have HN := Lib.hid (And.intro hn1 hn2)
 unfold Msg.val Msg.cs at HMAY ⊢
 obtain ⟨kind, hk⟩ : ∃ x, x = m.kind := ⟨_, rfl⟩
 rw [← hk, ← hn1, ← hn2] at HMAY ⊢
 have HK := Lib.hid hk
 clear hr hmm hn1 hn2 hi hc hk
 go_enter Tryz.func8, Tryz.ntmps8
 go_upto_region 1 with fail
 obtain ⟨b1, hb1⟩ : ∃ b, b = w.heap.size := ⟨_, rfl⟩
 have hC0 := Cel.new w 25 [.int .i64 kind, .slice ai n1 ci, .slice ac n2 cc]
 rw [← hb1] at hC0 ⊢
 generalize hw1 : w.alloc (.cells _ _) = w1
 have HC1 := Lib.hid (show Cel w1 b1 25 [.int .i64 kind, .slice ai n1 ci, .slice ac n2 cc] by rw [← hw1]; exact hC0)
 have HB1 := Lib.hid (show Below w.heap.size w w1 by rw [← hw1]; exact (Below.refl _ _).alloc (Nat.le_refl _) _)
 clear hC0 hw1 hb1
 have p0 : w1.cell? ⟨b1, 0, none⟩ = some (.int .i64 kind) := HC1.out.at 0 _ rfl
 have p1 : w1.cell? ⟨b1, 1, none⟩ = some (.slice ai n1 ci) := HC1.out.at 1 _ rfl
 have p2 : w1.cell? ⟨b1, 2, none⟩ = some (.slice ac n2 cc) := HC1.out.at 2 _ rfl
 go_wp2_with fail
 refine (HMAY.out _ (HRM.out.below HB1.out)).mono ?_
 rintro e w2 ⟨rfl, hb⟩
 have HB2 := Lib.hid (HB1.out.step hb)
 have HC2 := Lib.hid (HC1.out.step hb)
 clear hb p0 p1 p2 HB1 HC1 HMAY
 cases mm with
 | false =>
  go_wp2_with fail
  go_ret2
  show MPutP m w _ _
  unfold MPutP
  rw [if_neg (by rw [← HM.out]; decide)]
  exact ⟨rfl, HB2.out⟩
 | true =>
  obtain ⟨K, hK, hK2, hn16, hn6, HOKS, HKS⟩ : ∃ K : Nat, kind = (K : Int) ∧ K ≤ 2 ∧ n1 ≤ 16 ∧ n2 ≤ 6 ∧ Hid (∀ x ∈ m.cms, mayC x = true ∧ all32 x.par) ∧ Hid ((K = 2 → m.ids = []) ∧ (K ≠ 2 → m.cms = [])) := by
   have h1 := HN.out.1
   have h2 := HN.out.2
   have h3 := HK.out
   rcases mayM_kind HM.out.symm with ⟨g1, g2, g3, g4⟩ | ⟨g1, g2, g3, g4⟩
   ·rw [g4, List.length_nil] at h2
    exact ⟨kind.toNat, by omega, by omega, by omega, by omega, Lib.hid (by rw [g4]; intro x hx; cases hx), Lib.hid ⟨fun h => by omega, fun _ => g4⟩⟩
   ·rw [g2, List.length_nil] at h1
    exact ⟨2, by omega, by omega, by omega, by omega, Lib.hid (fun x hx => ⟨(g4 x hx).1, HA32.out.2 x hx⟩), Lib.hid ⟨fun _ => g2, fun h => absurd rfl h⟩⟩
  subst hK
  have HX0 := Lib.hid (fun w' => num_ref K (by omega) w')
  have HX1 := Lib.hid (fun w' => num_ref n1 (by omega) w')
  have HX2 := Lib.hid (fun w' => num_ref n2 (by omega) w')
  unfold OwnB at HX0 HX1 HX2
  obtain ⟨X0, hX0⟩ : ∃ X, X = numL K := ⟨_, rfl⟩
  obtain ⟨X1, hX1⟩ : ∃ X, X = numL n1 := ⟨_, rfl⟩
  obtain ⟨X2, hX2⟩ : ∃ X, X = numL n2 := ⟨_, rfl⟩
  have h010 := numL_le10 K (by omega)
  have h110 := numL_le10 n1 (by omega)
  have h210 := numL_le10 n2 (by omega)
  rw [← hX0] at HX0 h010
  rw [← hX1] at HX1 h110
  rw [← hX2] at HX2 h210
  have HPI := Lib.hid (show K ≠ 2 → putM m = (X0 ++ X1) ++ m.ids.flatten from fun h => by
   unfold putM
   rw [← HK.out, Int.toNat_natCast, HKS.out.2 h, List.length_nil, Nat.add_zero, ← HN.out.1, ← hX0, ← hX1]
   simp [List.append_assoc])
  have HPC := Lib.hid (show K = 2 → putM m = (X0 ++ X2) ++ (m.cms.map oneC).flatten from fun h => by
   unfold putM
   rw [← HK.out, Int.toNat_natCast, HKS.out.1 h, List.length_nil, Nat.zero_add, ← HN.out.2, ← hX0, ← hX2]
   simp [List.append_assoc])
  have hKw : IntKind.u64.wrap (K : Int) = (K : Int) := by rw [wrap_u64]; omega
  have hn1w : IntKind.u64.wrap (n1 : Int) = (n1 : Int) := by rw [wrap_u64]; omega
  have hn2w : IntKind.u64.wrap (n2 : Int) = (n2 : Int) := by rw [wrap_u64]; omega
  clear hX0 hX1 hX2
  have p0 : w2.cell? ⟨b1, 0, none⟩ = some (.int .i64 (K : Int)) := HC2.out.at 0 _ rfl
  have p1 : w2.cell? ⟨b1, 1, none⟩ = some (.slice ai n1 ci) := HC2.out.at 1 _ rfl
  have p2 : w2.cell? ⟨b1, 2, none⟩ = some (.slice ac n2 cc) := HC2.out.at 2 _ rfl
  go_wp2_with fail
  refine (HX0.out _).mono ?_
  rintro e w3 ⟨v3, rfl, ho3, hb3⟩
  have HO3 := Lib.hid ho3
  have HC3 := Lib.hid (HC2.out.step hb3)
  have HBL3 := Lib.hid hb3
  clear ho3 hb3 p0 p1 p2
  by_cases hK2' : K = 2
  ·subst hK2'
   have p0 : w3.cell? ⟨b1, 0, none⟩ = some (.int .i64 2) := HC3.out.at 0 _ rfl
   have p1 : w3.cell? ⟨b1, 1, none⟩ = some (.slice ai n1 ci) := HC3.out.at 1 _ rfl
   have p2 : w3.cell? ⟨b1, 2, none⟩ = some (.slice ac n2 cc) := HC3.out.at 2 _ rfl
   go_wp2_with fail
   refine (HX2.out _).mono ?_
   rintro e w4 ⟨v4, rfl, ho4, hb4⟩
   obtain ⟨a4, c4, rfl, hr4⟩ := Rd.of_own ho4
   obtain ⟨v5, w5, hrun, hown, hb5⟩ := app_own (w0 := w2) (ownsRow_below HO3.out hb4) (HBL3.out.step hb4) hr4 (own_none ho4) (by omega)
   have HRUN := Lib.hid hrun
   have HO5 := Lib.hid hown
   have HB5 := Lib.hid hb5
   clear hrun hown hb5 hr4 ho4 hb4 p0 p1 p2
   go_wp2_with (at_builtin; refine Lib.wpList_append_run _ rfl _ _ _ _ rfl _ _ rfl rfl _ _ HRUN.out ?_)
   obtain ⟨gl, hgl⟩ : ∃ gl : Nat → List UInt8, gl = fun i => (X0 ++ X2) ++ ((m.cms.take i).map oneC).flatten := ⟨_, rfl⟩
   have hoks := HOKS.out
   have HGL0 := Lib.hid (show gl 0 = X0 ++ X2 by rw [hgl]; simp)
   have HGLS := Lib.hid (show ∀ i, i < n2 → gl (i + 1) = (gl i ++ hashL (putC (m.cms.getD i noC))) ++ txtL (putC (m.cms.getD i noC)) from fun i hi => by
    rw [hgl]
    simp only
    rw [List.take_add_one, List.getD_eq_getElem?_getD, List.getElem?_eq_getElem (by rw [← HN.out.2]; exact hi), List.map_append, List.flatten_append]
    simp [oneC, List.append_assoc])
   have HGLN := Lib.hid (show gl n2 = putM m by rw [hgl, HN.out.2, HPC.out (by first | rfl | trivial)]; simp only; rw [List.take_of_length_le (Nat.le_refl _)])
   have HGLL := Lib.hid (show ∀ i, i ≤ n2 → (gl i).length ≤ 20 + 450 * i from fun i hi => by
    have h1 := flat_le ((m.cms.take i).map oneC) 450 (fun x hx => by
     obtain ⟨y, hy, rfl⟩ := List.mem_map.1 hx
     obtain ⟨g1, g2⟩ := hoks y (List.mem_of_mem_take hy)
     exact oneC_len g1 g2)
    rw [List.length_map, List.length_take] at h1
    have h3 : 450 * min i m.cms.length ≤ 450 * i := Nat.mul_le_mul (Nat.le_refl _) (Nat.min_le_left _ _)
    rw [hgl]
    simp only
    rw [List.length_append, List.length_append]
    omega)
   have HEL := Lib.hid (show ∀ i, i < n2 → mayC (m.cms.getD i noC) = true ∧ all32 (m.cms.getD i noC).par from fun i hi => by
    have hil : i < m.cms.length := by rw [← HN.out.2]; exact hi
    have e : m.cms.getD i noC = m.cms[i] := by rw [List.getD_eq_getElem?_getD, List.getElem?_eq_getElem hil]; rfl
    rw [e]
    exact hoks _ (List.getElem_mem hil))
   clear hgl hoks
   go_loopw [5, 7] (fun v5 v7 wr => ∃ (i : Nat) (v : Value), i ≤ n2 ∧ v7 = .int .i64 (i : Int) ∧ v = v5 ∧ Hid (wr.ownsRow w2.heap.size 5 1 v (gl i).length ((gl i).map B)) ∧ Hid (Below w2.heap.size w2 wr)) (fun _ v7 _ => n2 - (intOf v7).toNat)
   case atStart => exact ⟨0, _, Nat.zero_le _, rfl, rfl, Lib.hid (by rw [HGL0.out]; exact HO5.out), HB5⟩
   case round =>
    obtain ⟨i, vv, hi, rfl, rfl, hO, hB⟩ := hrel
    have HCr := Lib.hid (HC2.out.step hB.out)
    have p0 : wr.cell? ⟨b1, 0, none⟩ = some (.int .i64 2) := HCr.out.at 0 _ rfl
    have p1 : wr.cell? ⟨b1, 1, none⟩ = some (.slice ai n1 ci) := HCr.out.at 1 _ rfl
    have p2 : wr.cell? ⟨b1, 2, none⟩ = some (.slice ac n2 cc) := HCr.out.at 2 _ rfl
    by_cases hin : i < n2
    ·obtain ⟨b, off, rfl, hcc⟩ := ((HC.out.below HB2.out).below hB.out).cells.resolve_left (by omega)
     obtain ⟨pa, pc, hrg2, hcm⟩ := hcc i hin
     obtain ⟨hmx, h32x⟩ := HEL.out i hin
     have hgs := HGLS.out i hin
     have hgll := HGLL.out i hi
     obtain ⟨x, hx⟩ : ∃ x, x = m.cms.getD i noC := ⟨_, rfl⟩
     rw [← hx] at hrg2 hcm hmx h32x hgs
     have HCM := Lib.hid hcm
     have HGS := Lib.hid hgs
     have hii : (i : Int) < (n2 : Int) := by omega
     have hi0 : 0 ≤ (i : Int) := by omega
     have HHA := Lib.hid (fun w' (h : CmR w' x pa pc) => show Calls Tryz.prog 24 #[x.val pa pc] w' (fun e w'' => e = .returned (.tuple #[.agg (Bs (hashL (putC x))).toArray, .int .i64 0]) ∧ Below w'.heap.size w' w'') by
      refine (chash_ref x pa pc w' h h32x).mono fun e w'' hp => ?_
      unfold CHashP at hp
      rw [if_pos hmx] at hp
      exact hp)
     have HPU := Lib.hid (fun w' (h : CmR w' x pa pc) => show Calls Tryz.prog 25 #[x.val pa pc] w' (fun e w'' => ∃ v, e = .returned (.tuple #[v, .int .i64 0]) ∧ w''.ownsRow w'.heap.size 5 1 v (putC x).length ((putC x).map B) ∧ Below w'.heap.size w' w'') by
      refine (cput_ref_own x pa pc w' h).mono fun e w'' hp => ?_
      unfold CPutO at hp
      rw [if_pos hmx] at hp
      exact hp)
     obtain ⟨X, hX⟩ : ∃ X, X = putC x := ⟨_, rfl⟩
     obtain ⟨HS, hHS⟩ : ∃ X, X = hashL (putC x) := ⟨_, rfl⟩
     have hhs32 : HS.length = 32 := by rw [hHS]; exact hashL_length _
     have hXl : X.length ≤ 400 := by rw [hX]; exact putC_len hmx h32x
     rw [← hHS] at HHA HGS
     rw [← hX] at HPU HGS
     have HID := Lib.hid (fun w' => id18_ref HS w' hhs32)
     have HTX := Lib.hid (fun w' => (text_ref ⟨X.toArray⟩ w' (by simp only [ByteArray.size, List.size_toArray]; omega)))
     rw [show txtL (⟨X.toArray⟩ : ByteArray).data.toList = txtL X from rfl] at HTX
     unfold OwnB arr at HID
     rw [hhs32] at HID
     unfold OwnB at HTX
     have hTl : (txtL X).length ≤ 410 := by
      unfold txtL
      rw [List.length_append]
      have := numL_le10 X.length (by omega)
      omega
     obtain ⟨TX, hTX⟩ : ∃ T, T = txtL X := ⟨_, rfl⟩
     rw [← hTX] at HTX hTl HGS
     obtain ⟨sx, hsx⟩ : ∃ s : ByteArray, s = ⟨X.toArray⟩ := ⟨_, rfl⟩
     rw [← hsx] at HTX
     have HSX := Lib.hid hsx
     obtain ⟨lx, hlx⟩ : ∃ l, l = X.length := ⟨_, rfl⟩
     rw [← hlx] at HPU
     have HRX := Lib.hid (show wr.rangeAt b (off + i * 8) [.int .i64 x.node, .int .i64 x.seq, .int .i64 x.gen, .slice pa x.par.length pc, .int .i64 x.op.kind, .string ⟨x.op.key.toArray⟩, .string ⟨x.op.elem.toArray⟩, .int .i64 x.op.num] from hrg2)
     unfold Cmt.val Cmt.cs at HHA HPU
     clear hcc hx hcm hgs hmx h32x hHS hX hTX hrg2 hsx hlx
     generalize hg_xnode : x.node = node_x at HHA HPU HRX
     generalize hg_xseq : x.seq = seq_x at HHA HPU HRX
     generalize hg_xgen : x.gen = gen_x at HHA HPU HRX
     generalize hg_xnp : x.par.length = np_x at HHA HPU HRX
     generalize hg_xkd : x.op.kind = kd_x at HHA HPU HRX
     generalize hg_xs1 : (⟨x.op.key.toArray⟩ : ByteArray) = s1_x at HHA HPU HRX
     generalize hg_xs2 : (⟨x.op.elem.toArray⟩ : ByteArray) = s2_x at HHA HPU HRX
     generalize hg_xnum : x.op.num = num_x at HHA HPU HRX
     clear hg_xnode hg_xseq hg_xgen hg_xnp hg_xkd hg_xs1 hg_xs2 hg_xnum
     have hrx := HRX.out
     have q0 : wr.cell? ⟨b, off + i * 8, none⟩ = some (.int .i64 node_x) := hrx 0 _ rfl
     have q1 : wr.cell? ⟨b, off + i * 8 + 1, none⟩ = some (.int .i64 seq_x) := hrx 1 _ rfl
     have q2 : wr.cell? ⟨b, off + i * 8 + 2, none⟩ = some (.int .i64 gen_x) := hrx 2 _ rfl
     have q3 : wr.cell? ⟨b, off + i * 8 + 3, none⟩ = some (.slice pa np_x pc) := hrx 3 _ rfl
     have q4 : wr.cell? ⟨b, off + i * 8 + 4, none⟩ = some (.int .i64 kd_x) := hrx 4 _ rfl
     have q5 : wr.cell? ⟨b, off + i * 8 + 5, none⟩ = some (.string s1_x) := hrx 5 _ rfl
     have q6 : wr.cell? ⟨b, off + i * 8 + 6, none⟩ = some (.string s2_x) := hrx 6 _ rfl
     have q7 : wr.cell? ⟨b, off + i * 8 + 7, none⟩ = some (.int .i64 num_x) := hrx 7 _ rfl
     clear hrx
     go_wp2_with fail
     refine (HHA.out _ (HCM.out)).mono ?_
     rintro e w6 ⟨rfl, hb⟩
     rename_i K9 hK9
     refine hK9 _ _ ?_
     clear hK9 K9
     iterate 8 go_step
     rename_i K9 hK9
     refine hK9 _ _ ?_
     clear hK9 K9
     refine wpList_new_store rfl rfl 48 8 (.tmp 67) rfl rfl rfl rfl (Bs zero32) (Bs HS) (by kernel_rfl) (by simp) rfl (by rw [Bs_length, Bs_length, zero32_length, hhs32]) (info_x hhs32) (Bs_one HS) ?_
     intro w7 hd hb2
     obtain ⟨b8, hbb⟩ : ∃ b, b = w6.heap.size := ⟨_, rfl⟩
     rw [← hbb] at hd ⊢
     have hry := rng_below (rng_below HRX.out hb) hb2
     have HH7 := Lib.hid hd
     have HB7 := Lib.hid ((hB.out.step hb).step hb2)
     have HO7 := Lib.hid (ownsRow_below (ownsRow_below hO.out hb) hb2)
     have HM7 := Lib.hid ((HCM.out.below hb).below hb2)
     have HC7 := Lib.hid ((HCr.out.step hb).step hb2)
     clear hb hb2 hd hbb q0 q1 q2 q3 q4 q5 q6 q7 p0 p1 p2
     have q0 : w7.cell? ⟨b, off + i * 8, none⟩ = some (.int .i64 node_x) := hry 0 _ rfl
     have q1 : w7.cell? ⟨b, off + i * 8 + 1, none⟩ = some (.int .i64 seq_x) := hry 1 _ rfl
     have q2 : w7.cell? ⟨b, off + i * 8 + 2, none⟩ = some (.int .i64 gen_x) := hry 2 _ rfl
     have q3 : w7.cell? ⟨b, off + i * 8 + 3, none⟩ = some (.slice pa np_x pc) := hry 3 _ rfl
     have q4 : w7.cell? ⟨b, off + i * 8 + 4, none⟩ = some (.int .i64 kd_x) := hry 4 _ rfl
     have q5 : w7.cell? ⟨b, off + i * 8 + 5, none⟩ = some (.string s1_x) := hry 5 _ rfl
     have q6 : w7.cell? ⟨b, off + i * 8 + 6, none⟩ = some (.string s2_x) := hry 6 _ rfl
     have q7 : w7.cell? ⟨b, off + i * 8 + 7, none⟩ = some (.int .i64 num_x) := hry 7 _ rfl
     clear hry
     have p0 : w7.cell? ⟨b1, 0, none⟩ = some (.int .i64 2) := HC7.out.at 0 _ rfl
     have p1 : w7.cell? ⟨b1, 1, none⟩ = some (.slice ai n1 ci) := HC7.out.at 1 _ rfl
     have p2 : w7.cell? ⟨b1, 2, none⟩ = some (.slice (some ⟨b, off, none⟩) n2 cc) := HC7.out.at 2 _ rfl
     go_wp2_with fail
     refine (HPU.out _ HM7.out).mono ?_
     rintro e w8 ⟨v8, rfl, ho8, hb⟩
     have hlo8 := fun k hk => (ho8.lt k hk).1
     obtain ⟨a8, c8, rfl, hr8⟩ := Rd.of_own ho8
     have HR8 := Lib.hid (And.intro hr8 (show ∀ y, a8 = some y → w7.heap.size ≤ y.block from fun y hy => hlo8 y.block (by rw [hy]; rfl)))
     have HVL := Lib.hid (show ∀ k, vv.ownBlock = some k → k < w7.heap.size from fun k hk => (HO7.out.lt k hk).2)
     have HH8 := Lib.hid (HH7.out.step hb)
     have HB8 := Lib.hid (HB7.out.step hb)
     have HO8 := Lib.hid (ownsRow_below HO7.out hb)
     clear hr8 hb ho8 hlo8 q0 q1 q2 q3 q4 q5 q6 q7 p0 p1 p2
     go_wp2_with (refine wpList_load_mid rfl 48 (.tmp 8) rfl b8 0 (by rfl) (Bs HS) _ HH8.out.range under_ids rfl (info_x hhs32) ?_)
     refine (HID.out _).mono ?_
     rintro e w9 ⟨v9, rfl, ho9, hb9⟩
     obtain ⟨a9, c9, rfl, hr9⟩ := Rd.of_own ho9
     obtain ⟨i0, hi0', hz0, hz1, hz2⟩ := info_parts info_u8
     obtain ⟨v10, w10, hrun, hown', hg⟩ := run_app (P := Tryz.prog) (ty := 28) Tryz.underlying28 hi0' hz0 hz1 hz2 rfl (ownsRow_below HO8.out hb9) hr9 (own_none ho9) (by omega) (HB8.out.step hb9).size
     have hb10 := below_own (HB8.out.step hb9) (ownsRow_below HO8.out hb9) hg (HB8.out.step hb9).size
     have hown : w10.ownsRow w2.heap.size 5 1 v10 (gl i ++ HS).length ((gl i ++ HS).map B) := by rw [List.length_append, List.map_append, hhs32]; exact hown'
     have HRUN := Lib.hid hrun
     have HO10 := Lib.hid hown
     have HB10 := Lib.hid hb10
     have hr10 : Rd w10 a8 lx c8 X := (HR8.out.1.below hb9).grownb hg (fun k hk y hy => by have h1 := HVL.out k hk; have h2 := HR8.out.2 y hy; omega)
     clear hrun hown hown' hb10 hr9 ho9 hb9 hg hi0' hz0 hz1 hz2
     have hcx : (convert 28 9 (.slice a8 lx c8)).run Tryz.prog w10 = .ok (.string sx) w10 := by rw [HSX.out]; exact hr10.str (P := Tryz.prog) 28 5 9 Tryz.underlying28 Tryz.underlying5 Tryz.underlying9
     clear hr10
     go_wp2_with (at_builtin; refine Lib.wpList_append_run _ rfl _ _ _ _ rfl _ _ rfl rfl _ _ HRUN.out ?_)
     refine (HTX.out _).mono ?_
     rintro e w11 ⟨v11, rfl, ho11, hb11⟩
     obtain ⟨a11, c11, rfl, hr11⟩ := Rd.of_own ho11
     obtain ⟨v12, w12, hrun, hown, hb12⟩ := app_own (w0 := w2) (ownsRow_below HO10.out hb11) (HB10.out.step hb11) hr11 (own_none ho11) (by rw [List.length_append, hhs32]; omega)
     have HRUN2 := Lib.hid hrun
     have HO12 := Lib.hid (show w12.ownsRow w2.heap.size 5 1 v12 (gl (i + 1)).length ((gl (i + 1)).map B) by rw [HGS.out]; exact hown)
     have HB12 := Lib.hid hb12
     clear hrun hown hb12 hr11 ho11 hb11 hcx
     go_wp2_with (at_builtin; refine Lib.wpList_append_run _ rfl _ _ _ _ rfl _ _ rfl rfl _ _ HRUN2.out ?_)
     refine ⟨⟨i + 1, v12, by omega, by go_num, rfl, HO12, HB12⟩, ?_⟩
     simp [intOf]; omega
    ·obtain rfl : n2 = i := by omega
     have hnn : ¬ (n2 : Int) < (n2 : Int) := by omega
     have hE := hO.out
     rw [HGLN.out] at hE
     obtain ⟨a4', c4', rfl, hr4⟩ := Rd.of_own hE
     have HEND := Lib.hid (show MPutP m w (.returned (.tuple #[.slice a4' (putM m).length c4', .int .i64 0])) wr by
      unfold MPutP
      rw [if_pos HM.out.symm]
      exact ⟨a4', c4', rfl, hr4, own_none hE, HB2.out.step hB.out⟩)
     obtain ⟨lz, hlz⟩ : ∃ l, l = (putM m).length := ⟨_, rfl⟩
     rw [← hlz] at HEND ⊢
     clear hr4 hE hlz
     go_wp2_with fail
     go_ret2
     exact HEND.out
  ·have hKn : ¬ (K : Int) = 2 := by omega
   have p0 : w3.cell? ⟨b1, 0, none⟩ = some (.int .i64 (K : Int)) := HC3.out.at 0 _ rfl
   have p1 : w3.cell? ⟨b1, 1, none⟩ = some (.slice ai n1 ci) := HC3.out.at 1 _ rfl
   have p2 : w3.cell? ⟨b1, 2, none⟩ = some (.slice ac n2 cc) := HC3.out.at 2 _ rfl
   go_wp2_with fail
   refine (HX1.out _).mono ?_
   rintro e w4 ⟨v4, rfl, ho4, hb4⟩
   obtain ⟨a4, c4, rfl, hr4⟩ := Rd.of_own ho4
   obtain ⟨v5, w5, hrun, hown, hb5⟩ := app_own (w0 := w2) (ownsRow_below HO3.out hb4) (HBL3.out.step hb4) hr4 (own_none ho4) (by omega)
   have HRUN := Lib.hid hrun
   have HO5 := Lib.hid hown
   have HB5 := Lib.hid hb5
   clear hrun hown hb5 hr4 ho4 hb4 p0 p1 p2
   go_wp2_with (at_builtin; refine Lib.wpList_append_run _ rfl _ _ _ _ rfl _ _ rfl rfl _ _ HRUN.out ?_)
   have hall : all32 m.ids := HA32.out.1
   obtain ⟨fl, hfl⟩ : ∃ fl : Nat → List UInt8, fl = fun i => (X0 ++ X1) ++ (m.ids.take i).flatten := ⟨_, rfl⟩
   have HFL0 := Lib.hid (show fl 0 = X0 ++ X1 by rw [hfl]; simp)
   have HFLS := Lib.hid (show ∀ i, i < n1 → fl (i + 1) = fl i ++ m.ids.getD i [] from fun i hi => by
    rw [hfl]
    simp only
    rw [List.take_add_one, List.getD_eq_getElem?_getD, List.getElem?_eq_getElem (by rw [← HN.out.1]; exact hi), List.flatten_append, List.append_assoc]
    simp)
   have HFLN := Lib.hid (show fl n1 = putM m by rw [hfl, HN.out.1, HPI.out hK2']; simp only; rw [List.take_of_length_le (Nat.le_refl _)])
   have HFLL := Lib.hid (show ∀ i, i ≤ n1 → (fl i).length ≤ 20 + 32 * i from fun i hi => by
    rw [hfl]
    simp only
    rw [List.length_append, List.length_append, flat_len _ (fun x hx => hall x (List.mem_of_mem_take hx)), List.length_take]
    omega)
   clear hfl hall
   go_loopw [5, 6] (fun v5 v6 wr => ∃ i : Nat, i ≤ n1 ∧ v6 = .int .i64 (i : Int) ∧ Hid (wr.ownsRow w2.heap.size 5 1 v5 (fl i).length ((fl i).map B)) ∧ Hid (Below w2.heap.size w2 wr)) (fun _ v6 _ => n1 - (intOf v6).toNat)
   case atStart => exact ⟨0, Nat.zero_le _, rfl, Lib.hid (by rw [HFL0.out]; exact HO5.out), HB5⟩
   case round =>
    obtain ⟨i, hi, rfl, hO, hB⟩ := hrel
    have HCr := Lib.hid (HC2.out.step hB.out)
    have p0 : wr.cell? ⟨b1, 0, none⟩ = some (.int .i64 (K : Int)) := HCr.out.at 0 _ rfl
    have p1 : wr.cell? ⟨b1, 1, none⟩ = some (.slice ai n1 ci) := HCr.out.at 1 _ rfl
    have p2 : wr.cell? ⟨b1, 2, none⟩ = some (.slice ac n2 cc) := HCr.out.at 2 _ rfl
    by_cases hin : i < n1
    ·obtain ⟨b, fo, rfl, f1⟩ := ((HI.out.below HB2.out).below hB.out).cells.resolve_left (by omega)
     obtain ⟨x, hx⟩ : ∃ x, x = m.ids.getD i [] := ⟨_, rfl⟩
     have hx32 : x.length = 32 := by rw [hx]; exact HI.out.at32 i hin
     have hrg := f1 i hin
     rw [← hx] at hrg
     have HX := Lib.hid hx
     have HID := Lib.hid (fun w' => id18_ref x w' hx32)
     unfold OwnB arr at HID
     rw [hx32] at HID
     clear f1 hx
     have hii : (i : Int) < (n1 : Int) := by omega
     have hi0 : 0 ≤ (i : Int) := by omega
     have hfl := HFLL.out i hi
     go_wp2_with (refine wpList_load_mid rfl 48 (.tmp 41) rfl b (fo + i * 32) rfl (Bs x) _ hrg under_ids rfl (info_x hx32) ?_)
     refine (HID.out _).mono ?_
     rintro e w6 ⟨v6, rfl, ho6, hb6⟩
     obtain ⟨a6, c6, rfl, hr6⟩ := Rd.of_own ho6
     obtain ⟨v7, w7, hrun, hown, hb7⟩ := app_own (w0 := w2) (ownsRow_below hO.out hb6) (hB.out.step hb6) hr6 (own_none ho6) (by omega)
     have HRUN := Lib.hid hrun
     have HO7 := Lib.hid (show w7.ownsRow w2.heap.size 5 1 v7 (fl (i + 1)).length ((fl (i + 1)).map B) by rw [HFLS.out i hin, ← HX.out]; exact hown)
     have HB7 := Lib.hid hb7
     clear hrun hown hb7 hr6 ho6 hb6 hrg p0 p1 p2 hfl
     go_wp2_with (at_builtin; refine Lib.wpList_append_run _ rfl _ _ _ _ rfl _ _ rfl rfl _ _ HRUN.out ?_)
     refine ⟨⟨i + 1, by omega, by go_num, HO7, HB7⟩, ?_⟩
     simp [intOf]; omega
    ·obtain rfl : n1 = i := by omega
     have hnn : ¬ (n1 : Int) < (n1 : Int) := by omega
     have hE := hO.out
     rw [HFLN.out] at hE
     obtain ⟨a4', c4', rfl, hr4⟩ := Rd.of_own hE
     have HEND := Lib.hid (show MPutP m w (.returned (.tuple #[.slice a4' (putM m).length c4', .int .i64 0])) wr by
      unfold MPutP
      rw [if_pos HM.out.symm]
      exact ⟨a4', c4', rfl, hr4, own_none hE, HB2.out.step hB.out⟩)
     obtain ⟨lz, hlz⟩ : ∃ l, l = (putM m).length := ⟨_, rfl⟩
     rw [← hlz] at HEND ⊢
     clear hr4 hE hlz
     go_wp2_with fail
     go_ret2
     exact HEND.out
end Go.Proofs.YtofadpodlaakbaaGreat
