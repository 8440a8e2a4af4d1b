/- The walk of the reader's commit, of the layer msg. -/
import Derived.Test.YtofadpodlaakbaaGreatMsgCms
import Derived.Test.YtofadpodlaakbaaGreatMsgPut
import Derived.Test.YtofadpodlaakbaaGreatEncCutRef
import Derived.Lib.ConvBytes
import Derived.Lib.AtoiErrMem
namespace Go.Proofs.YtofadpodlaakbaaGreat
open Go.ChangeShapes Go.WideShapes Go.ChangeAt Go.RowKit
set_option linter.unusedVariables false
set_option linter.unusedSimpArgs false
theorem Cel.grownb {w w' : World} {b : Nat} {t : TypeId} {vs : List Value} {row : Option Nat} (h : Cel w b t vs) (hg : w.grownBy w' row) (hne : ∀ k, row = some k → k ≠ b) : Cel w' b t vs := by
 obtain ⟨_, _, _, g4, g5⟩ := hg
 exact (g5 b h.lt (fun e => hne b e.symm rfl)).trans h
theorem Rd.lt {w : World} {a : Option Addr} {n c : Nat} {l : List UInt8} (h : Rd w a n c l) (hn : 0 < n) : ∀ x, a = some x → x.block < w.heap.size := by
 rintro x hx
 rcases h.cells with h0 | ⟨b, off, rfl, hlt, _⟩
 ·omega
 ·injection hx with hx
  subst hx
  exact hlt
theorem CmR.moved {w w' : World} {c : Cmt} {a : Option Addr} {n b : Nat} (h : CmR w c a n) (ho : Only w w' b) (hne : ∀ x, a = some x → x.block ≠ b) : CmR w' c a n := ⟨h.ids.only ho hne, h.key, h.elem⟩
theorem Rd.of_textM (w : World) (e : TypeId) (T : List UInt8) (h : T.length ≤ 140737488351232) : Rd (Lib.bytesWorld w e ⟨T.toArray⟩) (some ⟨w.heap.size, 0, none⟩) T.length (grownCap w (ByteArray.mk T.toArray).size 0 e) T := by
 have hsz : (ByteArray.mk T.toArray).size = T.length := List.size_toArray
 refine ⟨rfl, by rw [hsz]; exact grownCap_ge _ _ _ _, Nat.le_trans (grownCap_le_maxLen _ _ _ _ (by unfold maxLen; omega)) (by unfold maxLen; decide), .inr ⟨w.heap.size, 0, rfl, by rw [Lib.bytesWorld_size]; omega, fun i hi => ?_⟩⟩
 rw [Nat.zero_add, Lib.bytesWorld_cell w e ⟨T.toArray⟩ i (by omega)]
abbrev rowOf (a : Option Addr) (n c : Nat) : Option Nat := (Value.slice a n c).ownBlock
def MCmP (w0 : World) (br : Nat) (kd iv : Value) (cj : Nat) (L : List Cmt) (l : List UInt8) (e : Ending) (w' : World) : Prop :=
 match cutC l with
 | none => e = .panicked wrongM ∧ PastN w0 w' br
 | some (c, r) => e = .returned (.tuple #[]) ∧ ∃ a n ps, RdR (fun k => ∀ g, (Value.slice a (cj + 1) n).ownBlock = some g → k ≠ g) w' br 67 [kd, iv, .slice a (cj + 1) n] r ∧ CmsO w' w0.heap.size a (cj + 1) n (L ++ [c]) ps ∧ PastN w0 w' br
set_option maxRecDepth 100000 in
set_option maxHeartbeats 16000000 in
theorem mcm_any (w0 : World) (br : Nat) (kd iv : Value) (ac : Option Addr) (cj cc : Nat) (L : List Cmt) (ps : List (Option Addr × Nat)) (l : List UInt8) (w : World) (hlt : br < w0.heap.size) (hp : PastN w0 w br) (hr : RdR (fun k => ∀ g, (Value.slice ac cj cc).ownBlock = some g → k ≠ g) w br 67 [kd, iv, .slice ac cj cc] l) (ho : CmsO w w0.heap.size ac cj cc L ps) (hl : l.length ≤ 100000) (hj : cj ≤ 100) : Calls Tryz.prog 66 #[.pointer (some ⟨br, 0, none⟩)] w (MCmP w0 br kd iv cj L l) := by
 have HP := Lib.hid hp
 have HR := Lib.hid hr
 have HO := Lib.hid ho
 have HLT := Lib.hid hlt
 have HT := Lib.hid (mtake_any (fun k => ∀ g, (Value.slice ac cj cc).ownBlock = some g → k ≠ g) br [kd, iv, .slice ac cj cc] l w hr hl)
 unfold MIdP at HT
 have HNO := Lib.hid (show cutC l = none → ∀ w', PastN w0 w' br → MCmP w0 br kd iv cj L l (.panicked wrongM) w' from fun h w' hp' => by unfold MCmP; rw [h]; exact ⟨rfl, hp'⟩)
 clear hp hr ho hlt
 by_cases h32 : 32 ≤ l.length
 case neg =>
  simp only [if_neg h32] at HT
  have HN1 := Lib.hid (HNO.out (by unfold cutC; rw [if_neg h32]))
  clear HNO h32
  go_enter Tryz.func66, Tryz.ntmps66
  go_wp2_with fail
  refine HT.out.mono ?_
  rintro e w1 ⟨rfl, hp1⟩
  have HP1 := Lib.hid (HP.out.trans hp1)
  clear hp1
  go_wp2_with fail
  exact ⟨rfl, HN1.out _ HP1.out⟩
 simp only [if_pos h32] at HT
 obtain ⟨x, hx⟩ : ∃ x, x = l.take 32 := ⟨_, rfl⟩
 have hx32 : x.length = 32 := by rw [hx, List.length_take]; omega
 obtain ⟨l5, hl5⟩ : ∃ x, x = l.drop 32 := ⟨_, rfl⟩
 have hl5l : l5.length ≤ 100000 := by rw [hl5, List.length_drop]; omega
 obtain ⟨T, hT⟩ : ∃ x, x = cutT l5 4000 := ⟨_, rfl⟩
 obtain ⟨R, hR⟩ : ∃ x, x = cutR l5 4000 := ⟨_, rfl⟩
 obtain ⟨is, his⟩ : ∃ x, x = cutIs l5 4000 := ⟨_, rfl⟩
 rw [← hx, ← hl5] at HT
 unfold arr at HT
 have HCUT := Lib.hid (show cutC l = (if is = true then match getC T with
   | none => none
   | some (c, r) => if r.length = 0 ∧ x = hashL (putC c) then some (c, R) else none
  else none) by unfold cutC; rw [if_pos h32, ← hl5, ← his, ← hT, ← hR, ← hx]; rfl)
 have HCT := Lib.hid (fun a n c w' (h : Rd w' a n c l5) (hn : n ≤ 100000) => cut_any a n c l5 4000 w' h (by omega) (by decide) (by decide))
 unfold CutP at HCT
 rw [← hT, ← hR, ← his] at HCT
 have hTl : T.length ≤ 100000 := by
  rw [hT]
  unfold cutT
  split
  ·rw [List.length_take, List.length_drop]; omega
  ·simp
 have HX := Lib.hid hx32
 clear h32 hx hl5 hT hR his hx32
 go_enter Tryz.func66, Tryz.ntmps66
 go_wp2_with fail
 refine HT.out.mono ?_
 rintro e w1 ⟨rfl, hr1, hp1⟩
 rename_i K9 hK9
 refine hK9 _ _ ?_
 clear hK9 K9
 refine wpList_new_store rfl rfl 48 2 (.tmp 12) rfl rfl rfl rfl (Bs zero32) (Bs x) (by kernel_rfl) (by simp) rfl (by rw [Bs_length, Bs_length, zero32_length, HX.out]) (info_x HX.out) (Bs_one x) ?_
 intro w2 hd hb2
 obtain ⟨b2, hbb⟩ : ∃ b, b = w1.heap.size := ⟨_, rfl⟩
 rw [← hbb] at hd ⊢
 have HA2 := Lib.hid hd
 have HR2 := Lib.hid (hr1.below hb2)
 have HO2 := Lib.hid ((HO.out.pastn hp1 HLT.out).below hb2)
 have HP2 := Lib.hid ((HP.out.trans hp1).step hb2)
 clear hr1 hp1 hd hb2 hbb HT HR HO HP
 obtain ⟨a5, c5, k1, k2, k3, k4⟩ := HR2.out
 obtain ⟨n5, hn5⟩ : ∃ n, n = l5.length := ⟨_, rfl⟩
 rw [← hn5] at k1 k2
 have HBR2 := Lib.hid k1
 have HRD2 := Lib.hid k2
 have p0 : w2.cell? ⟨br, 0, none⟩ = some (.slice a5 n5 c5) := k1.at 0 _ rfl
 have hn5l : n5 ≤ 100000 := by omega
 clear k1 k2 k3 k4 hn5
 go_wp2_with fail
 refine (HCT.out _ _ _ _ HRD2.out hn5l).mono ?_
 rintro e w3 ⟨vr, rfl, hor, hb⟩
 have hlo := fun k hk => (hor.lt k hk).1
 obtain ⟨ar, cr, rfl, hrr⟩ := Rd.of_own hor
 have hzr := own_none hor
 have HRR3 := Lib.hid (And.intro hrr (And.intro hzr (show ∀ y, ar = some y → w2.heap.size ≤ y.block from fun y hy => hlo y.block (by rw [hy]; rfl))))
 have HS3 := Lib.hid (show w2.heap.size ≤ w3.heap.size from hb.size)
 have HA3 := Lib.hid (HA2.out.step hb)
 have HBR3 := Lib.hid (HBR2.out.step hb)
 have HO3 := Lib.hid (HO2.out.below hb)
 have HP3 := Lib.hid (HP2.out.step hb)
 have HRW := Lib.hid (show ∀ g, (Value.slice ac cj cc).ownBlock = some g → g < w2.heap.size from fun g hg => (HO2.out.row.lt g hg).2)
 have HBRL := Lib.hid (show br < w2.heap.size from HBR2.out.lt)
 clear hlo hor hrr hzr hb p0 HA2 HBR2 HRD2 HO2 HP2 HCT HR2
 obtain ⟨nr, hnr⟩ : ∃ n, n = R.length := ⟨_, rfl⟩
 rw [← hnr] at HRR3 ⊢
 have HNR := Lib.hid hnr
 clear hnr
 cases is with
 | false =>
  have HN1 := Lib.hid (HNO.out (by rw [HCUT.out]; rfl))
  go_wp2_with fail
  refine (munless_no _).mono ?_
  rintro e w' ⟨rfl, rfl⟩
  go_wp2_with fail
  exact ⟨rfl, HN1.out _ HP3.out⟩
 | true =>
 have HC2 := Lib.hid (show cutC l = (match getC T with
   | none => none
   | some (c, r) => if r.length = 0 ∧ x = hashL (putC c) then some (c, R) else none) by rw [HCUT.out]; rfl)
 clear HCUT
 have hcv := Lib.run_convert_string_bytes (P := Tryz.prog) w3 9 28 5 ⟨T.toArray⟩ Tryz.underlying9 Tryz.underlying28 Tryz.underlying5
 have hr4 := Rd.of_textM w3 5 T (by omega)
 have hb4 : Below w3.heap.size w3 (Lib.bytesWorld w3 5 ⟨T.toArray⟩) := Lib.bytesWorld_below w3 5 ⟨T.toArray⟩
 generalize Lib.bytesWorld w3 5 ⟨T.toArray⟩ = w4 at *
 generalize grownCap w3 (ByteArray.mk T.toArray).size 0 5 = cap4 at *
 have hsz : (ByteArray.mk T.toArray).size = T.length := List.size_toArray
 rw [hsz] at hcv
 obtain ⟨nt, hnt⟩ : ∃ n, n = T.length := ⟨_, rfl⟩
 rw [← hnt] at hcv hr4
 obtain ⟨b4, hb4e⟩ : ∃ b, b = w3.heap.size := ⟨_, rfl⟩
 rw [← hb4e] at hcv hr4
 obtain ⟨sT, hsT⟩ : ∃ s : ByteArray, s = ⟨T.toArray⟩ := ⟨_, rfl⟩
 rw [← hsT] at hcv ⊢
 have HGET := Lib.hid (cget_fresh (some ⟨b4, 0, none⟩) nt cap4 T w4 hr4 (fun h => by cases h) (by omega))
 unfold CGetF at HGET
 have HA4 := Lib.hid (HA3.out.step hb4)
 have HBR4 := Lib.hid (HBR3.out.step hb4)
 have HO4 := Lib.hid (HO3.out.below hb4)
 have HP4 := Lib.hid (HP3.out.step hb4)
 have HRR4 := Lib.hid (And.intro (HRR3.out.1.below hb4) HRR3.out.2)
 have HS4 := Lib.hid (show w2.heap.size ≤ w4.heap.size from Nat.le_trans HS3.out hb4.size)
 have HSB4 := Lib.hid (show w0.heap.size ≤ w4.heap.size from HP4.out.size)
 clear hr4 hb4 hsz hnt hb4e hsT HA3 HBR3 HO3 HP3 HRR3 HS3
 go_wp2_with fail
 refine (munless_yes _).mono ?_
 rintro e w' ⟨rfl, rfl⟩
 cases hg : getC T with
 | none =>
  have HN1 := Lib.hid (HNO.out (by rw [HC2.out, hg]))
  simp only [hg] at HGET
  clear hg HC2 HNO
  go_wp2_with fail
  refine HGET.out.mono ?_
  rintro e w5 ⟨rfl, hb⟩
  have HP5 := Lib.hid (HP4.out.step hb)
  clear hb hcv
  unfold zeroC
  go_upto_region 4 with fail
  generalize hw6 : w5.alloc (.cells _ _) = w6
  have HP6 := Lib.hid (HP5.out.step (show Below w5.heap.size w5 w6 by rw [← hw6]; exact (Below.refl _ _).alloc (Nat.le_refl _) _))
  clear hw6
  go_wp2_with fail
  refine (munless_no _).mono ?_
  rintro e w' ⟨rfl, rfl⟩
  go_wp2_with fail
  exact ⟨rfl, HN1.out _ HP6.out⟩
 | some q =>
 obtain ⟨cm, r2⟩ := q
 have HC3 := Lib.hid (show cutC l = (if r2.length = 0 ∧ x = hashL (putC cm) then some (cm, R) else none) by rw [HC2.out, hg])
 simp only [hg] at HGET
 obtain ⟨hmay, _, h32c⟩ := getC_got hg
 have HHA := Lib.hid (fun w' pa pc (h : CmR w' cm pa pc) => show Calls Tryz.prog 19 #[cm.val pa pc] w' (fun e w'' => e = .returned (.tuple #[.agg (Bs (hashL (putC cm))).toArray, .int .i64 0]) ∧ Below w'.heap.size w' w'') by
  refine (chash_any cm pa pc w' h h32c).mono fun e w'' hp => ?_
  unfold CHashP at hp
  rw [if_pos hmay] at hp
  exact hp)
 obtain ⟨HS, hHS⟩ : ∃ X, X = hashL (putC cm) := ⟨_, rfl⟩
 have hhs32 : HS.length = 32 := by rw [hHS]; exact hashL_length _
 rw [← hHS] at HHA HC3
 obtain ⟨n2, hn2⟩ : ∃ n, n = r2.length := ⟨_, rfl⟩
 rw [← hn2] at HGET HC3
 clear hn2
 clear hg HC2 hmay h32c hHS
 unfold Cmt.val Cmt.cs at HGET HHA
 obtain ⟨n, hn⟩ : ∃ x, x = cm.par.length := ⟨_, rfl⟩
 obtain ⟨node, hnode⟩ : ∃ x, x = cm.node := ⟨_, rfl⟩
 obtain ⟨seq, hseq⟩ : ∃ x, x = cm.seq := ⟨_, rfl⟩
 obtain ⟨gen, hgen⟩ : ∃ x, x = cm.gen := ⟨_, rfl⟩
 obtain ⟨kind, hkind⟩ : ∃ x, x = cm.op.kind := ⟨_, rfl⟩
 obtain ⟨num, hnum⟩ : ∃ x, x = cm.op.num := ⟨_, rfl⟩
 obtain ⟨s1, hs1⟩ : ∃ s : ByteArray, s = ⟨cm.op.key.toArray⟩ := ⟨_, rfl⟩
 obtain ⟨s2, hs2⟩ : ∃ s : ByteArray, s = ⟨cm.op.elem.toArray⟩ := ⟨_, rfl⟩
 try rw [← hn] at HGET
 try rw [← hnode] at HGET
 try rw [← hseq] at HGET
 try rw [← hgen] at HGET
 try rw [← hkind] at HGET
 try rw [← hnum] at HGET
 try rw [← hs1] at HGET
 try rw [← hs2] at HGET
 try rw [← hn] at HHA
 try rw [← hnode] at HHA
 try rw [← hseq] at HHA
 try rw [← hgen] at HHA
 try rw [← hkind] at HHA
 try rw [← hnum] at HHA
 try rw [← hs1] at HHA
 try rw [← hs2] at HHA
 have HVAL2 := Lib.hid (show ∀ pa pc, cm.cs pa pc = [.int .i64 node, .int .i64 seq, .int .i64 gen, .slice pa n pc, .int .i64 kind, .string s1, .string s2, .int .i64 num] from fun pa pc => by unfold Cmt.cs; rw [hn, hnode, hseq, hgen, hkind, hnum, hs1, hs2])
 clear hn hnode hseq hgen hkind hnum hs1 hs2
 go_wp2_with fail
 refine HGET.out.mono ?_
 rintro e w5 ⟨pa, pc, a2, c2, rfl, hcm, hrd2, hz2, hb, hfr⟩
 have HM5 := Lib.hid hcm
 have HFR := Lib.hid hfr
 have HA5 := Lib.hid (HA4.out.step hb)
 have HBR5 := Lib.hid (HBR4.out.step hb)
 have HO5 := Lib.hid (HO4.out.below hb)
 have HP5 := Lib.hid (HP4.out.step hb)
 have HRR5 := Lib.hid (And.intro (HRR4.out.1.below hb) HRR4.out.2)
 have HS5 := Lib.hid (show w4.heap.size ≤ w5.heap.size from hb.size)
 clear hcm hrd2 hz2 hb hfr hcv HGET HA4 HBR4 HO4 HP4 HRR4
 go_upto_region 4 with fail
 generalize hw6 : w5.alloc (.cells _ _) = w6
 have hb6 : Below w5.heap.size w5 w6 := by rw [← hw6]; exact (Below.refl _ _).alloc (Nat.le_refl _) _
 obtain ⟨b6, hb6e⟩ : ∃ b, b = w5.heap.size := ⟨_, rfl⟩
 have HK6 := Lib.hid (show Cel w6 b6 41 [.int .i64 node, .int .i64 seq, .int .i64 gen, .slice pa n pc, .int .i64 kind, .string s1, .string s2, .int .i64 num] by rw [← hw6, hb6e]; exact Cel.new w5 _ _)
 rw [← hb6e]
 have HB6 := Lib.hid (show w2.heap.size ≤ b6 ∧ w0.heap.size ≤ b6 from ⟨by have := HS4.out; have := HS5.out; omega, by have := HSB4.out; have := HS5.out; omega⟩)
 have HM6 := Lib.hid (HM5.out.below hb6)
 have HA6 := Lib.hid (HA5.out.step hb6)
 have HBR6 := Lib.hid (HBR5.out.step hb6)
 have HO6 := Lib.hid (HO5.out.below hb6)
 have HP6 := Lib.hid (HP5.out.step hb6)
 have HRR6 := Lib.hid (And.intro (HRR5.out.1.below hb6) HRR5.out.2)
 clear hw6 hb6 hb6e HM5 HA5 HBR5 HO5 HP5 HRR5
 by_cases hn20 : n2 = 0
 case neg =>
  have hn2b : ((n2 : Int) == 0) = false := by simp; omega
  have HN1 := Lib.hid (HNO.out (by rw [HC3.out, if_neg (fun h => hn20 h.1)]))
  go_wp2_with fail
  refine (munless_no _).mono ?_
  rintro e w' ⟨rfl, rfl⟩
  go_wp2_with fail
  exact ⟨rfl, HN1.out _ HP6.out⟩
 subst hn20
 go_wp2_with fail
 refine (munless_yes _).mono ?_
 rintro e w' ⟨rfl, rfl⟩
 have p0 : w'.cell? ⟨b6, 0, none⟩ = some (.int .i64 node) := HK6.out.at 0 _ rfl
 have p1 : w'.cell? ⟨b6, 1, none⟩ = some (.int .i64 seq) := HK6.out.at 1 _ rfl
 have p2 : w'.cell? ⟨b6, 2, none⟩ = some (.int .i64 gen) := HK6.out.at 2 _ rfl
 have p3 : w'.cell? ⟨b6, 3, none⟩ = some (.slice pa n pc) := HK6.out.at 3 _ rfl
 have p4 : w'.cell? ⟨b6, 4, none⟩ = some (.int .i64 kind) := HK6.out.at 4 _ rfl
 have p5 : w'.cell? ⟨b6, 5, none⟩ = some (.string s1) := HK6.out.at 5 _ rfl
 have p6 : w'.cell? ⟨b6, 6, none⟩ = some (.string s2) := HK6.out.at 6 _ rfl
 have p7 : w'.cell? ⟨b6, 7, none⟩ = some (.int .i64 num) := HK6.out.at 7 _ rfl
 go_wp2_with fail
 refine (HHA.out _ _ _ HM6.out).mono ?_
 rintro e w7 ⟨rfl, hb⟩
 rename_i K9 hK9
 refine hK9 _ _ ?_
 clear hK9 K9
 iterate 8 go_step
 rename_i K9 hK9
 refine hK9 _ _ ?_
 clear hK9 K9
 refine wpList_new_store rfl rfl 48 9 (.tmp 42) rfl rfl rfl rfl (Bs zero32) (Bs HS) (by kernel_rfl) (by simp) rfl (by rw [Bs_length, Bs_length, zero32_length, hhs32]) (info_x hhs32) (Bs_one HS) ?_
 intro w8 hd hb2
 obtain ⟨b9, hbb⟩ : ∃ b, b = w7.heap.size := ⟨_, rfl⟩
 rw [← hbb] at hd ⊢
 have HH8 := Lib.hid hd
 have HK8 := Lib.hid ((HK6.out.step hb).step hb2)
 have HM8 := Lib.hid ((HM6.out.below hb).below hb2)
 have HA8 := Lib.hid ((HA6.out.step hb).step hb2)
 have HBR8 := Lib.hid ((HBR6.out.step hb).step hb2)
 have HO8 := Lib.hid ((HO6.out.below hb).below hb2)
 have HP8 := Lib.hid ((HP6.out.step hb).step hb2)
 have HRR8 := Lib.hid (And.intro ((HRR6.out.1.below hb).below hb2) HRR6.out.2)
 clear hd hb hb2 hbb HK6 HM6 HA6 HBR6 HO6 HP6 HRR6 HHA p0 p1 p2 p3 p4 p5 p6 p7
 have heq := eq_arr x HS HX.out hhs32 w8
 by_cases hxe : x = HS
 case neg =>
  rw [decide_eq_false hxe] at heq
  have HN1 := Lib.hid (HNO.out (by rw [HC3.out, if_neg (fun h => hxe h.2)]))
  go_wp2_with (first | (refine wpList_load_mid rfl 48 (.tmp 2) rfl b2 0 (by rfl) (Bs x) _ HA8.out.range under_ids rfl (info_x HX.out) ?_) | (refine wpList_load_mid rfl 48 (.tmp 9) rfl b9 0 (by rfl) (Bs HS) _ HH8.out.range under_ids rfl (info_x hhs32) ?_))
  refine (munless_no _).mono ?_
  rintro e w' ⟨rfl, rfl⟩
  go_wp2_with fail
  exact ⟨rfl, HN1.out _ HP8.out⟩
 rw [decide_eq_true hxe] at heq
 have HOK := Lib.hid (show cutC l = some (cm, R) by rw [HC3.out, if_pos (by simp [hxe])])
 clear hxe HC3
 go_wp2_with (first | (refine wpList_load_mid rfl 48 (.tmp 2) rfl b2 0 (by rfl) (Bs x) _ HA8.out.range under_ids rfl (info_x HX.out) ?_) | (refine wpList_load_mid rfl 48 (.tmp 9) rfl b9 0 (by rfl) (Bs HS) _ HH8.out.range under_ids rfl (info_x hhs32) ?_))
 refine (munless_yes _).mono ?_
 rintro e w' ⟨rfl, rfl⟩
 clear heq
 obtain ⟨j1, hj1⟩ : ∃ j1, j1 = cj + 1 := ⟨_, rfl⟩
 have HJ1 := Lib.hid hj1
 have HKC := Lib.hid (show Cel w' b6 41 (cm.cs pa pc) by rw [HVAL2.out]; exact HK8.out)
 have HS8 := Lib.hid (show br < w'.heap.size ∧ w0.heap.size ≤ w'.heap.size from ⟨HBR8.out.lt, HP8.out.size⟩)
 have HEND := Lib.hid (show ∀ wF a n ps', RdR (fun k => ∀ g, (Value.slice a j1 n).ownBlock = some g → k ≠ g) wF br 67 [kd, iv, .slice a j1 n] R → CmsO wF w0.heap.size a j1 n (L ++ [cm]) ps' → PastN w0 wF br → MCmP w0 br kd iv cj L l (.returned (.tuple #[])) wF from fun wF a n ps' h1 h2 h3 => by
  unfold MCmP
  rw [HOK.out]
  subst hj1
  exact ⟨rfl, a, n, ps', h1, h2, h3⟩)
 clear hj1
 go_upto_region 7 with fail
 have hD : ∀ j, j < 18 → ∀ n, n < 18 → j ≠ n → dkN [48, 49, 50, 51, 52, 53, 54, 55, 56, 57, 58, 59, 60, 1013, 61, 62, 63, 1017] j ≠ dkN [48, 49, 50, 51, 52, 53, 54, 55, 56, 57, 58, 59, 60, 1013, 61, 62, 63, 1017] n := by decide +kernel
 refine region_fun (by kernel_rfl) (by kernel_rfl) (fun gv => #[.pointer (some ⟨br, 0, none⟩), gv 1, gv 2, gv 3, .slice ar nr cr, gv 5, .pointer (some ⟨b6, 0, none⟩), gv 7, gv 8, gv 9, gv 10, gv 11, gv 12, gv 13, gv 14, gv 15, gv 16, gv 17, gv 18, gv 19, gv 20, gv 21, gv 22, gv 23, gv 24, gv 25, gv 26, gv 27, gv 28, gv 29, gv 30, gv 31, gv 32, gv 33, gv 34, gv 35, gv 36, gv 37, gv 38, gv 39, gv 40, gv 41, gv 42, gv 43, gv 44, gv 45, gv 46, gv 47, gv 48, gv 49, gv 50, gv 51, gv 52, gv 53, gv 54, gv 55, gv 56, gv 57, gv 58, gv 59, gv 60, gv 61, gv 62, gv 63]) rfl (fun f gv wx => True ∧ (∀ j, j < 18 → (fun j => Nat.beq j 9 || Nat.beq j 10 || Nat.beq j 13 || Nat.beq j 17) j = false → On f j → gv (dkN [48, 49, 50, 51, 52, 53, 54, 55, 56, 57, 58, 59, 60, 1013, 61, 62, 63, 1017] j) = vkN [.pointer (some ⟨br, 0, none⟩), .pointer (some ⟨br, 0, none⟩), .slice ar nr cr, .pointer (some ⟨br, 0, none⟩), .pointer (some ⟨br, 0, none⟩), .pointer (some ⟨br, 1, none⟩), .pointer (some ⟨br, 3, none⟩), .slice ac cj cc, .agg #[.int .i64 node, .int .i64 seq, .int .i64 gen, .slice pa n pc, .int .i64 kind, .string s1, .string s2, .int .i64 num], undef, undef, .pointer (some ⟨br, 0, none⟩), .pointer (some ⟨br, 0, none⟩), undef, .pointer (some ⟨br, 0, none⟩), .pointer (some ⟨br, 1, none⟩), .pointer (some ⟨br, 3, none⟩), undef] j) ∧ ((On f 9 → ∃ b, gv 57 = .slice (some ⟨b, 0, none⟩) 1 1 ∧ (On f 10 ∨ (b ≠ br ∧ Cel wx b 41 (cm.cs pa pc))))) ∧ ((On f 10 → ∃ a c, gv 58 = .slice a j1 c ∧ (On f 17 ∨ (CmsO wx w0.heap.size a j1 c (L ++ [cm]) (ps ++ [(pa, pc)]) ∧ ∀ g, rowOf a j1 c = some g → ∀ y, ar = some y → 0 < nr → y.block ≠ g)))) ∧ (∃ z0 z3, Cel wx br 67 [z0, kd, iv, z3] ∧ (On f 13 → z0 = .slice ar nr cr) ∧ (¬ On f 17 → z3 = .slice ac cj cc) ∧ (On f 17 → ∃ a c, z3 = .slice a j1 c ∧ CmsO wx w0.heap.size a j1 c (L ++ [cm]) (ps ++ [(pa, pc)]) ∧ ∀ g, rowOf a j1 c = some g → ∀ y, ar = some y → 0 < nr → y.block ≠ g)) ∧ ((¬ On f 10 → CmsO wx w0.heap.size ac cj cc L ps)) ∧ (Cel wx b6 41 (cm.cs pa pc)) ∧ ((¬ On f 10 → CmR wx cm pa pc)) ∧ (Rd wx ar nr cr R) ∧ (PastN w0 wx br) ∧ (w'.heap.size ≤ wx.heap.size) ∧ ((On f 9 → On f 7 ∨ True)) ∧ ((On f 10 → On f 7)) ∧ ((On f 17 → On f 7 ∧ On f 10))) ?_ ?_ ?_
 ·have hoff : ∀ j, ¬ On (Array.replicate 18 false) j := by
   intro j hj; simp only [On, Array.getD_eq_getD_getElem?, Array.getElem?_replicate] at hj; split at hj <;> simp at hj
  exact ⟨trivial, fun j _ _ x => absurd x (hoff _), fun x => absurd x (hoff _), fun x => absurd x (hoff _), ⟨_, _, HBR8.out, fun x => absurd x (hoff _), fun _ => rfl, fun x => absurd x (hoff _)⟩, fun _ => HO8.out.below (Below.refl _ _).drew, HKC.out, fun _ => HM8.out.below (Below.refl _ _).drew, HRR8.out.1.below (Below.refl _ _).drew, HP8.out.step (Below.refl _ _).drew, Nat.le_refl _, fun x => absurd x (hoff _), fun x => absurd x (hoff _), fun x => absurd x (hoff _)⟩
 ·rintro i' o' f gv wm hio hs' hn he ⟨hBx, P, Q9, Q10, RC, QC, QK, QM, RB, PW, SZ, D9, D10, D17⟩ KK hKK
  have hi' : i' < 18 := (Array.getElem?_eq_some_iff.1 hio).1
  replace hs' : f.size = 18 := hs'
  match i', hi' with
  | 0, _ =>
   cases hio
   have off : ¬ On f 0 := on_off (by omega) hn
   have HQ := Lib.hid (And.intro P (And.intro Q9 (And.intro Q10 (And.intro RC (And.intro QC (And.intro QK (And.intro QM (And.intro RB (And.intro PW (And.intro SZ (And.intro D9 (And.intro D10 D17))))))))))))
   clear P Q9 Q10 RC QC QK QM RB PW SZ D9 D10 D17
   go_simp
   obtain ⟨P, Q9, Q10, RC, QC, QK, QM, RB, PW, SZ, D9, D10, D17⟩ := HQ.out
   obtain ⟨bk, fw, fn⟩ := on3 (f := f) (i := 0) (by omega)
   exact hKK (upd gv 48 (.pointer (some ⟨br, 0, none⟩))) _ (by exact ⟨trivial, vals_step (n := 0) (v := .pointer (some ⟨br, 0, none⟩)) hD (by decide) (by omega) P (fun _ => rfl), fun x => by obtain ⟨b, e9, hb4⟩ := Q9 (bk 9 (by decide) x); exact ⟨_, e9, hb4.imp (fw 10) id⟩, fun x => by obtain ⟨an, cn, e9, hno⟩ := Q10 (bk 10 (by decide) x); exact ⟨_, _, e9, hno.imp (fw 17) id⟩, by obtain ⟨z0, z3, k1, k2, k3, k4⟩ := RC; exact ⟨z0, z3, k1, fun x => k2 (bk 13 (by decide) x), fun x => k3 (fun y => x (fw 17 y)), fun x => k4 (bk 17 (by decide) x)⟩, fun x => QC (fun y => x (fw 10 y)), QK, fun x => QM (fun y => x (fw 10 y)), RB, PW, SZ, fun _ => .inr trivial, fun x => fw 7 (D10 (bk 10 (by decide) x)), fun x => (D17 (bk 17 (by decide) x)).imp (fw 7) (fw 10)⟩)
  | 1, _ =>
   cases hio
   have off : ¬ On f 1 := on_off (by omega) hn
   have HQ := Lib.hid (And.intro P (And.intro Q9 (And.intro Q10 (And.intro RC (And.intro QC (And.intro QK (And.intro QM (And.intro RB (And.intro PW (And.intro SZ (And.intro D9 (And.intro D10 D17))))))))))))
   clear P Q9 Q10 RC QC QK QM RB PW SZ D9 D10 D17
   go_simp
   obtain ⟨P, Q9, Q10, RC, QC, QK, QM, RB, PW, SZ, D9, D10, D17⟩ := HQ.out
   obtain ⟨bk, fw, fn⟩ := on3 (f := f) (i := 1) (by omega)
   exact hKK (upd gv 49 (.pointer (some ⟨br, 0, none⟩))) _ (by exact ⟨trivial, vals_step (n := 1) (v := .pointer (some ⟨br, 0, none⟩)) hD (by decide) (by omega) P (fun _ => rfl), fun x => by obtain ⟨b, e9, hb4⟩ := Q9 (bk 9 (by decide) x); exact ⟨_, e9, hb4.imp (fw 10) id⟩, fun x => by obtain ⟨an, cn, e9, hno⟩ := Q10 (bk 10 (by decide) x); exact ⟨_, _, e9, hno.imp (fw 17) id⟩, by obtain ⟨z0, z3, k1, k2, k3, k4⟩ := RC; exact ⟨z0, z3, k1, fun x => k2 (bk 13 (by decide) x), fun x => k3 (fun y => x (fw 17 y)), fun x => k4 (bk 17 (by decide) x)⟩, fun x => QC (fun y => x (fw 10 y)), QK, fun x => QM (fun y => x (fw 10 y)), RB, PW, SZ, fun _ => .inr trivial, fun x => fw 7 (D10 (bk 10 (by decide) x)), fun x => (D17 (bk 17 (by decide) x)).imp (fw 7) (fw 10)⟩)
  | 2, _ =>
   cases hio
   have off : ¬ On f 2 := on_off (by omega) hn
   have HQ := Lib.hid (And.intro P (And.intro Q9 (And.intro Q10 (And.intro RC (And.intro QC (And.intro QK (And.intro QM (And.intro RB (And.intro PW (And.intro SZ (And.intro D9 (And.intro D10 D17))))))))))))
   clear P Q9 Q10 RC QC QK QM RB PW SZ D9 D10 D17
   go_simp
   obtain ⟨P, Q9, Q10, RC, QC, QK, QM, RB, PW, SZ, D9, D10, D17⟩ := HQ.out
   obtain ⟨bk, fw, fn⟩ := on3 (f := f) (i := 2) (by omega)
   exact hKK (upd gv 50 (.slice ar nr cr)) _ (by exact ⟨trivial, vals_step (n := 2) (v := .slice ar nr cr) hD (by decide) (by omega) P (fun _ => rfl), fun x => by obtain ⟨b, e9, hb4⟩ := Q9 (bk 9 (by decide) x); exact ⟨_, e9, hb4.imp (fw 10) id⟩, fun x => by obtain ⟨an, cn, e9, hno⟩ := Q10 (bk 10 (by decide) x); exact ⟨_, _, e9, hno.imp (fw 17) id⟩, by obtain ⟨z0, z3, k1, k2, k3, k4⟩ := RC; exact ⟨z0, z3, k1, fun x => k2 (bk 13 (by decide) x), fun x => k3 (fun y => x (fw 17 y)), fun x => k4 (bk 17 (by decide) x)⟩, fun x => QC (fun y => x (fw 10 y)), QK, fun x => QM (fun y => x (fw 10 y)), RB, PW, SZ, fun _ => .inr trivial, fun x => fw 7 (D10 (bk 10 (by decide) x)), fun x => (D17 (bk 17 (by decide) x)).imp (fw 7) (fw 10)⟩)
  | 3, _ =>
   cases hio
   have off : ¬ On f 3 := on_off (by omega) hn
   have HQ := Lib.hid (And.intro P (And.intro Q9 (And.intro Q10 (And.intro RC (And.intro QC (And.intro QK (And.intro QM (And.intro RB (And.intro PW (And.intro SZ (And.intro D9 (And.intro D10 D17))))))))))))
   clear P Q9 Q10 RC QC QK QM RB PW SZ D9 D10 D17
   go_simp
   obtain ⟨P, Q9, Q10, RC, QC, QK, QM, RB, PW, SZ, D9, D10, D17⟩ := HQ.out
   obtain ⟨bk, fw, fn⟩ := on3 (f := f) (i := 3) (by omega)
   exact hKK (upd gv 51 (.pointer (some ⟨br, 0, none⟩))) _ (by exact ⟨trivial, vals_step (n := 3) (v := .pointer (some ⟨br, 0, none⟩)) hD (by decide) (by omega) P (fun _ => rfl), fun x => by obtain ⟨b, e9, hb4⟩ := Q9 (bk 9 (by decide) x); exact ⟨_, e9, hb4.imp (fw 10) id⟩, fun x => by obtain ⟨an, cn, e9, hno⟩ := Q10 (bk 10 (by decide) x); exact ⟨_, _, e9, hno.imp (fw 17) id⟩, by obtain ⟨z0, z3, k1, k2, k3, k4⟩ := RC; exact ⟨z0, z3, k1, fun x => k2 (bk 13 (by decide) x), fun x => k3 (fun y => x (fw 17 y)), fun x => k4 (bk 17 (by decide) x)⟩, fun x => QC (fun y => x (fw 10 y)), QK, fun x => QM (fun y => x (fw 10 y)), RB, PW, SZ, fun _ => .inr trivial, fun x => fw 7 (D10 (bk 10 (by decide) x)), fun x => (D17 (bk 17 (by decide) x)).imp (fw 7) (fw 10)⟩)
  | 4, _ =>
   cases hio
   have off : ¬ On f 4 := on_off (by omega) hn
   have h3 : On f 3 := he ⟨3, .data⟩ (by simp) rfl
   have e3 : gv 51 = .pointer (some ⟨br, 0, none⟩) := P 3 (by decide) rfl h3
   rw [e3]
   have HQ := Lib.hid (And.intro P (And.intro Q9 (And.intro Q10 (And.intro RC (And.intro QC (And.intro QK (And.intro QM (And.intro RB (And.intro PW (And.intro SZ (And.intro D9 (And.intro D10 D17))))))))))))
   clear P Q9 Q10 RC QC QK QM RB PW SZ D9 D10 D17
   go_simp
   obtain ⟨P, Q9, Q10, RC, QC, QK, QM, RB, PW, SZ, D9, D10, D17⟩ := HQ.out
   obtain ⟨bk, fw, fn⟩ := on3 (f := f) (i := 4) (by omega)
   exact hKK (upd (upd gv 51 (.pointer (some ⟨br, 0, none⟩))) 52 (.pointer (some ⟨br, 0, none⟩))) _ (by rw [upd_same e3]; exact ⟨trivial, vals_step (n := 4) (v := .pointer (some ⟨br, 0, none⟩)) hD (by decide) (by omega) P (fun _ => rfl), fun x => by obtain ⟨b, e9, hb4⟩ := Q9 (bk 9 (by decide) x); exact ⟨_, e9, hb4.imp (fw 10) id⟩, fun x => by obtain ⟨an, cn, e9, hno⟩ := Q10 (bk 10 (by decide) x); exact ⟨_, _, e9, hno.imp (fw 17) id⟩, by obtain ⟨z0, z3, k1, k2, k3, k4⟩ := RC; exact ⟨z0, z3, k1, fun x => k2 (bk 13 (by decide) x), fun x => k3 (fun y => x (fw 17 y)), fun x => k4 (bk 17 (by decide) x)⟩, fun x => QC (fun y => x (fw 10 y)), QK, fun x => QM (fun y => x (fw 10 y)), RB, PW, SZ, fun _ => .inr trivial, fun x => fw 7 (D10 (bk 10 (by decide) x)), fun x => (D17 (bk 17 (by decide) x)).imp (fw 7) (fw 10)⟩)
  | 5, _ =>
   cases hio
   have off : ¬ On f 5 := on_off (by omega) hn
   have h4 : On f 4 := he ⟨4, .data⟩ (by simp) rfl
   have e4 : gv 52 = .pointer (some ⟨br, 0, none⟩) := P 4 (by decide) rfl h4
   rw [e4]
   have HQ := Lib.hid (And.intro P (And.intro Q9 (And.intro Q10 (And.intro RC (And.intro QC (And.intro QK (And.intro QM (And.intro RB (And.intro PW (And.intro SZ (And.intro D9 (And.intro D10 D17))))))))))))
   clear P Q9 Q10 RC QC QK QM RB PW SZ D9 D10 D17
   go_simp
   obtain ⟨P, Q9, Q10, RC, QC, QK, QM, RB, PW, SZ, D9, D10, D17⟩ := HQ.out
   obtain ⟨bk, fw, fn⟩ := on3 (f := f) (i := 5) (by omega)
   exact hKK (upd (upd gv 52 (.pointer (some ⟨br, 0, none⟩))) 53 (.pointer (some ⟨br, 1, none⟩))) _ (by rw [upd_same e4]; exact ⟨trivial, vals_step (n := 5) (v := .pointer (some ⟨br, 1, none⟩)) hD (by decide) (by omega) P (fun _ => rfl), fun x => by obtain ⟨b, e9, hb4⟩ := Q9 (bk 9 (by decide) x); exact ⟨_, e9, hb4.imp (fw 10) id⟩, fun x => by obtain ⟨an, cn, e9, hno⟩ := Q10 (bk 10 (by decide) x); exact ⟨_, _, e9, hno.imp (fw 17) id⟩, by obtain ⟨z0, z3, k1, k2, k3, k4⟩ := RC; exact ⟨z0, z3, k1, fun x => k2 (bk 13 (by decide) x), fun x => k3 (fun y => x (fw 17 y)), fun x => k4 (bk 17 (by decide) x)⟩, fun x => QC (fun y => x (fw 10 y)), QK, fun x => QM (fun y => x (fw 10 y)), RB, PW, SZ, fun _ => .inr trivial, fun x => fw 7 (D10 (bk 10 (by decide) x)), fun x => (D17 (bk 17 (by decide) x)).imp (fw 7) (fw 10)⟩)
  | 6, _ =>
   cases hio
   have off : ¬ On f 6 := on_off (by omega) hn
   have h5 : On f 5 := he ⟨5, .data⟩ (by simp) rfl
   have e5 : gv 53 = .pointer (some ⟨br, 1, none⟩) := P 5 (by decide) rfl h5
   rw [e5]
   have HQ := Lib.hid (And.intro P (And.intro Q9 (And.intro Q10 (And.intro RC (And.intro QC (And.intro QK (And.intro QM (And.intro RB (And.intro PW (And.intro SZ (And.intro D9 (And.intro D10 D17))))))))))))
   clear P Q9 Q10 RC QC QK QM RB PW SZ D9 D10 D17
   go_simp
   obtain ⟨P, Q9, Q10, RC, QC, QK, QM, RB, PW, SZ, D9, D10, D17⟩ := HQ.out
   obtain ⟨bk, fw, fn⟩ := on3 (f := f) (i := 6) (by omega)
   exact hKK (upd (upd gv 53 (.pointer (some ⟨br, 1, none⟩))) 54 (.pointer (some ⟨br, 3, none⟩))) _ (by rw [upd_same e5]; exact ⟨trivial, vals_step (n := 6) (v := .pointer (some ⟨br, 3, none⟩)) hD (by decide) (by omega) P (fun _ => rfl), fun x => by obtain ⟨b, e9, hb4⟩ := Q9 (bk 9 (by decide) x); exact ⟨_, e9, hb4.imp (fw 10) id⟩, fun x => by obtain ⟨an, cn, e9, hno⟩ := Q10 (bk 10 (by decide) x); exact ⟨_, _, e9, hno.imp (fw 17) id⟩, by obtain ⟨z0, z3, k1, k2, k3, k4⟩ := RC; exact ⟨z0, z3, k1, fun x => k2 (bk 13 (by decide) x), fun x => k3 (fun y => x (fw 17 y)), fun x => k4 (bk 17 (by decide) x)⟩, fun x => QC (fun y => x (fw 10 y)), QK, fun x => QM (fun y => x (fw 10 y)), RB, PW, SZ, fun _ => .inr trivial, fun x => fw 7 (D10 (bk 10 (by decide) x)), fun x => (D17 (bk 17 (by decide) x)).imp (fw 7) (fw 10)⟩)
  | 7, _ =>
   cases hio
   have off : ¬ On f 7 := on_off (by omega) hn
   have h6 : On f 6 := he ⟨6, .data⟩ (by simp) rfl
   have e6 : gv 54 = .pointer (some ⟨br, 3, none⟩) := P 6 (by decide) rfl h6
   have RC2 := RC
   obtain ⟨z0, z3, hz1, _, hz3, _⟩ := RC2
   obtain rfl := hz3 (fun y => off (D17 y).1)
   have d0 : wm.cell? ⟨br, 3, none⟩ = some (.slice ac cj cc) := hz1.at 3 _ rfl
   rw [e6]
   have HQ := Lib.hid (And.intro P (And.intro Q9 (And.intro Q10 (And.intro RC (And.intro QC (And.intro QK (And.intro QM (And.intro RB (And.intro PW (And.intro SZ (And.intro D9 (And.intro D10 D17))))))))))))
   clear P Q9 Q10 RC QC QK QM RB PW SZ D9 D10 D17
   go_simp
   obtain ⟨P, Q9, Q10, RC, QC, QK, QM, RB, PW, SZ, D9, D10, D17⟩ := HQ.out
   obtain ⟨bk, fw, fn⟩ := on3 (f := f) (i := 7) (by omega)
   exact hKK (upd (upd gv 54 (.pointer (some ⟨br, 3, none⟩))) 55 (.slice ac cj cc)) _ (by rw [upd_same e6]; exact ⟨trivial, vals_step (n := 7) (v := .slice ac cj cc) hD (by decide) (by omega) P (fun _ => rfl), fun x => by obtain ⟨b, e9, hb4⟩ := Q9 (bk 9 (by decide) x); exact ⟨_, e9, hb4.imp (fw 10) id⟩, fun x => by obtain ⟨an, cn, e9, hno⟩ := Q10 (bk 10 (by decide) x); exact ⟨_, _, e9, hno.imp (fw 17) id⟩, by obtain ⟨z0, z3, k1, k2, k3, k4⟩ := RC; exact ⟨z0, z3, k1, fun x => k2 (bk 13 (by decide) x), fun x => k3 (fun y => x (fw 17 y)), fun x => k4 (bk 17 (by decide) x)⟩, fun x => QC (fun y => x (fw 10 y)), QK, fun x => QM (fun y => x (fw 10 y)), RB, PW, SZ, fun _ => .inr trivial, fun x => fw 7 (D10 (bk 10 (by decide) x)), fun x => (D17 (bk 17 (by decide) x)).imp (fw 7) (fw 10)⟩)
  | 8, _ =>
   cases hio
   have off : ¬ On f 8 := on_off (by omega) hn
   have d0 : wm.cell? ⟨b6, 0, none⟩ = some (.int .i64 node) := (show Cel wm b6 41 [.int .i64 node, .int .i64 seq, .int .i64 gen, .slice pa n pc, .int .i64 kind, .string s1, .string s2, .int .i64 num] by rw [← HVAL2.out]; exact QK).at 0 _ rfl
   have d1 : wm.cell? ⟨b6, 1, none⟩ = some (.int .i64 seq) := (show Cel wm b6 41 [.int .i64 node, .int .i64 seq, .int .i64 gen, .slice pa n pc, .int .i64 kind, .string s1, .string s2, .int .i64 num] by rw [← HVAL2.out]; exact QK).at 1 _ rfl
   have d2 : wm.cell? ⟨b6, 2, none⟩ = some (.int .i64 gen) := (show Cel wm b6 41 [.int .i64 node, .int .i64 seq, .int .i64 gen, .slice pa n pc, .int .i64 kind, .string s1, .string s2, .int .i64 num] by rw [← HVAL2.out]; exact QK).at 2 _ rfl
   have d3 : wm.cell? ⟨b6, 3, none⟩ = some (.slice pa n pc) := (show Cel wm b6 41 [.int .i64 node, .int .i64 seq, .int .i64 gen, .slice pa n pc, .int .i64 kind, .string s1, .string s2, .int .i64 num] by rw [← HVAL2.out]; exact QK).at 3 _ rfl
   have d4 : wm.cell? ⟨b6, 4, none⟩ = some (.int .i64 kind) := (show Cel wm b6 41 [.int .i64 node, .int .i64 seq, .int .i64 gen, .slice pa n pc, .int .i64 kind, .string s1, .string s2, .int .i64 num] by rw [← HVAL2.out]; exact QK).at 4 _ rfl
   have d5 : wm.cell? ⟨b6, 5, none⟩ = some (.string s1) := (show Cel wm b6 41 [.int .i64 node, .int .i64 seq, .int .i64 gen, .slice pa n pc, .int .i64 kind, .string s1, .string s2, .int .i64 num] by rw [← HVAL2.out]; exact QK).at 5 _ rfl
   have d6 : wm.cell? ⟨b6, 6, none⟩ = some (.string s2) := (show Cel wm b6 41 [.int .i64 node, .int .i64 seq, .int .i64 gen, .slice pa n pc, .int .i64 kind, .string s1, .string s2, .int .i64 num] by rw [← HVAL2.out]; exact QK).at 6 _ rfl
   have d7 : wm.cell? ⟨b6, 7, none⟩ = some (.int .i64 num) := (show Cel wm b6 41 [.int .i64 node, .int .i64 seq, .int .i64 gen, .slice pa n pc, .int .i64 kind, .string s1, .string s2, .int .i64 num] by rw [← HVAL2.out]; exact QK).at 7 _ rfl
   have HQ := Lib.hid (And.intro P (And.intro Q9 (And.intro Q10 (And.intro RC (And.intro QC (And.intro QK (And.intro QM (And.intro RB (And.intro PW (And.intro SZ (And.intro D9 (And.intro D10 D17))))))))))))
   clear P Q9 Q10 RC QC QK QM RB PW SZ D9 D10 D17
   go_simp
   obtain ⟨P, Q9, Q10, RC, QC, QK, QM, RB, PW, SZ, D9, D10, D17⟩ := HQ.out
   obtain ⟨bk, fw, fn⟩ := on3 (f := f) (i := 8) (by omega)
   exact hKK (upd gv 56 (.agg #[.int .i64 node, .int .i64 seq, .int .i64 gen, .slice pa n pc, .int .i64 kind, .string s1, .string s2, .int .i64 num])) _ (by exact ⟨trivial, vals_step (n := 8) (v := .agg #[.int .i64 node, .int .i64 seq, .int .i64 gen, .slice pa n pc, .int .i64 kind, .string s1, .string s2, .int .i64 num]) hD (by decide) (by omega) P (fun _ => rfl), fun x => by obtain ⟨b, e9, hb4⟩ := Q9 (bk 9 (by decide) x); exact ⟨_, e9, hb4.imp (fw 10) id⟩, fun x => by obtain ⟨an, cn, e9, hno⟩ := Q10 (bk 10 (by decide) x); exact ⟨_, _, e9, hno.imp (fw 17) id⟩, by obtain ⟨z0, z3, k1, k2, k3, k4⟩ := RC; exact ⟨z0, z3, k1, fun x => k2 (bk 13 (by decide) x), fun x => k3 (fun y => x (fw 17 y)), fun x => k4 (bk 17 (by decide) x)⟩, fun x => QC (fun y => x (fw 10 y)), QK, fun x => QM (fun y => x (fw 10 y)), RB, PW, SZ, fun _ => .inr trivial, fun x => fw 7 (D10 (bk 10 (by decide) x)), fun x => (D17 (bk 17 (by decide) x)).imp (fw 7) (fw 10)⟩)
  | 9, _ =>
   cases hio
   have off : ¬ On f 9 := on_off (by omega) hn
   have h8 : On f 8 := he ⟨8, .data⟩ (by simp) rfl
   have e8 : gv 56 = .agg #[.int .i64 node, .int .i64 seq, .int .i64 gen, .slice pa n pc, .int .i64 kind, .string s1, .string s2, .int .i64 num] := P 8 (by decide) rfl h8
   have hS0 := SZ
   have hBRS := HBRL.out
   have hBRT := HS8.out
   rw [e8]
   have HQ := Lib.hid (And.intro P (And.intro Q9 (And.intro Q10 (And.intro RC (And.intro QC (And.intro QK (And.intro QM (And.intro RB (And.intro PW (And.intro SZ (And.intro D9 (And.intro D10 D17))))))))))))
   clear P Q9 Q10 RC QC QK QM RB PW SZ D9 D10 D17
   obtain ⟨i0, hi0z, hz0, hz1, _⟩ := info_parts info_cmz
   refine one_slice_at (by rfl) 23 41 (.tmp 56) rfl [.int .i64 node, .int .i64 seq, .int .i64 gen, .slice pa n pc, .int .i64 kind, .string s1, .string s2, .int .i64 num] (by rfl) i0 _ Tryz.underlying23 hi0z hz0 (by rw [hz1]; rfl) (by simp) (by simp) ?_
   simp only [Act.put, List.setIfInBounds_toArray]
   obtain ⟨b, hbb⟩ : ∃ b, b = wm.heap.size := ⟨_, rfl⟩
   obtain ⟨w6, hw6⟩ : ∃ w6, w6 = wm.alloc (.cells ([.int .i64 node, .int .i64 seq, .int .i64 gen, .slice pa n pc, .int .i64 kind, .string s1, .string s2, .int .i64 num] : List Value).toArray 41) := ⟨_, rfl⟩
   have hb : Below wm.heap.size wm w6 := by rw [hw6]; exact (Below.refl _ _).alloc (Nat.le_refl _) _
   have hcb : Cel w6 b 41 [.int .i64 node, .int .i64 seq, .int .i64 gen, .slice pa n pc, .int .i64 kind, .string s1, .string s2, .int .i64 num] := by rw [hw6, hbb]; exact Cel.new wm _ _
   rw [← hbb, ← hw6]
   have hbne : b ≠ br := by omega
   have hcb2 : Cel w6 b 41 (cm.cs pa pc) := by rw [HVAL2.out]; exact hcb
   obtain ⟨P, Q9, Q10, RC, QC, QK, QM, RB, PW, SZ, D9, D10, D17⟩ := HQ.out
   obtain ⟨bk, fw, fn⟩ := on3 (f := f) (i := 9) (by omega)
   exact hKK (upd (upd gv 56 (.agg #[.int .i64 node, .int .i64 seq, .int .i64 gen, .slice pa n pc, .int .i64 kind, .string s1, .string s2, .int .i64 num])) 57 (.slice (some ⟨b, 0, none⟩) 1 1)) _ (by rw [upd_same e8]; exact ⟨trivial, vals_step (n := 9) (v := .slice (some ⟨b, 0, none⟩) 1 1) hD (by decide) (by omega) P (fun h => nomatch (show true = false from h)), fun _ => ⟨b, rfl, .inr ⟨hbne, hcb2⟩⟩, fun x => by obtain ⟨an, cn, e9, hno⟩ := Q10 (bk 10 (by decide) x); exact ⟨_, _, e9, hno.imp (fw 17) (fun h => ⟨h.1.below hb, h.2⟩)⟩, by obtain ⟨z0, z3, k1, k2, k3, k4⟩ := RC; exact ⟨z0, z3, k1.step hb, fun x => k2 (bk 13 (by decide) x), fun x => k3 (fun y => x (fw 17 y)), fun x => by obtain ⟨a, c, g1, g2, g3⟩ := k4 (bk 17 (by decide) x); exact ⟨a, c, g1, g2.below hb, g3⟩⟩, fun x => (QC (fun y => x (fw 10 y))).below hb, QK.step hb, fun x => (QM (fun y => x (fw 10 y))).below hb, RB.below hb, PW.step hb, Nat.le_trans SZ hb.size, fun _ => .inr trivial, fun x => fw 7 (D10 (bk 10 (by decide) x)), fun x => (D17 (bk 17 (by decide) x)).imp (fw 7) (fw 10)⟩)
  | 10, _ =>
   cases hio
   have off : ¬ On f 10 := on_off (by omega) hn
   have h7 : On f 7 := he ⟨7, .data⟩ (by simp) rfl
   have e7 : gv 55 = .slice ac cj cc := P 7 (by decide) rfl h7
   have h9 : On f 9 := he ⟨9, .data⟩ (by simp) rfl
   obtain ⟨b, e9, hb4⟩ := Q9 h9
   have hc4 := hb4.resolve_left off
   have hQ1 := QC off
   have hS0 := SZ
   have hLT := HLT.out
   obtain ⟨an, cn, w6, hrun, hown, hg, hk⟩ := app_cm hQ1 hc4.2 (QM off) (fun hn y hy => ⟨Nat.le_trans HSB4.out (HFR.out y hy), fun k hk e => by have h1 := HFR.out y hy; have h2 := HRW.out k hk; have h3 := HS4.out; omega⟩) (by omega) (Nat.le_trans HS8.out.2 hS0)
   have hnew2 : ∀ g, (Value.slice an (cj + 1) cn).ownBlock = some g → ∀ y, ar = some y → 0 < nr → y.block ≠ g := fun g hg y hy hp e => by
    rcases hk g hg with h1 | h1
    ·have h2 := HRW.out g h1; have h3 := HRR8.out.2.2 y hy; omega
    ·have h2 := RB.lt hp y hy; omega
   rw [← HJ1.out] at hrun hown hnew2
   rw [e7, e9]
   have HQ := Lib.hid (And.intro P (And.intro Q9 (And.intro Q10 (And.intro RC (And.intro QC (And.intro QK (And.intro QM (And.intro RB (And.intro PW (And.intro SZ (And.intro D9 (And.intro D10 D17))))))))))))
   clear P Q9 Q10 RC QC QK QM RB PW SZ D9 D10 D17
   refine app_run_at (by rfl) (.tmp 55) (.tmp 57) 23 rfl (by rfl) (by rfl) hrun ?_
   simp only [Act.put, List.setIfInBounds_toArray]
   obtain ⟨P, Q9, Q10, RC, QC, QK, QM, RB, PW, SZ, D9, D10, D17⟩ := HQ.out
   obtain ⟨bk, fw, fn⟩ := on3 (f := f) (i := 10) (by omega)
   exact hKK (upd (upd (upd gv 55 (.slice ac cj cc)) 57 (.slice (some ⟨b, 0, none⟩) 1 1)) 58 (.slice an j1 cn)) _ (by rw [upd_same e7]; rw [upd_same e9]; exact ⟨trivial, vals_step (n := 10) (v := .slice an j1 cn) hD (by decide) (by omega) P (fun h => nomatch (show true = false from h)), fun x => by obtain ⟨b, e9, hb4⟩ := Q9 (bk 9 (by decide) x); exact ⟨_, e9, .inl fn⟩, fun _ => ⟨an, cn, rfl, .inr ⟨hown, hnew2⟩⟩, by obtain ⟨z0, z3, k1, k2, k3, k4⟩ := RC; exact ⟨z0, z3, k1.grown hg (fun k hk => Nat.lt_of_lt_of_le hLT (hQ1.row.lt k hk).1), fun x => k2 (bk 13 (by decide) x), fun x => k3 (fun y => x (fw 17 y)), fun x => absurd (D17 (bk 17 (by decide) x)).2 off⟩, fun x => absurd fn x, QK.grownb hg (fun k hk => by have h1 := HRW.out k hk; have h2 := HB6.out.1; omega), fun x => absurd fn x, RB.grownb hg (fun k hk y hy => by have h1 := HRW.out k hk; have h2 := HRR8.out.2.2 y hy; omega), PW.grown hg (fun k hk => (hQ1.row.lt k hk).1), Nat.le_trans SZ hg.size, fun _ => .inr trivial, fun _ => fw 7 h7, fun x => (D17 (bk 17 (by decide) x)).imp (fw 7) (fw 10)⟩)
  | 11, _ =>
   cases hio
   have off : ¬ On f 11 := on_off (by omega) hn
   have h0 : On f 0 := he ⟨0, .data⟩ (by simp) rfl
   have e0 : gv 48 = .pointer (some ⟨br, 0, none⟩) := P 0 (by decide) rfl h0
   rw [e0]
   have HQ := Lib.hid (And.intro P (And.intro Q9 (And.intro Q10 (And.intro RC (And.intro QC (And.intro QK (And.intro QM (And.intro RB (And.intro PW (And.intro SZ (And.intro D9 (And.intro D10 D17))))))))))))
   clear P Q9 Q10 RC QC QK QM RB PW SZ D9 D10 D17
   go_simp
   obtain ⟨P, Q9, Q10, RC, QC, QK, QM, RB, PW, SZ, D9, D10, D17⟩ := HQ.out
   obtain ⟨bk, fw, fn⟩ := on3 (f := f) (i := 11) (by omega)
   exact hKK (upd (upd gv 48 (.pointer (some ⟨br, 0, none⟩))) 59 (.pointer (some ⟨br, 0, none⟩))) _ (by rw [upd_same e0]; exact ⟨trivial, vals_step (n := 11) (v := .pointer (some ⟨br, 0, none⟩)) hD (by decide) (by omega) P (fun _ => rfl), fun x => by obtain ⟨b, e9, hb4⟩ := Q9 (bk 9 (by decide) x); exact ⟨_, e9, hb4.imp (fw 10) id⟩, fun x => by obtain ⟨an, cn, e9, hno⟩ := Q10 (bk 10 (by decide) x); exact ⟨_, _, e9, hno.imp (fw 17) id⟩, by obtain ⟨z0, z3, k1, k2, k3, k4⟩ := RC; exact ⟨z0, z3, k1, fun x => k2 (bk 13 (by decide) x), fun x => k3 (fun y => x (fw 17 y)), fun x => k4 (bk 17 (by decide) x)⟩, fun x => QC (fun y => x (fw 10 y)), QK, fun x => QM (fun y => x (fw 10 y)), RB, PW, SZ, fun _ => .inr trivial, fun x => fw 7 (D10 (bk 10 (by decide) x)), fun x => (D17 (bk 17 (by decide) x)).imp (fw 7) (fw 10)⟩)
  | 12, _ =>
   cases hio
   have off : ¬ On f 12 := on_off (by omega) hn
   have h11 : On f 11 := he ⟨11, .data⟩ (by simp) rfl
   have e11 : gv 59 = .pointer (some ⟨br, 0, none⟩) := P 11 (by decide) rfl h11
   rw [e11]
   have HQ := Lib.hid (And.intro P (And.intro Q9 (And.intro Q10 (And.intro RC (And.intro QC (And.intro QK (And.intro QM (And.intro RB (And.intro PW (And.intro SZ (And.intro D9 (And.intro D10 D17))))))))))))
   clear P Q9 Q10 RC QC QK QM RB PW SZ D9 D10 D17
   go_simp
   obtain ⟨P, Q9, Q10, RC, QC, QK, QM, RB, PW, SZ, D9, D10, D17⟩ := HQ.out
   obtain ⟨bk, fw, fn⟩ := on3 (f := f) (i := 12) (by omega)
   exact hKK (upd (upd gv 59 (.pointer (some ⟨br, 0, none⟩))) 60 (.pointer (some ⟨br, 0, none⟩))) _ (by rw [upd_same e11]; exact ⟨trivial, vals_step (n := 12) (v := .pointer (some ⟨br, 0, none⟩)) hD (by decide) (by omega) P (fun _ => rfl), fun x => by obtain ⟨b, e9, hb4⟩ := Q9 (bk 9 (by decide) x); exact ⟨_, e9, hb4.imp (fw 10) id⟩, fun x => by obtain ⟨an, cn, e9, hno⟩ := Q10 (bk 10 (by decide) x); exact ⟨_, _, e9, hno.imp (fw 17) id⟩, by obtain ⟨z0, z3, k1, k2, k3, k4⟩ := RC; exact ⟨z0, z3, k1, fun x => k2 (bk 13 (by decide) x), fun x => k3 (fun y => x (fw 17 y)), fun x => k4 (bk 17 (by decide) x)⟩, fun x => QC (fun y => x (fw 10 y)), QK, fun x => QM (fun y => x (fw 10 y)), RB, PW, SZ, fun _ => .inr trivial, fun x => fw 7 (D10 (bk 10 (by decide) x)), fun x => (D17 (bk 17 (by decide) x)).imp (fw 7) (fw 10)⟩)
  | 13, _ =>
   cases hio
   have off : ¬ On f 13 := on_off (by omega) hn
   have h2 : On f 2 := he ⟨2, .data⟩ (by simp) rfl
   have e2 : gv 50 = .slice ar nr cr := P 2 (by decide) rfl h2
   have h12 : On f 12 := he ⟨12, .data⟩ (by simp) rfl
   have e12 : gv 60 = .pointer (some ⟨br, 0, none⟩) := P 12 (by decide) rfl h12
   have RC2 := RC
   obtain ⟨z0, z3, hz1, hz2, hz3, hz4⟩ := RC2
   have d0 : wm.cell? ⟨br, 0, none⟩ = some z0 := hz1.at 0 _ rfl
   have d1 : wm.frozen? ⟨br, 0, none⟩ = false := hz1.free 0
   have hcz := hz1.set 0 (.slice ar nr cr)
   have ho6 := only_set wm br 0 (.slice ar nr cr)
   have hLT := HLT.out
   have hbrl := HBRL.out
   rw [e2, e12]
   have HQ := Lib.hid (And.intro P (And.intro Q9 (And.intro Q10 (And.intro RC (And.intro QC (And.intro QK (And.intro QM (And.intro RB (And.intro PW (And.intro SZ (And.intro D9 (And.intro D10 D17))))))))))))
   clear P Q9 Q10 RC QC QK QM RB PW SZ D9 D10 D17
   go_simp
   obtain ⟨P, Q9, Q10, RC, QC, QK, QM, RB, PW, SZ, D9, D10, D17⟩ := HQ.out
   obtain ⟨bk, fw, fn⟩ := on3 (f := f) (i := 13) (by omega)
   exact hKK (upd (upd gv 50 (.slice ar nr cr)) 60 (.pointer (some ⟨br, 0, none⟩))) _ (by rw [upd_same e2]; rw [upd_same e12]; exact ⟨trivial, vals_keep (n := 13) (by omega) rfl P, fun x => by obtain ⟨b, e9, hb4⟩ := Q9 (bk 9 (by decide) x); exact ⟨_, e9, hb4.imp (fw 10) (fun h => ⟨h.1, ho6.heap h.2 h.1⟩)⟩, fun x => by obtain ⟨an, cn, e9, hno⟩ := Q10 (bk 10 (by decide) x); exact ⟨_, _, e9, hno.imp (fw 17) (fun h => ⟨h.1.pastn (PastN.of_only ho6) hLT, h.2⟩)⟩, ⟨_, z3, hcz, fun _ => rfl, fun x => hz3 (fun y => x (fw 17 y)), fun x => by obtain ⟨a, c, g1, g2, g3⟩ := hz4 (bk 17 (by decide) x); exact ⟨a, c, g1, g2.pastn (PastN.of_only ho6) hLT, g3⟩⟩, fun x => (QC (fun y => x (fw 10 y))).pastn (PastN.of_only ho6) hLT, ho6.heap QK (by have := HB6.out.1; omega), fun x => CmR.moved (QM (fun y => x (fw 10 y))) ho6 (fun y hy => by have := HFR.out y hy; have := HS4.out; omega), RB.only' ho6 (fun y hy hp => by have := HRR8.out.2.2 y hy; omega), PW.only ho6, by rw [ho6.size]; exact SZ, fun _ => .inr trivial, fun x => fw 7 (D10 (bk 10 (by decide) x)), fun x => (D17 (bk 17 (by decide) x)).imp (fw 7) (fw 10)⟩)
  | 14, _ =>
   cases hio
   have off : ¬ On f 14 := on_off (by omega) hn
   have h1 : On f 1 := he ⟨1, .data⟩ (by simp) rfl
   have e1 : gv 49 = .pointer (some ⟨br, 0, none⟩) := P 1 (by decide) rfl h1
   rw [e1]
   have HQ := Lib.hid (And.intro P (And.intro Q9 (And.intro Q10 (And.intro RC (And.intro QC (And.intro QK (And.intro QM (And.intro RB (And.intro PW (And.intro SZ (And.intro D9 (And.intro D10 D17))))))))))))
   clear P Q9 Q10 RC QC QK QM RB PW SZ D9 D10 D17
   go_simp
   obtain ⟨P, Q9, Q10, RC, QC, QK, QM, RB, PW, SZ, D9, D10, D17⟩ := HQ.out
   obtain ⟨bk, fw, fn⟩ := on3 (f := f) (i := 14) (by omega)
   exact hKK (upd (upd gv 49 (.pointer (some ⟨br, 0, none⟩))) 61 (.pointer (some ⟨br, 0, none⟩))) _ (by rw [upd_same e1]; exact ⟨trivial, vals_step (n := 14) (v := .pointer (some ⟨br, 0, none⟩)) hD (by decide) (by omega) P (fun _ => rfl), fun x => by obtain ⟨b, e9, hb4⟩ := Q9 (bk 9 (by decide) x); exact ⟨_, e9, hb4.imp (fw 10) id⟩, fun x => by obtain ⟨an, cn, e9, hno⟩ := Q10 (bk 10 (by decide) x); exact ⟨_, _, e9, hno.imp (fw 17) id⟩, by obtain ⟨z0, z3, k1, k2, k3, k4⟩ := RC; exact ⟨z0, z3, k1, fun x => k2 (bk 13 (by decide) x), fun x => k3 (fun y => x (fw 17 y)), fun x => k4 (bk 17 (by decide) x)⟩, fun x => QC (fun y => x (fw 10 y)), QK, fun x => QM (fun y => x (fw 10 y)), RB, PW, SZ, fun _ => .inr trivial, fun x => fw 7 (D10 (bk 10 (by decide) x)), fun x => (D17 (bk 17 (by decide) x)).imp (fw 7) (fw 10)⟩)
  | 15, _ =>
   cases hio
   have off : ¬ On f 15 := on_off (by omega) hn
   have h14 : On f 14 := he ⟨14, .data⟩ (by simp) rfl
   have e14 : gv 61 = .pointer (some ⟨br, 0, none⟩) := P 14 (by decide) rfl h14
   rw [e14]
   have HQ := Lib.hid (And.intro P (And.intro Q9 (And.intro Q10 (And.intro RC (And.intro QC (And.intro QK (And.intro QM (And.intro RB (And.intro PW (And.intro SZ (And.intro D9 (And.intro D10 D17))))))))))))
   clear P Q9 Q10 RC QC QK QM RB PW SZ D9 D10 D17
   go_simp
   obtain ⟨P, Q9, Q10, RC, QC, QK, QM, RB, PW, SZ, D9, D10, D17⟩ := HQ.out
   obtain ⟨bk, fw, fn⟩ := on3 (f := f) (i := 15) (by omega)
   exact hKK (upd (upd gv 61 (.pointer (some ⟨br, 0, none⟩))) 62 (.pointer (some ⟨br, 1, none⟩))) _ (by rw [upd_same e14]; exact ⟨trivial, vals_step (n := 15) (v := .pointer (some ⟨br, 1, none⟩)) hD (by decide) (by omega) P (fun _ => rfl), fun x => by obtain ⟨b, e9, hb4⟩ := Q9 (bk 9 (by decide) x); exact ⟨_, e9, hb4.imp (fw 10) id⟩, fun x => by obtain ⟨an, cn, e9, hno⟩ := Q10 (bk 10 (by decide) x); exact ⟨_, _, e9, hno.imp (fw 17) id⟩, by obtain ⟨z0, z3, k1, k2, k3, k4⟩ := RC; exact ⟨z0, z3, k1, fun x => k2 (bk 13 (by decide) x), fun x => k3 (fun y => x (fw 17 y)), fun x => k4 (bk 17 (by decide) x)⟩, fun x => QC (fun y => x (fw 10 y)), QK, fun x => QM (fun y => x (fw 10 y)), RB, PW, SZ, fun _ => .inr trivial, fun x => fw 7 (D10 (bk 10 (by decide) x)), fun x => (D17 (bk 17 (by decide) x)).imp (fw 7) (fw 10)⟩)
  | 16, _ =>
   cases hio
   have off : ¬ On f 16 := on_off (by omega) hn
   have h15 : On f 15 := he ⟨15, .data⟩ (by simp) rfl
   have e15 : gv 62 = .pointer (some ⟨br, 1, none⟩) := P 15 (by decide) rfl h15
   rw [e15]
   have HQ := Lib.hid (And.intro P (And.intro Q9 (And.intro Q10 (And.intro RC (And.intro QC (And.intro QK (And.intro QM (And.intro RB (And.intro PW (And.intro SZ (And.intro D9 (And.intro D10 D17))))))))))))
   clear P Q9 Q10 RC QC QK QM RB PW SZ D9 D10 D17
   go_simp
   obtain ⟨P, Q9, Q10, RC, QC, QK, QM, RB, PW, SZ, D9, D10, D17⟩ := HQ.out
   obtain ⟨bk, fw, fn⟩ := on3 (f := f) (i := 16) (by omega)
   exact hKK (upd (upd gv 62 (.pointer (some ⟨br, 1, none⟩))) 63 (.pointer (some ⟨br, 3, none⟩))) _ (by rw [upd_same e15]; exact ⟨trivial, vals_step (n := 16) (v := .pointer (some ⟨br, 3, none⟩)) hD (by decide) (by omega) P (fun _ => rfl), fun x => by obtain ⟨b, e9, hb4⟩ := Q9 (bk 9 (by decide) x); exact ⟨_, e9, hb4.imp (fw 10) id⟩, fun x => by obtain ⟨an, cn, e9, hno⟩ := Q10 (bk 10 (by decide) x); exact ⟨_, _, e9, hno.imp (fw 17) id⟩, by obtain ⟨z0, z3, k1, k2, k3, k4⟩ := RC; exact ⟨z0, z3, k1, fun x => k2 (bk 13 (by decide) x), fun x => k3 (fun y => x (fw 17 y)), fun x => k4 (bk 17 (by decide) x)⟩, fun x => QC (fun y => x (fw 10 y)), QK, fun x => QM (fun y => x (fw 10 y)), RB, PW, SZ, fun _ => .inr trivial, fun x => fw 7 (D10 (bk 10 (by decide) x)), fun x => (D17 (bk 17 (by decide) x)).imp (fw 7) (fw 10)⟩)
  | 17, _ =>
   cases hio
   have off : ¬ On f 17 := on_off (by omega) hn
   have h10 : On f 10 := he ⟨10, .data⟩ (by simp) rfl
   obtain ⟨an, cn, e10, hno⟩ := Q10 h10
   have h16 : On f 16 := he ⟨16, .data⟩ (by simp) rfl
   have e16 : gv 63 = .pointer (some ⟨br, 3, none⟩) := P 16 (by decide) rfl h16
   have RC2 := RC
   obtain ⟨z0, z3, hz1, hz2, hz3, hz4⟩ := RC2
   obtain rfl := hz3 off
   have hnew := hno.resolve_left off
   have d0 : wm.cell? ⟨br, 3, none⟩ = some (.slice ac cj cc) := hz1.at 3 _ rfl
   have d1 : wm.frozen? ⟨br, 3, none⟩ = false := hz1.free 3
   have hcz := hz1.set 3 (.slice an j1 cn)
   have ho6 := only_set wm br 3 (.slice an j1 cn)
   have hLT := HLT.out
   have hbrl := HBRL.out
   have hnew3 := hnew.1.pastn (PastN.of_only ho6) hLT
   rw [e10, e16]
   have HQ := Lib.hid (And.intro P (And.intro Q9 (And.intro Q10 (And.intro RC (And.intro QC (And.intro QK (And.intro QM (And.intro RB (And.intro PW (And.intro SZ (And.intro D9 (And.intro D10 D17))))))))))))
   clear P Q9 Q10 RC QC QK QM RB PW SZ D9 D10 D17
   go_simp
   obtain ⟨P, Q9, Q10, RC, QC, QK, QM, RB, PW, SZ, D9, D10, D17⟩ := HQ.out
   obtain ⟨bk, fw, fn⟩ := on3 (f := f) (i := 17) (by omega)
   exact hKK (upd (upd gv 58 (.slice an j1 cn)) 63 (.pointer (some ⟨br, 3, none⟩))) _ (by rw [upd_same e10]; rw [upd_same e16]; exact ⟨trivial, vals_keep (n := 17) (by omega) rfl P, fun x => by obtain ⟨b, e9, hb4⟩ := Q9 (bk 9 (by decide) x); exact ⟨_, e9, .inl (fw 10 h10)⟩, fun x => by obtain ⟨an, cn, e9, hno⟩ := Q10 (bk 10 (by decide) x); exact ⟨_, _, e9, .inl fn⟩, ⟨z0, _, hcz, fun x => hz2 (bk 13 (by decide) x), fun x => absurd fn x, fun _ => ⟨an, cn, rfl, hnew3, hnew.2⟩⟩, fun x => absurd (fw 10 h10) x, ho6.heap QK (by have := HB6.out.1; omega), fun x => absurd (fw 10 h10) x, RB.only' ho6 (fun y hy hp => by have := HRR8.out.2.2 y hy; omega), PW.only ho6, by rw [ho6.size]; exact SZ, fun _ => .inr trivial, fun x => fw 7 (D10 (bk 10 (by decide) x)), fun _ => ⟨fw 7 (D10 h10), fw 10 h10⟩⟩)
 ·rintro f gv w5 hall hs' ⟨hBx, P, Q9, Q10, RC, QC, QK, QM, RB, PW, SZ, D9, D10, D17⟩
  replace hs' : f.size = 18 := hs'
  have on : ∀ j, j < 18 → On f j := fun j hj => on_all hall hs' j hj
  obtain ⟨z0, z3, hz1, hz2, _, hz4⟩ := RC
  obtain ⟨an, cn, rfl, hnew1, hnew2⟩ := hz4 (on 17 (by decide))
  have e0 := hz2 (on 13 (by decide))
  subst e0
  have HF := Lib.hid (HEND.out w5 an cn (ps ++ [(pa, pc)]) ⟨ar, cr, by rw [← HNR.out]; exact hz1, by rw [← HNR.out]; exact RB, HRR8.out.2.1, fun y hy hp => ⟨by have h1 := HRR8.out.2.2 y hy; have h2 := HBRL.out; omega, fun g hg => hnew2 g hg y hy (by rw [HNR.out]; exact hp)⟩⟩ hnew1 PW)
  clear P Q9 Q10 QC QK QM RB PW SZ D9 D10 D17 hBx hall hs' on hD hz1 hz2 hz4 hnew1 hnew2
  go_wp2_with fail
  go_end0
  exact HF.out
end Go.Proofs.YtofadpodlaakbaaGreat
