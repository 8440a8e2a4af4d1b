/- The walk of the reader's read, of the layer commit. -/
import Derived.Test.YtofadpodlaakbaaGreatCmId
import Derived.Test.YtofadpodlaakbaaGreatOpsGet
import Derived.Test.YtofadpodlaakbaaGreatCmSmall
namespace Go.Proofs.YtofadpodlaakbaaGreat
open Go.ChangeShapes Go.WideShapes Go.ChangeAt Go.RowKit
set_option linter.unusedVariables false
set_option linter.unusedSimpArgs false
theorem Bs_app (x y : List UInt8) : Bs (x ++ y) = Bs x ++ Bs y := List.map_append ..
def getC4 (n s g k : Nat) (r4 : List UInt8) : Option (Cmt × List UInt8) :=
 if 32 * k ≤ r4.length then
  if unfold' (n : Int) = -1 then finC ⟨-1, s, g, idsOf k r4, zeroO⟩ (r4.drop (32 * k))
  else match getO (r4.drop (32 * k)) with
   | none => none
   | some (o, r) => finC ⟨unfold' (n : Int), s, g, idsOf k r4, o⟩ r
 else none
def getC3 (n s g : Nat) (r3 : List UInt8) : Option (Cmt × List UInt8) := match takeM 8 r3 with
 | none => none
 | some (k, r4) => getC4 n s g k r4
def getC2 (n s : Nat) (r2 : List UInt8) : Option (Cmt × List UInt8) := match takeM 1048576 r2 with
 | none => none
 | some (g, r3) => getC3 n s g r3
def getC1 (n : Nat) (r1 : List UInt8) : Option (Cmt × List UInt8) := match takeM 1048576 r1 with
 | none => none
 | some (s, r2) => getC2 n s r2
theorem getC_eq (l : List UInt8) : getC l = (match takeN l with
 | none => none
 | some (n, r1) => getC1 n r1) := rfl
theorem takeN_len {l r : List UInt8} {n : Nat} (h : takeN l = some (n, r)) : r.length ≤ l.length ∧ n < 18446744073709551616 := by
 obtain ⟨h1, h2⟩ := takeN_got h
 rw [← h1, List.length_append]
 exact ⟨by omega, h2⟩
theorem takeM_len {l r : List UInt8} {m n : Nat} (h : takeM m l = some (n, r)) : r.length ≤ l.length ∧ n ≤ m := by
 obtain ⟨h1, h2⟩ := takeM_got h
 rw [← h1, List.length_append]
 exact ⟨by omega, h2⟩
theorem unfold_bd {n : Nat} (h : n < 18446744073709551616) : -9223372036854775808 ≤ unfold' (n : Int) ∧ unfold' (n : Int) ≤ 9223372036854775807 := by
 unfold unfold'
 split <;> omega
theorem idsOf_take (k : Nat) (b : List UInt8) : idsOf k (b.take (32 * k)) = idsOf k b := by
 unfold idsOf
 refine List.map_congr_left fun i hi => ?_
 have := List.mem_range.1 hi
 rw [List.drop_take, List.take_take]
 congr 1
 omega
theorem info_idz : (Tryz.prog.info? 48).map (fun i => (i.zero, i.size, i.bytes)) = some (some (.agg (Bs zero32).toArray), 32, 32) := by kernel_rfl
theorem Ids.of_own {w : World} {base : Nat} {v : Value} {k : Nat} {b : List UInt8} (h : w.ownsRow base 48 32 v k (Bs (b.take (32 * k)))) (hk : 32 * k ≤ b.length) : ∃ a c, v = .slice a k c ∧ Ids w a k c (idsOf k b) ∧ (a = none → c = 0) := by
 rcases h.2 with ⟨rfl, h0⟩ | ⟨g, cap, cur, rfl, hg, hh, hn, hc, _⟩
 ·subst h0
  exact ⟨none, 0, rfl, ⟨rfl, Nat.le_refl _, by decide, fun _ => rfl, fun x hx => by simp [idsOf] at hx, .inl rfl⟩, fun _ => rfl⟩
 ·refine ⟨some ⟨g, 0, none⟩, cap, rfl, ⟨idsOf_length k b, hn, Nat.le_trans hc (by unfold maxLen; decide), (fun h => by cases h), idsOf_32 hk, .inr ⟨g, 0, rfl, fun i hi => ?_⟩⟩, fun h => by cases h⟩
  intro j u hu
  rw [idsOf_at k b i hi] at hu
  have hjl := (List.getElem?_eq_some_iff.1 hu).1
  have hj : j < 32 := by
   rw [Bs_length, List.length_take] at hjl
   omega
  have := h.cells (g := g) rfl (i * 32 + j) u (by
   unfold Bs at hu ⊢
   rw [List.getElem?_map] at hu ⊢
   rw [List.getElem?_take_of_lt hj, List.getElem?_drop] at hu
   rw [List.getElem?_take_of_lt (by omega), show i * 32 + j = 32 * i + j by omega]
   exact hu)
  have hadd : (⟨g, 0, none⟩ : Addr).add (i * 32 + j) = ⟨g, 0 + i * 32 + j, none⟩ := by
   rw [Addr.add_mid]; congr 1; omega
  rw [hadd] at this
  exact this
theorem app_id {w : World} {base : Nat} {v : Value} {k : Nat} {xs : List Value} (hown : w.ownsRow base 48 32 v k xs) {b : Nat} {x : List UInt8} (hc : Cel w b 48 (Bs x)) (hx : x.length = 32) (hk : k ≤ 1000) (hb : base ≤ w.heap.size) :
  ∃ v' w', (Builtin.append_ #[22, 22] 22 #[v, .slice (some ⟨b, 0, none⟩) 1 1]).run Tryz.prog w = .ok v' w' ∧ w'.ownsRow base 48 32 v' (k + 1) (xs ++ Bs x) ∧ w.grownBy w' v.ownBlock := by
 obtain ⟨i0, hi, hz0, hz1, hz2⟩ := info_parts info_idz
 obtain ⟨v', w', h1, h2, h3, _⟩ := run_append_own (P := Tryz.prog) w base 22 22 48 i0 _ 32 32 Tryz.underlying22 hi hz0 hz1 hz2 (by rfl) (by decide) v k xs hown ⟨b, 0, none⟩ 1 1 (Bs x) (by rw [Bs_length, hx]) (fun j u hu => by
  have hadd : (⟨b, 0, none⟩ : Addr).add j = ⟨b, j, none⟩ := by unfold Addr.add; split <;> simp_all
  rw [hadd]; exact hc.at j u hu) (Bs_one x) (by unfold maxLen; omega) (by omega) hb
 exact ⟨v', w', h1, h2, h3⟩
theorem ownsRow_id_low {w w' : World} {base : Nat} {v : Value} {n : Nat} {xs : List Value} (h : w.ownsRow base 48 32 v n xs) (hk : ∀ k, v.ownBlock = some k → w'.heap[k]? = w.heap[k]?) : w'.ownsRow base 48 32 v n xs := by
 refine ⟨h.1, ?_⟩
 rcases h.2 with h2 | ⟨g, cap, cur, rfl, hg, hh, r⟩
 ·exact .inl h2
 ·exact .inr ⟨g, cap, cur, rfl, hg, by rw [hk g rfl]; exact hh, r⟩
theorem ownsRow_id_past {w w' : World} {base b : Nat} {v : Value} {n : Nat} {xs : List Value} (h : w.ownsRow base 48 32 v n xs) (hp : PastN w w' b) (hb : b < base) : w'.ownsRow base 48 32 v n xs :=
 ownsRow_id_low h fun k hk => hp.block k (h.lt k hk).2 (by have := (h.lt k hk).1; omega)
theorem RdR.grown {w w' : World} {br lim : Nat} {t : TypeId} {vs : List Value} {l : List UInt8} {row : Option Nat} (h : RdR (fun k => k < lim) w br t vs l) (hg : w.grownBy w' row) (hbr : br < lim) (hr : ∀ k, row = some k → lim ≤ k) : RdR (fun k => k < lim) w' br t vs l := by
 obtain ⟨a, c, h1, h2, h3, h4⟩ := h
 refine ⟨a, c, h1.grown hg (fun k hk => Nat.lt_of_lt_of_le hbr (hr k hk)), ?_, h3, h4⟩
 refine ⟨h2.len, h2.le, h2.cap, ?_⟩
 obtain ⟨_, _, _, g4, g5⟩ := hg
 by_cases hz : l.length = 0
 ·exact .inl hz
 rcases h2.cells with h0 | ⟨b', off, rfl, hlt, hc⟩
 ·exact .inl h0
 ·refine .inr ⟨b', off, rfl, Nat.lt_of_lt_of_le hlt g4, fun i hi => ?_⟩
  have h5 := (h4 ⟨b', off, none⟩ rfl (by omega)).2
  have h6 := hc i hi
  unfold World.cell? at h6 ⊢
  rw [g5 b' hlt (by
   intro e
   have := hr b' e.symm
   simp only at h5
   omega)]
  exact h6
theorem RdR.pastn {ok : Nat → Prop} {w w' : World} {br b : Nat} {t : TypeId} {vs : List Value} {l : List UInt8} (h : RdR ok w br t vs l) (hp : PastN w w' b) (hne : br ≠ b) (hok : ∀ k, ok k → k ≠ b) : RdR ok w' br t vs l := by
 obtain ⟨a, c, h1, h2, h3, h4⟩ := h
 exact ⟨a, c, hp.heap h1 hne, h2.pastn hp (fun x hx hz => hok _ (h4 x hx hz).2), h3, h4⟩
theorem Rd.apart {w : World} {a : Option Addr} {n c b : Nat} {l : List UInt8} {t : TypeId} {vs : List Value} (h : Rd w a n c l) (hc : Cel w b t vs) (hv : ∀ v ∈ vs, ∀ z, v ≠ .int .u8 z) : ∀ x, a = some x → 0 < n → x.block ≠ b := by
 intro x hx hn e
 rcases h.cells with h0 | ⟨b', off, e', hlt, hcc⟩
 ·omega
 ·rw [e'] at hx
  injection hx with hx
  subst hx
  simp only at e
  subst e
  have h1 := hcc 0 hn
  unfold World.cell? at h1
  rw [hc] at h1
  simp only [Nat.add_zero] at h1
  have h2 : vs[off]? = some (.int .u8 ((l.getD 0 0).toNat : Int)) := by simpa using h1
  exact hv _ (List.mem_of_getElem? h2) _ rfl
theorem mayB_lens {o : Opn} (h : mayB o = true) : o.key.length ≤ 8 ∧ o.elem.length ≤ 8 := by
 obtain ⟨_, _, h3, h4⟩ := mayB_kind h
 refine ⟨(keyB_len h3).2, ?_⟩
 by_cases hk : o.kind = 0
 ·rw [if_pos hk] at h4
  simp only [cntB, Bool.and_eq_true, decide_eq_true_eq] at h4
  rw [h4.2]; decide
 ·rw [if_neg hk] at h4
  simp only [namB, Bool.and_eq_true, decide_eq_true_eq] at h4
  exact (keyB_len h4.2).2
def RReadP (br : Nat) (l : List UInt8) (w : World) (e : Ending) (w' : World) : Prop :=
 match getC l with
 | none => e = .panicked wrongC ∧ PastN w w' br
 | some (c, r) => ∃ a cap, e = .returned (c.val a cap) ∧ CmR w' c a cap ∧ RdR (fun _ => True) w' br 134 [] r ∧ PastN w w' br ∧ ∀ x, a = some x → w.heap.size ≤ x.block
set_option maxRecDepth 100000 in
set_option maxHeartbeats 20000000 in
theorem rread_any (ok : Nat → Prop) (br : Nat) (l : List UInt8) (w : World) (hr : RdR ok w br 134 [] l) (hl : l.length ≤ 100000) : Calls Tryz.prog 113 #[.pointer (some ⟨br, 0, none⟩)] w (RReadP br l w) := by
 have hbr : br < w.heap.size := by obtain ⟨a, c, h, _⟩ := hr; exact h.lt
 have hrl := hr.lt
 have HF := Lib.hid (fun (h : getC l = none) w' (hp : PastN w w' br) => show RReadP br l w (.panicked wrongC) w' by unfold RReadP; rw [h]; exact ⟨rfl, hp⟩)
 have HG := Lib.hid (getC_eq l)
 obtain ⟨bc, hbc⟩ : ∃ bc, bc = w.heap.size := ⟨_, rfl⟩
 rw [← hbc] at hrl hbr
 have HBC := Lib.hid hbc
 have HNE := Lib.hid (show br ≠ bc ∧ br < bc from ⟨by omega, hbr⟩)
 have HR := Lib.hid hrl
 clear hr hrl hbr
 go_enter Tryz.func113, Tryz.ntmps113
 go_upto_region 1 with fail
 have hC0 := Cel.new w 41 zeroC
 rw [← hbc] at hC0 ⊢
 generalize hw1 : w.alloc (.cells _ _) = w1
 have HC1 := Lib.hid (show Cel w1 bc 41 zeroC by rw [← hw1]; exact hC0)
 have hb01 : Below w.heap.size w w1 := by rw [← hw1]; exact (Below.refl _ _).alloc (Nat.le_refl _) _
 have HP1 := Lib.hid (show PastN w w1 br from PastN.of_below hb01)
 have HR1 := Lib.hid (HR.out.below hb01)
 have HS1 := Lib.hid (show bc < w1.heap.size from HC1.out.lt)
 clear hC0 hw1 hb01 hbc
 have HNUM := Lib.hid (rnum_any _ br l w1 HR1.out hl)
 cases ht1 : takeN l with
 | none =>
  have HFF := Lib.hid (HF.out (by rw [HG.out, ht1]))
  unfold RNumP at HNUM
  rw [ht1] at HNUM
  simp only at HNUM
  clear ht1
  go_wp2_with fail
  refine HNUM.out.mono ?_
  rintro e w' ⟨rfl, ho⟩
  have HO := Lib.hid (HP1.out.only ho)
  clear ho
  go_wp2_with fail
  exact ⟨rfl, HFF.out _ HO.out⟩
 | some p1 =>
 obtain ⟨N, r1⟩ := p1
 obtain ⟨hr1l, hN64⟩ := takeN_len ht1
 unfold RNumP at HNUM
 rw [ht1] at HNUM
 simp only at HNUM
 have HG1 := Lib.hid (show getC l = getC1 N r1 by rw [HG.out, ht1])
 have HUN := Lib.hid (fun w' => unfold_any (N : Int) w' (by omega) (by omega))
 obtain ⟨node, hnode⟩ : ∃ node, node = unfold' (N : Int) := ⟨_, rfl⟩
 rw [← hnode] at HUN
 have HNODE := Lib.hid hnode
 clear ht1 HG hnode
 go_wp2_with fail
 refine HNUM.out.mono ?_
 rintro e w2 ⟨rfl, hr2, ho2⟩
 have HR2 := Lib.hid hr2
 have HP2 := Lib.hid (HP1.out.only ho2)
 have HC2 := Lib.hid (show Cel w2 bc 41 [.int .i64 0, .int .i64 0, .int .i64 0, .slice none 0 0, .int .i64 0, .string ⟨#[]⟩, .string ⟨#[]⟩, .int .i64 0] from ho2.heap HC1.out HNE.out.1.symm)
 have HS2 := Lib.hid (show bc < w2.heap.size from HC2.out.lt)
 clear hr2 ho2 HNUM HC1 HR1 HP1 HS1
 go_wp2_with fail
 refine (HUN.out _).mono ?_
 rintro e w' ⟨rfl, rfl⟩
 have p0 : w2.cell? ⟨bc, 0, none⟩ = some (.int .i64 0) := HC2.out.at 0 _ rfl
 have f0 : w2.frozen? ⟨bc, 0, none⟩ = false := HC2.out.free 0
 go_upto_region 2 with fail
 generalize hw3 : World.setCell w2 _ _ = w3
 have ho3 : Only w2 w3 bc := by rw [← hw3]; exact only_set _ _ _ _
 have HC3 := Lib.hid (show Cel w3 bc 41 [.int .i64 node, .int .i64 0, .int .i64 0, .slice none 0 0, .int .i64 0, .string ⟨#[]⟩, .string ⟨#[]⟩, .int .i64 0] by rw [← hw3]; exact HC2.out.set 0 _)
 have HR3 := Lib.hid (HR2.out.only ho3 HNE.out.1 (fun k hk => Nat.ne_of_lt hk))
 have HP3 := Lib.hid (HP2.out.fresh ho3 (Nat.le_of_eq HBC.out.symm))
 clear hw3 ho3 p0 f0 HC2 HR2 HP2 HUN HS2
 have HUP := Lib.hid (upto_any _ br 1048576 r1 w3 HR3.out (by omega) (by decide))
 cases ht2 : takeM 1048576 r1 with
 | none =>
  have HFF := Lib.hid (HF.out (by rw [HG1.out]; unfold getC1; rw [ht2]))
  unfold RNumP at HUP
  rw [ht2] at HUP
  simp only at HUP
  clear ht2
  go_wp2_with fail
  refine HUP.out.mono ?_
  rintro e w' ⟨rfl, ho⟩
  have HO := Lib.hid (HP3.out.only ho)
  clear ho
  go_wp2_with fail
  exact ⟨rfl, HFF.out _ HO.out⟩
 | some p2 =>
 obtain ⟨s, r2⟩ := p2
 obtain ⟨hr2l, hs20⟩ := takeM_len ht2
 unfold RNumP at HUP
 rw [ht2] at HUP
 simp only at HUP
 have HG2 := Lib.hid (show getC l = getC2 N s r2 by rw [HG1.out]; unfold getC1; rw [ht2])
 clear ht2 HG1
 go_wp2_with fail
 refine HUP.out.mono ?_
 rintro e w4 ⟨rfl, hr4, ho4⟩
 have HR4 := Lib.hid hr4
 have HP4 := Lib.hid (HP3.out.only ho4)
 have HC4 := Lib.hid (show Cel w4 bc 41 [.int .i64 node, .int .i64 0, .int .i64 0, .slice none 0 0, .int .i64 0, .string ⟨#[]⟩, .string ⟨#[]⟩, .int .i64 0] from ho4.heap HC3.out HNE.out.1.symm)
 clear hr4 ho4 HUP HC3 HR3 HP3
 have HUP := Lib.hid (upto_any _ br 1048576 r2 w4 HR4.out (by omega) (by decide))
 cases ht3 : takeM 1048576 r2 with
 | none =>
  have HFF := Lib.hid (HF.out (by rw [HG2.out]; unfold getC2; rw [ht3]))
  unfold RNumP at HUP
  rw [ht3] at HUP
  simp only at HUP
  clear ht3
  go_wp2_with fail
  refine HUP.out.mono ?_
  rintro e w' ⟨rfl, ho⟩
  have HO := Lib.hid (HP4.out.only ho)
  clear ho
  go_wp2_with fail
  exact ⟨rfl, HFF.out _ HO.out⟩
 | some p3 =>
 obtain ⟨g, r3⟩ := p3
 obtain ⟨hr3l, hg20⟩ := takeM_len ht3
 unfold RNumP at HUP
 rw [ht3] at HUP
 simp only at HUP
 have HG3 := Lib.hid (show getC l = getC3 N s g r3 by rw [HG2.out]; unfold getC2; rw [ht3])
 clear ht3 HG2
 go_wp2_with fail
 refine HUP.out.mono ?_
 rintro e w5 ⟨rfl, hr5, ho5⟩
 have HR5 := Lib.hid hr5
 have HP5 := Lib.hid (HP4.out.only ho5)
 have HC5 := Lib.hid (show Cel w5 bc 41 [.int .i64 node, .int .i64 0, .int .i64 0, .slice none 0 0, .int .i64 0, .string ⟨#[]⟩, .string ⟨#[]⟩, .int .i64 0] from ho5.heap HC4.out HNE.out.1.symm)
 clear hr5 ho5 HUP HC4 HR4 HP4
 have p1 : w5.cell? ⟨bc, 1, none⟩ = some (.int .i64 0) := HC5.out.at 1 _ rfl
 have p2 : w5.cell? ⟨bc, 2, none⟩ = some (.int .i64 0) := HC5.out.at 2 _ rfl
 have f1 : w5.frozen? ⟨bc, 1, none⟩ = false := HC5.out.free 1
 have f2 : w5.frozen? ⟨bc, 2, none⟩ = false := HC5.out.free 2
 go_upto_region 3 with fail
 generalize hw6 : World.setCell (World.setCell w5 _ _) _ _ = w6
 have ho6 : Only w5 w6 bc := by rw [← hw6]; exact (only_set _ _ _ _).trans (only_set _ _ _ _)
 have HC6 := Lib.hid (show Cel w6 bc 41 [.int .i64 node, .int .i64 (s : Int), .int .i64 (g : Int), .slice none 0 0, .int .i64 0, .string ⟨#[]⟩, .string ⟨#[]⟩, .int .i64 0] by rw [← hw6]; exact (HC5.out.set 1 _).set 2 _)
 have HR6 := Lib.hid (HR5.out.only ho6 HNE.out.1 (fun k hk => Nat.ne_of_lt hk))
 have HP6 := Lib.hid (HP5.out.fresh ho6 (Nat.le_of_eq HBC.out.symm))
 clear hw6 ho6 p1 f1 p2 f2 HC5 HR5 HP5
 have HUP := Lib.hid (upto_any _ br 8 r3 w6 HR6.out (by omega) (by decide))
 cases ht4 : takeM 8 r3 with
 | none =>
  have HFF := Lib.hid (HF.out (by rw [HG3.out]; unfold getC3; rw [ht4]))
  unfold RNumP at HUP
  rw [ht4] at HUP
  simp only at HUP
  clear ht4
  go_wp2_with fail
  refine HUP.out.mono ?_
  rintro e w' ⟨rfl, ho⟩
  have HO := Lib.hid (HP6.out.only ho)
  clear ho
  go_wp2_with fail
  exact ⟨rfl, HFF.out _ HO.out⟩
 | some p4 =>
 obtain ⟨k, r4⟩ := p4
 obtain ⟨hr4l, hk8⟩ := takeM_len ht4
 unfold RNumP at HUP
 rw [ht4] at HUP
 simp only at HUP
 have HG4 := Lib.hid (show getC l = getC4 N s g k r4 by rw [HG3.out]; unfold getC3; rw [ht4])
 clear ht4 HG3
 go_wp2_with fail
 refine HUP.out.mono ?_
 rintro e w7 ⟨rfl, hr7, ho7⟩
 have HR7 := Lib.hid hr7
 have HP7 := Lib.hid (HP6.out.only ho7)
 have HC7 := Lib.hid (show Cel w7 bc 41 [.int .i64 node, .int .i64 (s : Int), .int .i64 (g : Int), .slice none 0 0, .int .i64 0, .string ⟨#[]⟩, .string ⟨#[]⟩, .int .i64 0] from ho7.heap HC6.out HNE.out.1.symm)
 have HS7 := Lib.hid (show bc + 1 ≤ w7.heap.size from HC7.out.lt)
 clear hr7 ho7 HUP HC6 HR6 HP6
 have hr4b : r4.length ≤ 100000 := by omega
 go_wp2_with fail
 go_loopw [20] (fun v20 wr => ∃ (i : Nat) (av : Option Addr) (cv : Nat), i ≤ k ∧ v20 = .int .i64 (i : Int) ∧ Hid (32 * i ≤ r4.length) ∧ Hid (Cel wr bc 41 [.int .i64 node, .int .i64 (s : Int), .int .i64 (g : Int), .slice av i cv, .int .i64 0, .string ⟨#[]⟩, .string ⟨#[]⟩, .int .i64 0]) ∧ Hid (wr.ownsRow (bc + 1) 48 32 (.slice av i cv) i (Bs (r4.take (32 * i)))) ∧ Hid (RdR (fun k => k < bc) wr br 134 [] (r4.drop (32 * i))) ∧ Hid (PastN w wr br)) (fun v20 _ => k - (intOf v20).toNat)
 case atStart => exact ⟨0, none, 0, Nat.zero_le _, rfl, Lib.hid (Nat.zero_le _), HC7, Lib.hid (World.ownsRow_nil _ _ _ _), Lib.hid (by rw [Nat.mul_zero, List.drop_zero]; exact HR7.out), HP7⟩
 case round =>
  obtain ⟨i, av, cv, hi, rfl, hI, hC, hO, hR, hP⟩ := hrel
  by_cases hik : i < k
  ·have HS := Lib.hid (show bc + 1 ≤ wr.heap.size from hC.out.lt)
   have hrl : (r4.drop (32 * i)).length = r4.length - 32 * i := List.length_drop ..
   have HID := Lib.hid (fun w' (h : RdR (fun k => k < bc) w' br 134 [] (r4.drop (32 * i))) => rid_any _ br _ w' h (by rw [hrl]; omega))
   have hii : (i : Int) < (k : Int) := by omega
   obtain ⟨i1, hi1⟩ : ∃ i1, i1 = i + 1 := ⟨_, rfl⟩
   by_cases h32 : 32 ≤ (r4.drop (32 * i)).length
   ·unfold RIdP at HID
    simp only [if_pos h32] at HID
    obtain ⟨x, hx⟩ : ∃ x, x = (r4.drop (32 * i)).take 32 := ⟨_, rfl⟩
    have hx32 : x.length = 32 := by rw [hx, List.length_take]; omega
    have hdr : (r4.drop (32 * i)).drop 32 = r4.drop (32 * i1) := by rw [List.drop_drop, hi1]; congr 1
    have htk : r4.take (32 * i1) = r4.take (32 * i) ++ x := by rw [hi1, show 32 * (i + 1) = 32 * i + 32 by omega, List.take_add, hx]
    have hI1 : 32 * i1 ≤ r4.length := by omega
    rw [← hx, hdr] at HID
    unfold arr at HID
    have HX := Lib.hid (And.intro hx32 (And.intro htk hI1))
    have HI1 := Lib.hid hi1
    clear hx hdr htk hI1 hrl h32 hi1
    go_upto_region 5 with fail
    have hD : ∀ j, j < 8 → ∀ n, n < 8 → j ≠ n → dkN [22, 23, 24, 25, 26, 27, 28, 1007] j ≠ dkN [22, 23, 24, 25, 26, 27, 28, 1007] n := by decide +kernel
    refine region_fun (by kernel_rfl) (by kernel_rfl) (fun gv => #[Value.pointer (some ⟨br, 0, none⟩), undef, Value.pointer (some ⟨bc, 0, none⟩), undef, undef, undef, Value.pointer (some ⟨br, 0, none⟩), Value.int IntKind.u64 (N : Int), Value.int IntKind.i64 node, Value.pointer (some ⟨bc, 0, none⟩), Value.pointer (some ⟨bc, 0, none⟩), Value.pointer (some ⟨br, 0, none⟩), Value.int IntKind.i64 (s : Int), Value.pointer (some ⟨br, 0, none⟩), Value.int IntKind.i64 (g : Int), Value.pointer (some ⟨bc, 0, none⟩), Value.pointer (some ⟨bc, 1, none⟩), Value.pointer (some ⟨bc, 2, none⟩), Value.pointer (some ⟨br, 0, none⟩), Value.int IntKind.i64 (k : Int), Value.int IntKind.i64 (i : Int), Value.bool true, gv 22, gv 23, gv 24, gv 25, gv 26, gv 27, gv 28, gv 29, undef, undef, undef, undef, undef, undef, undef, undef, undef, undef, undef, undef, undef, undef, undef, undef, undef, undef, undef, undef, undef, undef, undef, undef, undef, undef]) rfl (fun f gv wx => True ∧ (∀ j, j < 8 → (fun j => Nat.beq j 4 || Nat.beq j 5 || Nat.beq j 7) j = false → On f j → gv (dkN [22, 23, 24, 25, 26, 27, 28, 1007] j) = vkN [.pointer (some ⟨bc, 3, none⟩), .slice av i cv, Value.pointer (some ⟨br, 0, none⟩), .agg (Bs x).toArray, undef, undef, .pointer (some ⟨bc, 3, none⟩), undef] j) ∧ ((On f 4 → ∃ b, gv 26 = .slice (some ⟨b, 0, none⟩) 1 1 ∧ (On f 5 ∨ (b ≠ bc ∧ b ≠ br ∧ Cel wx b 48 (Bs x))))) ∧ ((On f 5 → ∃ a c, gv 27 = .slice a i1 c ∧ (On f 7 ∨ wx.ownsRow (bc + 1) 48 32 (.slice a i1 c) i1 (Bs (r4.take (32 * i1)))))) ∧ ((¬ On f 7 → Cel wx bc 41 [.int .i64 node, .int .i64 (s : Int), .int .i64 (g : Int), .slice av i cv, .int .i64 0, .string ⟨#[]⟩, .string ⟨#[]⟩, .int .i64 0])) ∧ ((¬ On f 5 → wx.ownsRow (bc + 1) 48 32 (.slice av i cv) i (Bs (r4.take (32 * i))))) ∧ ((On f 7 → ∃ av' cv', Cel wx bc 41 [.int .i64 node, .int .i64 (s : Int), .int .i64 (g : Int), .slice av' i1 cv', .int .i64 0, .string ⟨#[]⟩, .string ⟨#[]⟩, .int .i64 0] ∧ wx.ownsRow (bc + 1) 48 32 (.slice av' i1 cv') i1 (Bs (r4.take (32 * i1))))) ∧ ((¬ On f 3 → RdR (fun k => k < bc) wx br 134 [] (r4.drop (32 * i))) ∧ (On f 3 → RdR (fun k => k < bc) wx br 134 [] (r4.drop (32 * i1)))) ∧ (PastN w wx br) ∧ (bc < wx.heap.size) ∧ ((On f 4 → On f 3)) ∧ ((On f 5 → On f 1 ∧ On f 3 ∧ On f 4)) ∧ ((On f 7 → On f 5 ∧ On f 1 ∧ On f 3 ∧ On f 4))) ?_ ?_ ?_
    ·have hoff : ∀ j, ¬ On (Array.replicate 8 false) j := by
      intro j hj; simp only [On, Array.getD_eq_getD_getElem?, Array.getElem?_replicate] at hj; split at hj <;> simp at hj
     exact ⟨trivial, fun j _ _ x => absurd x (hoff _), fun x => absurd x (hoff _), fun x => absurd x (hoff _), fun _ => hC.out, fun _ => hO.out, fun x => absurd x (hoff _), ⟨fun _ => hR.out.below ((Below.refl _ _).drew), fun x => absurd x (hoff _)⟩, hP.out.step (Below.refl _ _).drew, HS.out, fun x => absurd x (hoff _), fun x => absurd x (hoff _), fun x => absurd x (hoff _)⟩
    ·rintro i' o' f gv wm hio hs' hn he ⟨hBx, P, Q4, Q5, QA, QB, QE, RS, PW, SZ, D4, D5, D7⟩ KK hKK
     have hi' : i' < 8 := (Array.getElem?_eq_some_iff.1 hio).1
     replace hs' : f.size = 8 := hs'
     match i', hi' with
     | 0, _ =>
      cases hio
      have off : ¬ On f 0 := on_off (by omega) hn
      have HQ := Lib.hid (And.intro P (And.intro Q4 (And.intro Q5 (And.intro QA (And.intro QB (And.intro QE (And.intro RS (And.intro PW (And.intro SZ (And.intro D4 (And.intro D5 D7)))))))))))
      clear P Q4 Q5 QA QB QE RS PW SZ D4 D5 D7
      go_simp
      obtain ⟨P, Q4, Q5, QA, QB, QE, RS, PW, SZ, D4, D5, D7⟩ := HQ.out
      obtain ⟨bk, fw, fn⟩ := on3 (f := f) (i := 0) (by omega)
      exact hKK (upd gv 22 (.pointer (some ⟨bc, 3, none⟩))) _ (by exact ⟨trivial, vals_step (n := 0) (v := .pointer (some ⟨bc, 3, none⟩)) hD (by decide) (by omega) P (fun _ => rfl), fun x => by obtain ⟨b, e9, hb4⟩ := Q4 (bk 4 (by decide) x); exact ⟨_, e9, hb4.imp (fw 5) id⟩, fun x => by obtain ⟨a5, c5, e9, h5o⟩ := Q5 (bk 5 (by decide) x); exact ⟨_, _, e9, h5o.imp (fw 7) id⟩, fun x => QA (fun y => x (fw 7 y)), fun x => QB (fun y => x (fw 5 y)), fun x => QE (bk 7 (by decide) x), ⟨fun x => RS.1 (fun y => x (fw 3 y)), fun x => RS.2 (bk 3 (by decide) x)⟩, PW, SZ, fun x => fw 3 (D4 (bk 4 (by decide) x)), fun x => (D5 (bk 5 (by decide) x)).imp (fw 1) (And.imp (fw 3) (fw 4)), fun x => (D7 (bk 7 (by decide) x)).imp (fw 5) (And.imp (fw 1) (And.imp (fw 3) (fw 4)))⟩)
     | 1, _ =>
      cases hio
      have off : ¬ On f 1 := on_off (by omega) hn
      have h0 : On f 0 := he ⟨0, .data⟩ (by simp) rfl
      have e0 : gv 22 = .pointer (some ⟨bc, 3, none⟩) := P 0 (by decide) rfl h0
      have d0 : wm.cell? ⟨bc, 3, none⟩ = some (.slice av i cv) := (QA (fun x => off (D7 x).2.1)).at 3 _ rfl
      rw [e0]
      have HQ := Lib.hid (And.intro P (And.intro Q4 (And.intro Q5 (And.intro QA (And.intro QB (And.intro QE (And.intro RS (And.intro PW (And.intro SZ (And.intro D4 (And.intro D5 D7)))))))))))
      clear P Q4 Q5 QA QB QE RS PW SZ D4 D5 D7
      go_simp
      obtain ⟨P, Q4, Q5, QA, QB, QE, RS, PW, SZ, D4, D5, D7⟩ := HQ.out
      obtain ⟨bk, fw, fn⟩ := on3 (f := f) (i := 1) (by omega)
      exact hKK (upd (upd gv 22 (.pointer (some ⟨bc, 3, none⟩))) 23 (.slice av i cv)) _ (by rw [upd_same e0]; exact ⟨trivial, vals_step (n := 1) (v := .slice av i cv) hD (by decide) (by omega) P (fun _ => rfl), fun x => by obtain ⟨b, e9, hb4⟩ := Q4 (bk 4 (by decide) x); exact ⟨_, e9, hb4.imp (fw 5) id⟩, fun x => by obtain ⟨a5, c5, e9, h5o⟩ := Q5 (bk 5 (by decide) x); exact ⟨_, _, e9, h5o.imp (fw 7) id⟩, fun x => QA (fun y => x (fw 7 y)), fun x => QB (fun y => x (fw 5 y)), fun x => QE (bk 7 (by decide) x), ⟨fun x => RS.1 (fun y => x (fw 3 y)), fun x => RS.2 (bk 3 (by decide) x)⟩, PW, SZ, fun x => fw 3 (D4 (bk 4 (by decide) x)), fun x => (D5 (bk 5 (by decide) x)).imp (fw 1) (And.imp (fw 3) (fw 4)), fun x => (D7 (bk 7 (by decide) x)).imp (fw 5) (And.imp (fw 1) (And.imp (fw 3) (fw 4)))⟩)
     | 2, _ =>
      cases hio
      have off : ¬ On f 2 := on_off (by omega) hn
      have HQ := Lib.hid (And.intro P (And.intro Q4 (And.intro Q5 (And.intro QA (And.intro QB (And.intro QE (And.intro RS (And.intro PW (And.intro SZ (And.intro D4 (And.intro D5 D7)))))))))))
      clear P Q4 Q5 QA QB QE RS PW SZ D4 D5 D7
      go_simp
      obtain ⟨P, Q4, Q5, QA, QB, QE, RS, PW, SZ, D4, D5, D7⟩ := HQ.out
      obtain ⟨bk, fw, fn⟩ := on3 (f := f) (i := 2) (by omega)
      exact hKK (upd gv 24 (Value.pointer (some ⟨br, 0, none⟩))) _ (by exact ⟨trivial, vals_step (n := 2) (v := Value.pointer (some ⟨br, 0, none⟩)) hD (by decide) (by omega) P (fun _ => rfl), fun x => by obtain ⟨b, e9, hb4⟩ := Q4 (bk 4 (by decide) x); exact ⟨_, e9, hb4.imp (fw 5) id⟩, fun x => by obtain ⟨a5, c5, e9, h5o⟩ := Q5 (bk 5 (by decide) x); exact ⟨_, _, e9, h5o.imp (fw 7) id⟩, fun x => QA (fun y => x (fw 7 y)), fun x => QB (fun y => x (fw 5 y)), fun x => QE (bk 7 (by decide) x), ⟨fun x => RS.1 (fun y => x (fw 3 y)), fun x => RS.2 (bk 3 (by decide) x)⟩, PW, SZ, fun x => fw 3 (D4 (bk 4 (by decide) x)), fun x => (D5 (bk 5 (by decide) x)).imp (fw 1) (And.imp (fw 3) (fw 4)), fun x => (D7 (bk 7 (by decide) x)).imp (fw 5) (And.imp (fw 1) (And.imp (fw 3) (fw 4)))⟩)
     | 3, _ =>
      cases hio
      have off : ¬ On f 3 := on_off (by omega) hn
      have h2 : On f 2 := he ⟨2, .data⟩ (by simp) rfl
      have e2 : gv 24 = Value.pointer (some ⟨br, 0, none⟩) := P 2 (by decide) rfl h2
      have hrd := RS.1 off
      rw [e2]
      have HQ := Lib.hid (And.intro P (And.intro Q4 (And.intro Q5 (And.intro QA (And.intro QB (And.intro QE (And.intro RS (And.intro PW (And.intro SZ (And.intro D4 (And.intro D5 D7)))))))))))
      clear P Q4 Q5 QA QB QE RS PW SZ D4 D5 D7
      go_simp
      refine (HID.out _ hrd).mono ?_
      rintro e w6 ⟨rfl, hr6, hp6⟩
      obtain ⟨P, Q4, Q5, QA, QB, QE, RS, PW, SZ, D4, D5, D7⟩ := HQ.out
      obtain ⟨bk, fw, fn⟩ := on3 (f := f) (i := 3) (by omega)
      exact hKK (upd (upd gv 24 (Value.pointer (some ⟨br, 0, none⟩))) 25 (.agg (Bs x).toArray)) _ (by rw [upd_same e2]; exact ⟨trivial, vals_step (n := 3) (v := .agg (Bs x).toArray) hD (by decide) (by omega) P (fun _ => rfl), fun x => absurd (D4 (bk 4 (by decide) x)) off, fun x => absurd (D5 (bk 5 (by decide) x)).2.1 off, fun x => hp6.heap (QA (fun y => x (fw 7 y))) HNE.out.1.symm, fun x => ownsRow_id_past (QB (fun y => x (fw 5 y))) hp6 (by have := HNE.out.2; omega), fun x => absurd (D7 (bk 7 (by decide) x)).2.2.1 off, ⟨fun x => absurd fn x, fun _ => hr6⟩, PW.trans hp6, Nat.lt_of_lt_of_le SZ hp6.size, fun x => fw 3 (D4 (bk 4 (by decide) x)), fun x => (D5 (bk 5 (by decide) x)).imp (fw 1) (And.imp (fw 3) (fw 4)), fun x => (D7 (bk 7 (by decide) x)).imp (fw 5) (And.imp (fw 1) (And.imp (fw 3) (fw 4)))⟩)
     | 4, _ =>
      cases hio
      have off : ¬ On f 4 := on_off (by omega) hn
      have h3 : On f 3 := he ⟨3, .data⟩ (by simp) rfl
      have e3 : gv 25 = .agg (Bs x).toArray := P 3 (by decide) rfl h3
      have hS0 := SZ
      have hR0 := HNE.out.2
      rw [e3]
      have HQ := Lib.hid (And.intro P (And.intro Q4 (And.intro Q5 (And.intro QA (And.intro QB (And.intro QE (And.intro RS (And.intro PW (And.intro SZ (And.intro D4 (And.intro D5 D7)))))))))))
      clear P Q4 Q5 QA QB QE RS PW SZ D4 D5 D7
      obtain ⟨i0, hi0z, hz0, hz1, _⟩ := info_parts info_idz
      refine one_slice_at (by rfl) 22 48 (.tmp 25) rfl (Bs x) (by rfl) i0 _ Tryz.underlying22 hi0z hz0 (by rw [hz1, Bs_length, HX.out.1]) (by rw [Bs_length, HX.out.1]; decide) (by rw [Bs_length, HX.out.1]; decide) ?_
      simp only [Act.put, List.setIfInBounds_toArray]
      obtain ⟨b, hbb⟩ : ∃ b, b = wm.heap.size := ⟨_, rfl⟩
      obtain ⟨w6, hw6⟩ : ∃ w6, w6 = wm.alloc (.cells ((Bs x) : List Value).toArray 48) := ⟨_, rfl⟩
      have hb : Below wm.heap.size wm w6 := by rw [hw6]; exact (Below.refl _ _).alloc (Nat.le_refl _) _
      have hcb : Cel w6 b 48 (Bs x) := by rw [hw6, hbb]; exact Cel.new wm _ _
      rw [← hbb, ← hw6]
      have hbne : b ≠ bc ∧ b ≠ br := ⟨by omega, by omega⟩
      obtain ⟨P, Q4, Q5, QA, QB, QE, RS, PW, SZ, D4, D5, D7⟩ := HQ.out
      obtain ⟨bk, fw, fn⟩ := on3 (f := f) (i := 4) (by omega)
      exact hKK (upd (upd gv 25 (.agg (Bs x).toArray)) 26 (.slice (some ⟨b, 0, none⟩) 1 1)) _ (by rw [upd_same e3]; exact ⟨trivial, vals_step (n := 4) (v := .slice (some ⟨b, 0, none⟩) 1 1) hD (by decide) (by omega) P (fun h => nomatch (show true = false from h)), fun _ => ⟨b, rfl, .inr ⟨hbne.1, hbne.2, hcb⟩⟩, fun x => by obtain ⟨a5, c5, e9, h5o⟩ := Q5 (bk 5 (by decide) x); exact ⟨_, _, e9, h5o.imp (fw 7) (fun h => ownsRow_id_low h fun k hk => hb.block k (h.lt k hk).2)⟩, fun x => (QA (fun y => x (fw 7 y))).step hb, fun x => ownsRow_id_low (QB (fun y => x (fw 5 y))) fun k hk => hb.block k ((QB (fun y => x (fw 5 y))).lt k hk).2, fun x => absurd (D7 (bk 7 (by decide) x)).2.2.2 off, ⟨fun x => (RS.1 (fun y => x (fw 3 y))).below hb, fun x => (RS.2 (bk 3 (by decide) x)).below hb⟩, PW.step hb, Nat.lt_of_lt_of_le SZ hb.size, fun _ => fw 3 h3, fun x => (D5 (bk 5 (by decide) x)).imp (fw 1) (And.imp (fw 3) (fw 4)), fun x => (D7 (bk 7 (by decide) x)).imp (fw 5) (And.imp (fw 1) (And.imp (fw 3) (fw 4)))⟩)
     | 5, _ =>
      cases hio
      have off : ¬ On f 5 := on_off (by omega) hn
      have h1 : On f 1 := he ⟨1, .data⟩ (by simp) rfl
      have e1 : gv 23 = .slice av i cv := P 1 (by decide) rfl h1
      have h4 : On f 4 := he ⟨4, .data⟩ (by simp) rfl
      obtain ⟨b, e4, hb4⟩ := Q4 h4
      have hc4 := hb4.resolve_left off
      have hQ1 := QB off
      have hA1 := QA (fun x => off (D7 x).1)
      obtain ⟨v6, w6, hrun, hown, hg⟩ := app_id hQ1 hc4.2.2 HX.out.1 (by omega) hA1.lt
      rw [← Bs_app, ← HX.out.2.1, ← HI1.out] at hown
      have hlow : ∀ k, (Value.slice av i cv).ownBlock = some k → bc + 1 ≤ k := fun k hk => (hQ1.lt k hk).1
      obtain ⟨a6, c6, rfl, hown6⟩ : ∃ a c, v6 = .slice a i1 c ∧ w6.ownsRow (bc + 1) 48 32 (.slice a i1 c) i1 (Bs (r4.take (32 * i1))) := by
       rcases hown.2 with ⟨e1, e2⟩ | ⟨g, cap, cur, e1, _⟩
       ·have := HI1.out; omega
       ·exact ⟨_, _, e1, e1 ▸ hown⟩
      rw [e1, e4]
      have HQ := Lib.hid (And.intro P (And.intro Q4 (And.intro Q5 (And.intro QA (And.intro QB (And.intro QE (And.intro RS (And.intro PW (And.intro SZ (And.intro D4 (And.intro D5 D7)))))))))))
      clear P Q4 Q5 QA QB QE RS PW SZ D4 D5 D7
      refine app_run_at (by rfl) (.tmp 23) (.tmp 26) 22 rfl (by rfl) (by rfl) hrun ?_
      simp only [Act.put, List.setIfInBounds_toArray]
      obtain ⟨P, Q4, Q5, QA, QB, QE, RS, PW, SZ, D4, D5, D7⟩ := HQ.out
      obtain ⟨bk, fw, fn⟩ := on3 (f := f) (i := 5) (by omega)
      exact hKK (upd (upd (upd gv 23 (.slice av i cv)) 26 (.slice (some ⟨b, 0, none⟩) 1 1)) 27 (.slice a6 i1 c6)) _ (by rw [upd_same e1]; rw [upd_same e4]; exact ⟨trivial, vals_step (n := 5) (v := .slice a6 i1 c6) hD (by decide) (by omega) P (fun h => nomatch (show true = false from h)), fun x => by obtain ⟨b, e9, hb4⟩ := Q4 (bk 4 (by decide) x); exact ⟨_, e9, .inl fn⟩, fun _ => ⟨a6, c6, rfl, .inr hown6⟩, fun x => (QA (fun y => x (fw 7 y))).grown hg (fun k hk => hlow k hk), fun x => absurd fn x, fun x => absurd (D7 (bk 7 (by decide) x)).1 off, ⟨fun x => (RS.1 (fun y => x (fw 3 y))).grown hg HNE.out.2 (fun k hk => Nat.le_of_succ_le (hlow k hk)), fun x => (RS.2 (bk 3 (by decide) x)).grown hg HNE.out.2 (fun k hk => Nat.le_of_succ_le (hlow k hk))⟩, PW.grown hg (fun k hk => by rw [← HBC.out]; exact Nat.le_of_succ_le (hlow k hk)), Nat.lt_of_lt_of_le SZ hg.size, fun x => fw 3 (D4 (bk 4 (by decide) x)), fun _ => ⟨fw 1 h1, fw 3 (D4 h4), fw 4 h4⟩, fun x => (D7 (bk 7 (by decide) x)).imp (fw 5) (And.imp (fw 1) (And.imp (fw 3) (fw 4)))⟩)
     | 6, _ =>
      cases hio
      have off : ¬ On f 6 := on_off (by omega) hn
      have HQ := Lib.hid (And.intro P (And.intro Q4 (And.intro Q5 (And.intro QA (And.intro QB (And.intro QE (And.intro RS (And.intro PW (And.intro SZ (And.intro D4 (And.intro D5 D7)))))))))))
      clear P Q4 Q5 QA QB QE RS PW SZ D4 D5 D7
      go_simp
      obtain ⟨P, Q4, Q5, QA, QB, QE, RS, PW, SZ, D4, D5, D7⟩ := HQ.out
      obtain ⟨bk, fw, fn⟩ := on3 (f := f) (i := 6) (by omega)
      exact hKK (upd gv 28 (.pointer (some ⟨bc, 3, none⟩))) _ (by exact ⟨trivial, vals_step (n := 6) (v := .pointer (some ⟨bc, 3, none⟩)) hD (by decide) (by omega) P (fun _ => rfl), fun x => by obtain ⟨b, e9, hb4⟩ := Q4 (bk 4 (by decide) x); exact ⟨_, e9, hb4.imp (fw 5) id⟩, fun x => by obtain ⟨a5, c5, e9, h5o⟩ := Q5 (bk 5 (by decide) x); exact ⟨_, _, e9, h5o.imp (fw 7) id⟩, fun x => QA (fun y => x (fw 7 y)), fun x => QB (fun y => x (fw 5 y)), fun x => QE (bk 7 (by decide) x), ⟨fun x => RS.1 (fun y => x (fw 3 y)), fun x => RS.2 (bk 3 (by decide) x)⟩, PW, SZ, fun x => fw 3 (D4 (bk 4 (by decide) x)), fun x => (D5 (bk 5 (by decide) x)).imp (fw 1) (And.imp (fw 3) (fw 4)), fun x => (D7 (bk 7 (by decide) x)).imp (fw 5) (And.imp (fw 1) (And.imp (fw 3) (fw 4)))⟩)
     | 7, _ =>
      cases hio
      have off : ¬ On f 7 := on_off (by omega) hn
      have h5 : On f 5 := he ⟨5, .data⟩ (by simp) rfl
      obtain ⟨a5, c5, e5, h5o⟩ := Q5 h5
      have h6 : On f 6 := he ⟨6, .data⟩ (by simp) rfl
      have e6 : gv 28 = .pointer (some ⟨bc, 3, none⟩) := P 6 (by decide) rfl h6
      have hA1 := QA off
      have hO5 := h5o.resolve_left off
      have d0 : wm.cell? ⟨bc, 3, none⟩ = some (.slice av i cv) := hA1.at 3 _ rfl
      have d1 : wm.frozen? ⟨bc, 3, none⟩ = false := hA1.free 3
      have hcz := hA1.set 3 (.slice a5 i1 c5)
      have ho6 := only_set wm bc 3 (.slice a5 i1 c5)
      have hO6 := ownsRow_id_low hO5 fun k hk => ho6.block k (by have := (hO5.lt k hk).1; omega)
      rw [e5, e6]
      have HQ := Lib.hid (And.intro P (And.intro Q4 (And.intro Q5 (And.intro QA (And.intro QB (And.intro QE (And.intro RS (And.intro PW (And.intro SZ (And.intro D4 (And.intro D5 D7)))))))))))
      clear P Q4 Q5 QA QB QE RS PW SZ D4 D5 D7
      go_simp
      obtain ⟨P, Q4, Q5, QA, QB, QE, RS, PW, SZ, D4, D5, D7⟩ := HQ.out
      obtain ⟨bk, fw, fn⟩ := on3 (f := f) (i := 7) (by omega)
      exact hKK (upd (upd gv 27 (.slice a5 i1 c5)) 28 (.pointer (some ⟨bc, 3, none⟩))) _ (by rw [upd_same e5]; rw [upd_same e6]; exact ⟨trivial, vals_keep (n := 7) (by omega) rfl P, fun x => by obtain ⟨b, e9, hb4⟩ := Q4 (bk 4 (by decide) x); exact ⟨_, e9, .inl (fw 5 h5)⟩, fun x => by obtain ⟨a5, c5, e9, h5o⟩ := Q5 (bk 5 (by decide) x); exact ⟨_, _, e9, .inl fn⟩, fun x => absurd fn x, fun x => absurd (fw 5 h5) x, fun _ => ⟨a5, c5, hcz, hO6⟩, ⟨fun x => (RS.1 (fun y => x (fw 3 y))).only ho6 HNE.out.1 (fun k hk => Nat.ne_of_lt hk), fun x => (RS.2 (bk 3 (by decide) x)).only ho6 HNE.out.1 (fun k hk => Nat.ne_of_lt hk)⟩, PW.fresh ho6 (Nat.le_of_eq HBC.out.symm), by rw [ho6.size]; exact SZ, fun x => fw 3 (D4 (bk 4 (by decide) x)), fun x => (D5 (bk 5 (by decide) x)).imp (fw 1) (And.imp (fw 3) (fw 4)), fun _ => ⟨fw 5 h5, fw 1 (D5 h5).1, fw 3 (D5 h5).2.1, fw 4 (D5 h5).2.2⟩⟩)
    ·rintro f gv w5 hall hs' ⟨hBx, P, Q4, Q5, QA, QB, QE, RS, PW, SZ, D4, D5, D7⟩
     replace hs' : f.size = 8 := hs'
     have on : ∀ j, j < 8 → On f j := fun j hj => on_all hall hs' j hj
     obtain ⟨av', cv', hcz, hoz⟩ := QE (on 7 (by decide))
     have HC9 := Lib.hid hcz
     have HO9 := Lib.hid hoz
     have HR9 := Lib.hid (RS.2 (on 3 (by decide)))
     have HP9 := Lib.hid PW
     clear P Q4 Q5 QA QB QE RS PW SZ D4 D5 D7 hBx hall hs' on hcz hoz hD HID hC hO hR hP HS
     have HXI := Lib.hid HX.out.2.2
     go_wp2_with fail
     have hi1' := HI1.out
     refine ⟨⟨i1, av', cv', by omega, by rw [hi1']; go_num, HXI, HC9, HO9, HR9, HP9⟩, ?_⟩
     simp [intOf]; omega
   ·have HFF := Lib.hid (HF.out (by
     rw [HG4.out]
     unfold getC4
     rw [if_neg (by omega)]))
    unfold RIdP at HID
    simp only [if_neg h32] at HID
    clear hrl h32
    go_upto_region 5 with fail
    have hD : ∀ j, j < 8 → ∀ n, n < 8 → j ≠ n → dkN [22, 23, 24, 25, 26, 27, 28, 1007] j ≠ dkN [22, 23, 24, 25, 26, 27, 28, 1007] n := by decide +kernel
    refine region_fun (by kernel_rfl) (by kernel_rfl) (fun gv => #[Value.pointer (some ⟨br, 0, none⟩), undef, Value.pointer (some ⟨bc, 0, none⟩), undef, undef, undef, Value.pointer (some ⟨br, 0, none⟩), Value.int IntKind.u64 (N : Int), Value.int IntKind.i64 node, Value.pointer (some ⟨bc, 0, none⟩), Value.pointer (some ⟨bc, 0, none⟩), Value.pointer (some ⟨br, 0, none⟩), Value.int IntKind.i64 (s : Int), Value.pointer (some ⟨br, 0, none⟩), Value.int IntKind.i64 (g : Int), Value.pointer (some ⟨bc, 0, none⟩), Value.pointer (some ⟨bc, 1, none⟩), Value.pointer (some ⟨bc, 2, none⟩), Value.pointer (some ⟨br, 0, none⟩), Value.int IntKind.i64 (k : Int), Value.int IntKind.i64 (i : Int), Value.bool true, gv 22, gv 23, gv 24, gv 25, gv 26, gv 27, gv 28, gv 29, undef, undef, undef, undef, undef, undef, undef, undef, undef, undef, undef, undef, undef, undef, undef, undef, undef, undef, undef, undef, undef, undef, undef, undef, undef, undef]) rfl (fun f gv wx => True ∧ (∀ j, j < 8 → (fun j => Nat.beq j 7) j = false → On f j → gv (dkN [22, 23, 24, 25, 26, 27, 28, 1007] j) = vkN [.pointer (some ⟨bc, 3, none⟩), .slice av i cv, Value.pointer (some ⟨br, 0, none⟩), undef, undef, undef, .pointer (some ⟨bc, 3, none⟩), undef] j) ∧ (Cel wx bc 41 [.int .i64 node, .int .i64 (s : Int), .int .i64 (g : Int), .slice av i cv, .int .i64 0, .string ⟨#[]⟩, .string ⟨#[]⟩, .int .i64 0]) ∧ (RdR (fun k => k < bc) wx br 134 [] (r4.drop (32 * i))) ∧ (PastN w wx br) ∧ (¬ On f 3) ∧ (¬ On f 4) ∧ (¬ On f 5)) ?_ ?_ ?_
    ·have hoff : ∀ j, ¬ On (Array.replicate 8 false) j := by
      intro j hj; simp only [On, Array.getD_eq_getD_getElem?, Array.getElem?_replicate] at hj; split at hj <;> simp at hj
     exact ⟨trivial, fun j _ _ x => absurd x (hoff _), hC.out, hR.out.below ((Below.refl _ _).drew), hP.out.step (Below.refl _ _).drew, hoff _, hoff _, hoff _⟩
    ·rintro i' o' f gv wm hio hs' hn he ⟨hBx, P, QA, RS, PW, N3, N4, N5⟩ KK hKK
     have hi' : i' < 8 := (Array.getElem?_eq_some_iff.1 hio).1
     replace hs' : f.size = 8 := hs'
     match i', hi' with
     | 0, _ =>
      cases hio
      have off : ¬ On f 0 := on_off (by omega) hn
      have HQ := Lib.hid (And.intro P (And.intro QA (And.intro RS (And.intro PW (And.intro N3 (And.intro N4 N5))))))
      clear P QA RS PW N3 N4 N5
      go_simp
      obtain ⟨P, QA, RS, PW, N3, N4, N5⟩ := HQ.out
      obtain ⟨bk, fw, fn⟩ := on3 (f := f) (i := 0) (by omega)
      exact hKK (upd gv 22 (.pointer (some ⟨bc, 3, none⟩))) _ (by exact ⟨trivial, vals_step (n := 0) (v := .pointer (some ⟨bc, 3, none⟩)) hD (by decide) (by omega) P (fun _ => rfl), QA, RS, PW, fun x => N3 (bk 3 (by decide) x), fun x => N4 (bk 4 (by decide) x), fun x => N5 (bk 5 (by decide) x)⟩)
     | 1, _ =>
      cases hio
      have off : ¬ On f 1 := on_off (by omega) hn
      have h0 : On f 0 := he ⟨0, .data⟩ (by simp) rfl
      have e0 : gv 22 = .pointer (some ⟨bc, 3, none⟩) := P 0 (by decide) rfl h0
      have d0 : wm.cell? ⟨bc, 3, none⟩ = some (.slice av i cv) := QA.at 3 _ rfl
      rw [e0]
      have HQ := Lib.hid (And.intro P (And.intro QA (And.intro RS (And.intro PW (And.intro N3 (And.intro N4 N5))))))
      clear P QA RS PW N3 N4 N5
      go_simp
      obtain ⟨P, QA, RS, PW, N3, N4, N5⟩ := HQ.out
      obtain ⟨bk, fw, fn⟩ := on3 (f := f) (i := 1) (by omega)
      exact hKK (upd (upd gv 22 (.pointer (some ⟨bc, 3, none⟩))) 23 (.slice av i cv)) _ (by rw [upd_same e0]; exact ⟨trivial, vals_step (n := 1) (v := .slice av i cv) hD (by decide) (by omega) P (fun _ => rfl), QA, RS, PW, fun x => N3 (bk 3 (by decide) x), fun x => N4 (bk 4 (by decide) x), fun x => N5 (bk 5 (by decide) x)⟩)
     | 2, _ =>
      cases hio
      have off : ¬ On f 2 := on_off (by omega) hn
      have HQ := Lib.hid (And.intro P (And.intro QA (And.intro RS (And.intro PW (And.intro N3 (And.intro N4 N5))))))
      clear P QA RS PW N3 N4 N5
      go_simp
      obtain ⟨P, QA, RS, PW, N3, N4, N5⟩ := HQ.out
      obtain ⟨bk, fw, fn⟩ := on3 (f := f) (i := 2) (by omega)
      exact hKK (upd gv 24 (Value.pointer (some ⟨br, 0, none⟩))) _ (by exact ⟨trivial, vals_step (n := 2) (v := Value.pointer (some ⟨br, 0, none⟩)) hD (by decide) (by omega) P (fun _ => rfl), QA, RS, PW, fun x => N3 (bk 3 (by decide) x), fun x => N4 (bk 4 (by decide) x), fun x => N5 (bk 5 (by decide) x)⟩)
     | 3, _ =>
      cases hio
      have off : ¬ On f 3 := on_off (by omega) hn
      have h2 : On f 2 := he ⟨2, .data⟩ (by simp) rfl
      have e2 : gv 24 = Value.pointer (some ⟨br, 0, none⟩) := P 2 (by decide) rfl h2
      have hrd := RS
      have hpw := PW
      rw [e2]
      have HQ := Lib.hid (And.intro P (And.intro QA (And.intro RS (And.intro PW (And.intro N3 (And.intro N4 N5))))))
      clear P QA RS PW N3 N4 N5
      go_simp
      refine (HID.out _ hrd).mono ?_
      rintro e w6 ⟨rfl, hp6⟩
      have HPF := Lib.hid (hpw.trans hp6)
      clear hrd hpw hp6 HQ
      go_wp2_with fail
      exact ⟨rfl, HFF.out _ HPF.out⟩
     | 4, _ =>
      cases hio
      have off : ¬ On f 4 := on_off (by omega) hn
      have h3 : On f 3 := he ⟨3, .data⟩ (by simp) rfl
      have e3 : gv 25 = undef := P 3 (by decide) rfl h3
      exact absurd h3 N3
     | 5, _ =>
      cases hio
      have off : ¬ On f 5 := on_off (by omega) hn
      have h1 : On f 1 := he ⟨1, .data⟩ (by simp) rfl
      have e1 : gv 23 = .slice av i cv := P 1 (by decide) rfl h1
      have h4 : On f 4 := he ⟨4, .data⟩ (by simp) rfl
      have e4 : gv 26 = undef := P 4 (by decide) rfl h4
      exact absurd h4 N4
     | 6, _ =>
      cases hio
      have off : ¬ On f 6 := on_off (by omega) hn
      have HQ := Lib.hid (And.intro P (And.intro QA (And.intro RS (And.intro PW (And.intro N3 (And.intro N4 N5))))))
      clear P QA RS PW N3 N4 N5
      go_simp
      obtain ⟨P, QA, RS, PW, N3, N4, N5⟩ := HQ.out
      obtain ⟨bk, fw, fn⟩ := on3 (f := f) (i := 6) (by omega)
      exact hKK (upd gv 28 (.pointer (some ⟨bc, 3, none⟩))) _ (by exact ⟨trivial, vals_step (n := 6) (v := .pointer (some ⟨bc, 3, none⟩)) hD (by decide) (by omega) P (fun _ => rfl), QA, RS, PW, fun x => N3 (bk 3 (by decide) x), fun x => N4 (bk 4 (by decide) x), fun x => N5 (bk 5 (by decide) x)⟩)
     | 7, _ =>
      cases hio
      have off : ¬ On f 7 := on_off (by omega) hn
      have h5 : On f 5 := he ⟨5, .data⟩ (by simp) rfl
      have e5 : gv 27 = undef := P 5 (by decide) rfl h5
      have h6 : On f 6 := he ⟨6, .data⟩ (by simp) rfl
      have e6 : gv 28 = .pointer (some ⟨bc, 3, none⟩) := P 6 (by decide) rfl h6
      exact absurd h5 N5
    ·rintro f gv w5 hall hs' ⟨hBx, P, QA, RS, PW, N3, N4, N5⟩
     replace hs' : f.size = 8 := hs'
     have on : ∀ j, j < 8 → On f j := fun j hj => on_all hall hs' j hj
     exact absurd (on 3 (by decide)) N3
  ·obtain rfl : k = i := by omega
   have HS := Lib.hid (show bc + 1 ≤ wr.heap.size from hC.out.lt)
   obtain ⟨l5, hl5⟩ : ∃ l5, l5 = r4.drop (32 * k) := ⟨_, rfl⟩
   have HGC := Lib.hid (show getC l = (if node = -1 then finC ⟨-1, s, g, idsOf k r4, zeroO⟩ l5 else match getO l5 with
    | none => none
    | some (o, r) => finC ⟨node, s, g, idsOf k r4, o⟩ r) from by rw [HG4.out]; unfold getC4; rw [if_pos hI.out, ← HNODE.out, ← hl5])
   rw [← hl5] at hR
   have hl5l : l5.length ≤ 100000 := by rw [hl5, List.length_drop]; omega
   clear hl5
   by_cases hm1 : node = -1
   ·have hm' : (node != -1) = false := by simpa using hm1
    obtain ⟨cc, hcc⟩ : ∃ cc : Cmt, cc = ⟨node, s, g, idsOf k r4, zeroO⟩ := ⟨_, rfl⟩
    have HCC := Lib.hid hcc
    have HKE := Lib.hid (show cc.op.key.length ≤ 9223372036854775807 ∧ cc.op.elem.length ≤ 9223372036854775807 by rw [hcc]; exact ⟨Nat.zero_le _, Nat.zero_le _⟩)
    have HGF := Lib.hid (show getC l = finC cc l5 by rw [HGC.out, if_pos hm1, hcc, hm1])
    clear hm1 hcc
    obtain ⟨m, hm⟩ : ∃ m, m = mayC cc := ⟨_, rfl⟩
    have HIDS := Lib.hid (show ∀ w', w'.ownsRow (bc + 1) 48 32 (.slice av k cv) k (Bs (r4.take (32 * k))) → Ids w' av k cv (idsOf k r4) from fun w' h => by
     obtain ⟨a', c', e, h2, _⟩ := Ids.of_own h hI.out
     injection e with e1 _ e2
     subst e1 e2
     exact h2)
    have HMAY := Lib.hid (fun w' (h : Ids w' av k cv (idsOf k r4)) => show Calls Tryz.prog 34 #[.agg #[.int .i64 node, .int .i64 (s : Int), .int .i64 (g : Int), .slice av k cv, .int .i64 0, .string ⟨#[]⟩, .string ⟨#[]⟩, .int .i64 0]] w' (fun e w'' => e = .returned (.bool m) ∧ Below w'.heap.size w' w'') by
     have h2 := cmay_any cc av cv w' ⟨by rw [HCC.out]; show Ids w' av (idsOf k r4).length cv (idsOf k r4); rw [idsOf_length]; exact h, HKE.out.1, HKE.out.2⟩
     rw [← hm] at h2
     have e : cc.val av cv = .agg #[.int .i64 node, .int .i64 (s : Int), .int .i64 (g : Int), .slice av k cv, .int .i64 0, .string ⟨#[]⟩, .string ⟨#[]⟩, .int .i64 0] := by rw [HCC.out]; unfold Cmt.val Cmt.cs; simp only [idsOf_length]; rfl
     rw [e] at h2
     exact h2)
    have HM := Lib.hid hm
    clear hm
    have p0 : wr.cell? ⟨bc, 0, none⟩ = some (.int .i64 node) := hC.out.at 0 _ rfl
    have p1 : wr.cell? ⟨bc, 1, none⟩ = some (.int .i64 (s : Int)) := hC.out.at 1 _ rfl
    have p2 : wr.cell? ⟨bc, 2, none⟩ = some (.int .i64 (g : Int)) := hC.out.at 2 _ rfl
    have p3 : wr.cell? ⟨bc, 3, none⟩ = some (.slice av k cv) := hC.out.at 3 _ rfl
    have p4 : wr.cell? ⟨bc, 4, none⟩ = some (.int .i64 0) := hC.out.at 4 _ rfl
    have p5 : wr.cell? ⟨bc, 5, none⟩ = some (.string ⟨#[]⟩) := hC.out.at 5 _ rfl
    have p6 : wr.cell? ⟨bc, 6, none⟩ = some (.string ⟨#[]⟩) := hC.out.at 6 _ rfl
    have p7 : wr.cell? ⟨bc, 7, none⟩ = some (.int .i64 0) := hC.out.at 7 _ rfl
    go_wp2_with fail
    refine (HMAY.out _ (HIDS.out _ hO.out)).mono ?_
    rintro e wA ⟨rfl, hb⟩
    have HCA := Lib.hid (hC.out.step hb)
    have HPA := Lib.hid (hP.out.step hb)
    have HRA := Lib.hid (hR.out.below hb)
    have HOA := Lib.hid (ownsRow_id_low hO.out fun k hk => hb.block k (hO.out.lt k hk).2)
    clear hb p0 p1 p2 p3 p4 p5 p6 p7
    cases m with
    | false =>
     have HFF := Lib.hid (HF.out (by rw [HGF.out]; unfold finC; rw [if_neg (by rw [← HM.out]; decide)]))
     go_wp2_with fail
     refine (unless_no _).mono ?_
     rintro e w' ⟨rfl, rfl⟩
     go_wp2_with fail
     exact ⟨rfl, HFF.out _ HPA.out⟩
    | true =>
     have HFS := Lib.hid (show getC l = some (cc, l5) by rw [HGF.out]; unfold finC; rw [if_pos HM.out.symm])
     go_wp2_with fail
     refine (unless_yes _).mono ?_
     rintro e w' ⟨rfl, rfl⟩
     have p0 : w'.cell? ⟨bc, 0, none⟩ = some (.int .i64 node) := HCA.out.at 0 _ rfl
     have p1 : w'.cell? ⟨bc, 1, none⟩ = some (.int .i64 (s : Int)) := HCA.out.at 1 _ rfl
     have p2 : w'.cell? ⟨bc, 2, none⟩ = some (.int .i64 (g : Int)) := HCA.out.at 2 _ rfl
     have p3 : w'.cell? ⟨bc, 3, none⟩ = some (.slice av k cv) := HCA.out.at 3 _ rfl
     have p4 : w'.cell? ⟨bc, 4, none⟩ = some (.int .i64 0) := HCA.out.at 4 _ rfl
     have p5 : w'.cell? ⟨bc, 5, none⟩ = some (.string ⟨#[]⟩) := HCA.out.at 5 _ rfl
     have p6 : w'.cell? ⟨bc, 6, none⟩ = some (.string ⟨#[]⟩) := HCA.out.at 6 _ rfl
     have p7 : w'.cell? ⟨bc, 7, none⟩ = some (.int .i64 0) := HCA.out.at 7 _ rfl
     have f0 : w'.frozen? ⟨bc, 0, none⟩ = false := HCA.out.free 0
     have f1 : w'.frozen? ⟨bc, 1, none⟩ = false := HCA.out.free 1
     have f2 : w'.frozen? ⟨bc, 2, none⟩ = false := HCA.out.free 2
     have f3 : w'.frozen? ⟨bc, 3, none⟩ = false := HCA.out.free 3
     have f4 : w'.frozen? ⟨bc, 4, none⟩ = false := HCA.out.free 4
     have f5 : w'.frozen? ⟨bc, 5, none⟩ = false := HCA.out.free 5
     have f6 : w'.frozen? ⟨bc, 6, none⟩ = false := HCA.out.free 6
     have f7 : w'.frozen? ⟨bc, 7, none⟩ = false := HCA.out.free 7
     go_wp2_with fail
     generalize hwF : World.setCell (World.setCell (World.setCell (World.setCell (World.setCell (World.setCell (World.setCell (World.setCell w' _ _) _ _) _ _) _ _) _ _) _ _) _ _) _ _ = wF
     have hOF : Only w' wF bc := by rw [← hwF]; exact (((((((only_set _ _ _ _).trans (only_set _ _ _ _)).trans (only_set _ _ _ _)).trans (only_set _ _ _ _)).trans (only_set _ _ _ _)).trans (only_set _ _ _ _)).trans (only_set _ _ _ _)).trans (only_set _ _ _ _)
     have HCF := Lib.hid (show Cel wF bc 41 [.int .i64 node, .int .i64 (s : Int), .int .i64 (g : Int), .slice av k cv, .int .i64 0, .string ⟨#[]⟩, .string ⟨#[]⟩, .int .i64 0] by rw [← hwF]; exact (((((((HCA.out.set 0 _).set 1 _).set 2 _).set 3 _).set 4 _).set 5 _).set 6 _).set 7 _)
     have hOFr := ownsRow_id_low HOA.out fun k hk => hOF.block k (by have := (HOA.out.lt k hk).1; omega)
     have HEND := Lib.hid (show RReadP br l w (.returned (.agg #[.int .i64 node, .int .i64 (s : Int), .int .i64 (g : Int), .slice av k cv, .int .i64 0, .string ⟨#[]⟩, .string ⟨#[]⟩, .int .i64 0])) wF by
      unfold RReadP
      rw [HFS.out]
      have e : cc.val av cv = .agg #[.int .i64 node, .int .i64 (s : Int), .int .i64 (g : Int), .slice av k cv, .int .i64 0, .string ⟨#[]⟩, .string ⟨#[]⟩, .int .i64 0] := by rw [HCC.out]; unfold Cmt.val Cmt.cs; simp only [idsOf_length]; rfl
      refine ⟨av, cv, by rw [e], ⟨by rw [HCC.out]; show Ids wF av (idsOf k r4).length cv (idsOf k r4); rw [idsOf_length]; exact HIDS.out _ hOFr, HKE.out.1, HKE.out.2⟩, (HRA.out.only hOF HNE.out.1 (fun k hk => Nat.ne_of_lt hk)).imp (fun _ _ => trivial), HPA.out.fresh hOF (Nat.le_of_eq HBC.out.symm), fun x hx => ?_⟩
      have := (hOFr.lt x.block (by rw [hx]; rfl)).1
      rw [← HBC.out]
      omega)
     clear hwF hOF hOFr p0 p1 p2 p3 p4 p5 p6 p7 f0 f1 f2 f3 f4 f5 f6 f7
     refine bodyPost_ret (v := .agg #[.int .i64 node, .int .i64 (s : Int), .int .i64 (g : Int), .slice av k cv, .int .i64 0, .string ⟨#[]⟩, .string ⟨#[]⟩, .int .i64 0]) ?_ rfl HEND.out
     have hl := run_loadVar_mid (P := Tryz.prog) wF bc 0 41 _ _ HCF.out.range Tryz.underlying41 rfl (by kernel_rfl)
     simp [results, Tryz.results113, asAddr, hl, Result.andThen]
   ·have hm' : (node != -1) = true := by simpa using hm1
    have HGC2 := Lib.hid (HGC.out.trans (if_neg hm1))
    clear hm1
    obtain ⟨a5, c5, k1, k2, k3, k4⟩ := hR.out
    have HOG := Lib.hid (opget_any a5 l5.length c5 l5 wr k2 k3 (by omega))
    unfold GetP at HOG
    have HBR := Lib.hid k1
    obtain ⟨n5, hn5⟩ : ∃ n5, n5 = l5.length := ⟨_, rfl⟩
    rw [← hn5] at HOG HBR k1
    have r0 : wr.cell? ⟨br, 0, none⟩ = some (.slice a5 n5 c5) := k1.at 0 _ rfl
    have p0 : wr.cell? ⟨bc, 0, none⟩ = some (.int .i64 node) := hC.out.at 0 _ rfl
    clear k1 k2 k3 k4 hn5
    cases ho : getO l5 with
    | none =>
     have HFF := Lib.hid (HF.out (by rw [HGC2.out, ho]))
     simp only [ho] at HOG
     clear ho
     go_wp2_with fail
     refine HOG.out.mono ?_
     rintro e w8 ⟨rfl, hb⟩
     have HP8 := Lib.hid (hP.out.step hb)
     clear hb p0 r0
     unfold zeroOp
     go_upto_region 9 with fail
     generalize hw9 : w8.alloc (.cells _ _) = w9
     have HP9 := Lib.hid (HP8.out.step (show Below w8.heap.size w8 w9 by rw [← hw9]; exact (Below.refl _ _).alloc (Nat.le_refl _) _))
     clear hw9
     go_wp2_with fail
     refine (unless_no _).mono ?_
     rintro e w' ⟨rfl, rfl⟩
     go_wp2_with fail
     exact ⟨rfl, HFF.out _ HP9.out⟩
    | some q =>
     obtain ⟨o, r⟩ := q
     obtain ⟨hmo, hro⟩ := get_got ho
     have hro2 : r.length ≤ l5.length := by rw [← hro, List.length_append]; omega
     simp only [ho] at HOG
     have HGF0 := Lib.hid (show getC l = finC ⟨node, s, g, idsOf k r4, o⟩ r by rw [HGC2.out, ho])
     have hle := mayB_lens hmo
     clear ho hro hmo
     obtain ⟨cc, hcc⟩ : ∃ cc : Cmt, cc = ⟨node, s, g, idsOf k r4, o⟩ := ⟨_, rfl⟩
     rw [← hcc] at HGF0
     have HGF := Lib.hid HGF0.out
     have HKE := Lib.hid (show cc.op.key.length ≤ 9223372036854775807 ∧ cc.op.elem.length ≤ 9223372036854775807 by rw [hcc]; exact ⟨by simp only; omega, by simp only; omega⟩)
     obtain ⟨kind, key, elem, num⟩ := o
     have HCC := Lib.hid hcc
     unfold Opn.val at HOG
     simp only at HOG
     obtain ⟨s1, hs1⟩ : ∃ s : ByteArray, s = ⟨key.toArray⟩ := ⟨_, rfl⟩
     obtain ⟨s2, hs2⟩ : ∃ s : ByteArray, s = ⟨elem.toArray⟩ := ⟨_, rfl⟩
     rw [← hs1, ← hs2] at HOG
     have HSS := Lib.hid (And.intro hs1 hs2)
     obtain ⟨nr, hnr⟩ : ∃ nr, nr = r.length := ⟨_, rfl⟩
     rw [← hnr] at HOG
     have HNR := Lib.hid hnr
     clear hcc hle hs1 hs2 hnr hro2 HGF0
     go_wp2_with fail
     refine HOG.out.mono ?_
     rintro e w8 ⟨a6, c6, rfl, hr6, hz6, hb⟩
     have hC8 := hC.out.step hb
     have hBR8 := HBR.out.step hb
     have hap1 := hr6.apart hBR8 (by intro v hv z; simp only [List.mem_cons, List.not_mem_nil, or_false] at hv; subst hv; exact fun h => nomatch h)
     have hap2 := hr6.apart hC8 (by intro v hv z; simp only [List.mem_cons, List.not_mem_nil, or_false] at hv; rcases hv with rfl | rfl | rfl | rfl | rfl | rfl | rfl | rfl <;> exact fun h => nomatch h)
     have HR8 := Lib.hid (And.intro hr6 (And.intro hz6 (And.intro hap1 hap2)))
     have HC8 := Lib.hid hC8
     have HBR8 := Lib.hid hBR8
     have HP8 := Lib.hid (hP.out.step hb)
     have HO8 := Lib.hid (ownsRow_id_low hO.out fun k hk => hb.block k (hO.out.lt k hk).2)
     clear hb hr6 hz6 hap1 hap2 hC8 hBR8 p0 r0 HOG
     go_upto_region 9 with fail
     have hD0 := Cel.new w8 39 [.int .i64 kind, .string s1, .string s2, .int .i64 num]
     obtain ⟨b3, hb3⟩ : ∃ b3, b3 = w8.heap.size := ⟨_, rfl⟩
     rw [← hb3] at hD0 ⊢
     generalize hw9 : w8.alloc (.cells _ _) = w9
     have hb89 : Below w8.heap.size w8 w9 := by rw [← hw9]; exact (Below.refl _ _).alloc (Nat.le_refl _) _
     have HD9 := Lib.hid (show Cel w9 b3 39 [.int .i64 kind, .string s1, .string s2, .int .i64 num] by rw [← hw9]; exact hD0)
     have HC9 := Lib.hid (HC8.out.step hb89)
     have HBR9 := Lib.hid (HBR8.out.step hb89)
     have HP9 := Lib.hid (HP8.out.step hb89)
     have HO9 := Lib.hid (ownsRow_id_low HO8.out fun k hk => hb89.block k (HO8.out.lt k hk).2)
     have HR9 := Lib.hid (HR8.out.1.below hb89)
     have hq0 : w9.cell? ⟨b3, 0, none⟩ = some (.int .i64 kind) := HD9.out.at 0 _ rfl
     have hq1 : w9.cell? ⟨b3, 1, none⟩ = some (.string s1) := HD9.out.at 1 _ rfl
     have hq2 : w9.cell? ⟨b3, 2, none⟩ = some (.string s2) := HD9.out.at 2 _ rfl
     have hq3 : w9.cell? ⟨b3, 3, none⟩ = some (.int .i64 num) := HD9.out.at 3 _ rfl
     have r0 : w9.cell? ⟨br, 0, none⟩ = some (.slice a5 n5 c5) := HBR9.out.at 0 _ rfl
     have fr0 : w9.frozen? ⟨br, 0, none⟩ = false := HBR9.out.free 0
     clear hD0 hb3 hw9 hb89
     go_wp2_with fail
     refine (unless_yes _).mono ?_
     rintro e w' ⟨rfl, rfl⟩
     have p4 : w'.cell? ⟨bc, 4, none⟩ = some (.int .i64 0) := HC9.out.at 4 _ rfl
     have p5 : w'.cell? ⟨bc, 5, none⟩ = some (.string ⟨#[]⟩) := HC9.out.at 5 _ rfl
     have p6 : w'.cell? ⟨bc, 6, none⟩ = some (.string ⟨#[]⟩) := HC9.out.at 6 _ rfl
     have p7 : w'.cell? ⟨bc, 7, none⟩ = some (.int .i64 0) := HC9.out.at 7 _ rfl
     have f4 : w'.frozen? ⟨bc, 4, none⟩ = false := HC9.out.free 4
     have f5 : w'.frozen? ⟨bc, 5, none⟩ = false := HC9.out.free 5
     have f6 : w'.frozen? ⟨bc, 6, none⟩ = false := HC9.out.free 6
     have f7 : w'.frozen? ⟨bc, 7, none⟩ = false := HC9.out.free 7
     go_upto_region 11 with fail
     generalize hwX : World.setCell (World.setCell (World.setCell (World.setCell w' _ _) _ _) _ _) _ _ = wX
     have hOX : Only w' wX bc := by rw [← hwX]; exact (((only_set _ _ _ _).trans (only_set _ _ _ _)).trans (only_set _ _ _ _)).trans (only_set _ _ _ _)
     have hCX : Cel wX bc 41 [.int .i64 node, .int .i64 (s : Int), .int .i64 (g : Int), .slice av k cv, .int .i64 kind, .string s1, .string s2, .int .i64 num] := by rw [← hwX]; exact (((HC9.out.set 4 _).set 5 _).set 6 _).set 7 _
     have hBX : Cel wX br 134 [.slice a5 n5 c5] := hOX.heap HBR9.out HNE.out.1
     clear hwX
     generalize hwY : World.setCell wX _ _ = wY
     have hOY : Only wX wY br := by rw [← hwY]; exact only_set _ _ _ _
     have HCY := Lib.hid (show Cel wY bc 41 [.int .i64 node, .int .i64 (s : Int), .int .i64 (g : Int), .slice av k cv, .int .i64 kind, .string s1, .string s2, .int .i64 num] from hOY.heap hCX HNE.out.1.symm)
     have hRY : Rd wY a6 nr c6 r := (HR9.out.only' hOX HR8.out.2.2.2).only' hOY HR8.out.2.2.1
     have HRY := Lib.hid (show RdR (fun k => k ≠ bc) wY br 134 [] r from ⟨a6, c6, by rw [← HNR.out, ← hwY]; exact hBX.set 0 _, by rw [← HNR.out]; exact hRY, HR8.out.2.1, fun x hx hp => ⟨HR8.out.2.2.1 x hx (by rw [HNR.out]; exact hp), HR8.out.2.2.2 x hx (by rw [HNR.out]; exact hp)⟩⟩)
     have HPY := Lib.hid ((HP9.out.fresh hOX (Nat.le_of_eq HBC.out.symm)).only hOY)
     have HOY := Lib.hid (ownsRow_id_low (ownsRow_id_low HO9.out fun k hk => hOX.block k (by have := (HO9.out.lt k hk).1; omega)) fun k hk => hOY.block k (by have := (HO9.out.lt k hk).1; have := HNE.out.2; omega))
     clear hOX hCX hBX hwY hOY hRY p4 p5 p6 p7 f4 f5 f6 f7 hq0 hq1 hq2 hq3 r0 fr0
     obtain ⟨m, hm⟩ : ∃ m, m = mayC cc := ⟨_, rfl⟩
     have HIDS := Lib.hid (show ∀ w', w'.ownsRow (bc + 1) 48 32 (.slice av k cv) k (Bs (r4.take (32 * k))) → Ids w' av k cv (idsOf k r4) from fun w' h => by
      obtain ⟨a', c', e, h2, _⟩ := Ids.of_own h hI.out
      injection e with e1 _ e2
      subst e1 e2
      exact h2)
     have HMAY := Lib.hid (fun w' (h : Ids w' av k cv (idsOf k r4)) => show Calls Tryz.prog 34 #[.agg #[.int .i64 node, .int .i64 (s : Int), .int .i64 (g : Int), .slice av k cv, .int .i64 kind, .string s1, .string s2, .int .i64 num]] w' (fun e w'' => e = .returned (.bool m) ∧ Below w'.heap.size w' w'') by
      have h2 := cmay_any cc av cv w' ⟨by rw [HCC.out]; show Ids w' av (idsOf k r4).length cv (idsOf k r4); rw [idsOf_length]; exact h, HKE.out.1, HKE.out.2⟩
      rw [← hm] at h2
      have e : cc.val av cv = .agg #[.int .i64 node, .int .i64 (s : Int), .int .i64 (g : Int), .slice av k cv, .int .i64 kind, .string s1, .string s2, .int .i64 num] := by rw [HCC.out]; unfold Cmt.val Cmt.cs; simp only [idsOf_length]; rw [HSS.out.1, HSS.out.2]
      rw [e] at h2
      exact h2)
     have HM := Lib.hid hm
     clear hm
     have p0 : wY.cell? ⟨bc, 0, none⟩ = some (.int .i64 node) := HCY.out.at 0 _ rfl
     have p1 : wY.cell? ⟨bc, 1, none⟩ = some (.int .i64 (s : Int)) := HCY.out.at 1 _ rfl
     have p2 : wY.cell? ⟨bc, 2, none⟩ = some (.int .i64 (g : Int)) := HCY.out.at 2 _ rfl
     have p3 : wY.cell? ⟨bc, 3, none⟩ = some (.slice av k cv) := HCY.out.at 3 _ rfl
     have p4 : wY.cell? ⟨bc, 4, none⟩ = some (.int .i64 kind) := HCY.out.at 4 _ rfl
     have p5 : wY.cell? ⟨bc, 5, none⟩ = some (.string s1) := HCY.out.at 5 _ rfl
     have p6 : wY.cell? ⟨bc, 6, none⟩ = some (.string s2) := HCY.out.at 6 _ rfl
     have p7 : wY.cell? ⟨bc, 7, none⟩ = some (.int .i64 num) := HCY.out.at 7 _ rfl
     go_wp2_with fail
     refine (HMAY.out _ (HIDS.out _ HOY.out)).mono ?_
     rintro e wA ⟨rfl, hb⟩
     have HCA := Lib.hid (HCY.out.step hb)
     have HPA := Lib.hid (HPY.out.step hb)
     have HRA := Lib.hid (HRY.out.below hb)
     have HOA := Lib.hid (ownsRow_id_low HOY.out fun k hk => hb.block k (HOY.out.lt k hk).2)
     clear hb p0 p1 p2 p3 p4 p5 p6 p7
     cases m with
     | false =>
      have HFF := Lib.hid (HF.out (by rw [HGF.out]; unfold finC; rw [if_neg (by rw [← HM.out]; decide)]))
      go_wp2_with fail
      refine (unless_no _).mono ?_
      rintro e w' ⟨rfl, rfl⟩
      go_wp2_with fail
      exact ⟨rfl, HFF.out _ HPA.out⟩
     | true =>
      have HFS := Lib.hid (show getC l = some (cc, r) by rw [HGF.out]; unfold finC; rw [if_pos HM.out.symm])
      go_wp2_with fail
      refine (unless_yes _).mono ?_
      rintro e w' ⟨rfl, rfl⟩
      have p0 : w'.cell? ⟨bc, 0, none⟩ = some (.int .i64 node) := HCA.out.at 0 _ rfl
      have p1 : w'.cell? ⟨bc, 1, none⟩ = some (.int .i64 (s : Int)) := HCA.out.at 1 _ rfl
      have p2 : w'.cell? ⟨bc, 2, none⟩ = some (.int .i64 (g : Int)) := HCA.out.at 2 _ rfl
      have p3 : w'.cell? ⟨bc, 3, none⟩ = some (.slice av k cv) := HCA.out.at 3 _ rfl
      have p4 : w'.cell? ⟨bc, 4, none⟩ = some (.int .i64 kind) := HCA.out.at 4 _ rfl
      have p5 : w'.cell? ⟨bc, 5, none⟩ = some (.string s1) := HCA.out.at 5 _ rfl
      have p6 : w'.cell? ⟨bc, 6, none⟩ = some (.string s2) := HCA.out.at 6 _ rfl
      have p7 : w'.cell? ⟨bc, 7, none⟩ = some (.int .i64 num) := HCA.out.at 7 _ rfl
      have f0 : w'.frozen? ⟨bc, 0, none⟩ = false := HCA.out.free 0
      have f1 : w'.frozen? ⟨bc, 1, none⟩ = false := HCA.out.free 1
      have f2 : w'.frozen? ⟨bc, 2, none⟩ = false := HCA.out.free 2
      have f3 : w'.frozen? ⟨bc, 3, none⟩ = false := HCA.out.free 3
      have f4 : w'.frozen? ⟨bc, 4, none⟩ = false := HCA.out.free 4
      have f5 : w'.frozen? ⟨bc, 5, none⟩ = false := HCA.out.free 5
      have f6 : w'.frozen? ⟨bc, 6, none⟩ = false := HCA.out.free 6
      have f7 : w'.frozen? ⟨bc, 7, none⟩ = false := HCA.out.free 7
      go_wp2_with fail
      generalize hwF : World.setCell (World.setCell (World.setCell (World.setCell (World.setCell (World.setCell (World.setCell (World.setCell w' _ _) _ _) _ _) _ _) _ _) _ _) _ _) _ _ = wF
      have hOF : Only w' wF bc := by rw [← hwF]; exact (((((((only_set _ _ _ _).trans (only_set _ _ _ _)).trans (only_set _ _ _ _)).trans (only_set _ _ _ _)).trans (only_set _ _ _ _)).trans (only_set _ _ _ _)).trans (only_set _ _ _ _)).trans (only_set _ _ _ _)
      have HCF := Lib.hid (show Cel wF bc 41 [.int .i64 node, .int .i64 (s : Int), .int .i64 (g : Int), .slice av k cv, .int .i64 kind, .string s1, .string s2, .int .i64 num] by rw [← hwF]; exact (((((((HCA.out.set 0 _).set 1 _).set 2 _).set 3 _).set 4 _).set 5 _).set 6 _).set 7 _)
      have hOFr := ownsRow_id_low HOA.out fun k hk => hOF.block k (by have := (HOA.out.lt k hk).1; omega)
      have HEND := Lib.hid (show RReadP br l w (.returned (.agg #[.int .i64 node, .int .i64 (s : Int), .int .i64 (g : Int), .slice av k cv, .int .i64 kind, .string s1, .string s2, .int .i64 num])) wF by
       unfold RReadP
       rw [HFS.out]
       have e : cc.val av cv = .agg #[.int .i64 node, .int .i64 (s : Int), .int .i64 (g : Int), .slice av k cv, .int .i64 kind, .string s1, .string s2, .int .i64 num] := by rw [HCC.out]; unfold Cmt.val Cmt.cs; simp only [idsOf_length]; rw [HSS.out.1, HSS.out.2]
       refine ⟨av, cv, by rw [e], ⟨by rw [HCC.out]; show Ids wF av (idsOf k r4).length cv (idsOf k r4); rw [idsOf_length]; exact HIDS.out _ hOFr, HKE.out.1, HKE.out.2⟩, (HRA.out.only hOF HNE.out.1 (fun k hk => hk)).imp (fun _ _ => trivial), HPA.out.fresh hOF (Nat.le_of_eq HBC.out.symm), fun x hx => ?_⟩
       have := (hOFr.lt x.block (by rw [hx]; rfl)).1
       rw [← HBC.out]
       omega)
      clear hwF hOF hOFr p0 p1 p2 p3 p4 p5 p6 p7 f0 f1 f2 f3 f4 f5 f6 f7
      refine bodyPost_ret (v := .agg #[.int .i64 node, .int .i64 (s : Int), .int .i64 (g : Int), .slice av k cv, .int .i64 kind, .string s1, .string s2, .int .i64 num]) ?_ rfl HEND.out
      have hl := run_loadVar_mid (P := Tryz.prog) wF bc 0 41 _ _ HCF.out.range Tryz.underlying41 rfl (by kernel_rfl)
      simp [results, Tryz.results113, asAddr, hl, Result.andThen]
end Go.Proofs.YtofadpodlaakbaaGreat
