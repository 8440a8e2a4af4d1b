/- The walk of Get, of the layer msg, and of its deferred closure. -/
import Derived.Test.YtofadpodlaakbaaGreatMsgRd
import Derived.Defers
import Derived.Recover
namespace Go.Proofs.YtofadpodlaakbaaGreat
open Go.ChangeShapes Go.WideShapes Go.ChangeAt Go.RowKit
set_option linter.unusedVariables false
set_option linter.unusedSimpArgs false
def zeroM : List Value := [.int .i64 0, .slice none 0 0, .slice none 0 0]
theorem Only.cell {w w' : World} {b : Nat} {p : Addr} {v : Value} (h : Only w w' b) (hp : w.cell? p = some v) (hne : p.block ≠ b) : w'.cell? p = some v := (PastN.of_only h).cell hp hne
theorem Ids.apart {w : World} {a : Option Addr} {n c b : Nat} {l : List (List UInt8)} {t : TypeId} {vs : List Value} (h : Ids w a n c l) (hc : Cel w b t vs) (hv : ∀ v ∈ vs, ∀ z, v ≠ .int .u8 z) : ∀ x, a = some x → 0 < n → x.block ≠ b := by
 intro x hx hn e
 rcases h.cells with h0 | ⟨b', off, rfl, hcc⟩
 ·omega
 ·injection hx with hx
  subst hx
  simp only at e
  subst e
  have h32 := h.at32 0 hn
  have h1 := hcc 0 hn 0 _ (Bs_at (l.getD 0 []) 0 (by omega))
  unfold World.cell? at h1
  rw [hc] at h1
  simp only [Nat.add_zero, Nat.zero_mul] at h1
  have h2 : vs[off]? = some (.int .u8 (((l.getD 0 []).getD 0 0).toNat : Int)) := by simpa using h1
  exact hv _ (List.mem_of_getElem? h2) _ rfl
theorem MsgR.only {w w' : World} {m : Msg} {ai ac : Option Addr} {ci cc b : Nat} {t : TypeId} {vs : List Value} (h : MsgR w m ai ci ac cc) (ho : Only w w' b) (hc : Cel w b t vs) (hv : ∀ v ∈ vs, ∀ z, v ≠ .int .u8 z) (hl : vs.length < 8) : MsgR w' m ai ci ac cc := by
 have hmv : ∀ {a : Option Addr} {n c : Nat} {l : List (List UInt8)}, Ids w a n c l → Ids w' a n c l := fun h => h.moved fun x hx hn j v hj => ho.cell hj (h.apart hc hv x hx hn)
 refine ⟨hmv h.ids, ?_⟩
 obtain ⟨g1, g2, g3, g4, g5⟩ := h.cms
 refine ⟨g1, g2, g3, g4, ?_⟩
 rcases g5 with h0 | ⟨b', off, rfl, hcc⟩
 ·exact .inl h0
 ·refine .inr ⟨b', off, rfl, fun i hi => ?_⟩
  obtain ⟨pa, pc, k1, k2⟩ := hcc i hi
  have hne : b' ≠ b := by
   rintro rfl
   have h1 := k1 7 _ rfl
   unfold World.cell? at h1
   rw [hc] at h1
   have h3 : (vs.toArray)[off + i * 8 + 7]? = some _ := h1
   have h2 := (Array.getElem?_eq_some_iff.1 h3).1
   rw [List.size_toArray] at h2
   omega
  exact ⟨pa, pc, fun j v hj => ho.cell (k1 j v hj) hne, ⟨hmv k2.ids, k2.key, k2.elem⟩⟩
set_option maxRecDepth 100000 in
theorem mcatch_idle (p0 p1 : Addr) (w : World) :
  CallsD Tryz.prog 40 #[.pointer (some p0), .pointer (some p1)] .returning w fun e u' w' => e = .returned (.tuple #[]) ∧ u' = .returning ∧ w' = w := by
 refine callsD_of_wpS Tryz.func40 rfl fun c₀ cs hu => ?_
 apply wpS_seq
 apply wpS_region
 simp [wpOpsS, go_sem, recoverD, hu, Tryz.ntmps40, Exit.thenS]
 refine wpS_of_wp ?_
 have he : (#[Value.pointer (some p0), Value.pointer (some p1)] ++ ((Array.replicate 15 undef).setIfInBounds 3 Value.nilIface).setIfInBounds 0 Value.nilIface) = #[.pointer (some p0), .pointer (some p1), .nilIface, undef, undef, .nilIface, undef, undef, undef, undef, undef, undef, undef, undef, undef, undef, undef] := by rfl
 rw [he]
 go_wp2_with fail
 refine ⟨rfl, .returning, ?_, .tuple #[], by simp [results, Tryz.results40], rfl, rfl, rfl⟩
 cases c₀
 simp_all
set_option maxRecDepth 100000 in
set_option maxHeartbeats 1000000 in
theorem mcatch_wrong (bm be : Nat) (v2 : Value) (vs : List Value) (older : List PanicEntry) (w : World) (hc : Cel w bm 25 vs) (hl : vs.length = 3) (he : Cel w be 29 [v2]) :
  CallsD Tryz.prog 40 #[.pointer (some ⟨bm, 0, none⟩), .pointer (some ⟨be, 0, none⟩)] (.panicking ({ v := .iface 62 (.agg #[]), recovered := false } :: older)) w fun e u' w' =>
   e = .returned (.tuple #[]) ∧ u' = .panicking ({ v := .iface 62 (.agg #[]), recovered := true } :: older) ∧ Cel w' bm 25 zeroM ∧ Cel w' be 29 [.int .i64 2] ∧ (∀ (B : Nat) (w0 : World), Below B w0 w → B ≤ bm → B ≤ be → Below B w0 w') := by
 refine callsD_of_wpS Tryz.func40 rfl fun c₀ cs hu => ?_
 apply wpS_seq
 apply wpS_region
 simp [wpOpsS, go_sem, recoverD, hu, Tryz.ntmps40, Exit.thenS]
 refine wpS_of_wp ?_
 have e0 : (#[Value.pointer (some ⟨bm, 0, none⟩), Value.pointer (some ⟨be, 0, none⟩)] ++ ((Array.replicate 15 undef).setIfInBounds 3 (Value.iface 62 (Value.agg #[]))).setIfInBounds 0 (Value.iface 62 (Value.agg #[]))) = #[.pointer (some ⟨bm, 0, none⟩), .pointer (some ⟨be, 0, none⟩), .iface 62 (.agg #[]), undef, undef, .iface 62 (.agg #[]), undef, undef, undef, undef, undef, undef, undef, undef, undef, undef, undef] := by rfl
 rw [e0]
 clear e0
 have hta : ∀ w : World, (Instr.typeAssert (.iface 62 (.agg #[])) 20 62 true).run Tryz.prog w = .ok (.tuple #[.agg #[], .bool true]) w := fun w => by kernel_rfl
 obtain ⟨x0, x1, x2, rfl⟩ : ∃ x0 x1 x2, vs = [x0, x1, x2] := by
  match vs, hl with
  | [x0, x1, x2], _ => exact ⟨_, _, _, rfl⟩
 have HC := Lib.hid hc
 have HE := Lib.hid he
 have HU := Lib.hid hu
 have HNE := Lib.hid (show bm ≠ be from fun e => by subst e; have := hc.symm.trans he; injection this with this; injection this with _ h _; exact absurd h (by decide))
 clear hc he hl hu
 go_upto_region 5 with fail
 generalize hw1 : w.alloc (.cells _ _) = w1
 have hb01 : Below w.heap.size w w1 := by rw [← hw1]; exact (Below.refl _ _).alloc (Nat.le_refl _) _
 have HC1 := Lib.hid (HC.out.step hb01)
 have HE1 := Lib.hid (HE.out.step hb01)
 have hbl : ∀ (B : Nat) (w0 : World), Below B w0 w → B ≤ bm → Below B w0 w1 := fun B w0 h hle => by rw [← hw1]; exact h.alloc (Nat.le_trans hle (Nat.le_of_lt HC.out.lt)) _
 have HBL := Lib.hid hbl
 clear hw1 hb01 hta hbl
 have p0 : w1.cell? ⟨bm, 0, none⟩ = some (x0) := HC1.out.at 0 _ rfl
 have p1 : w1.cell? ⟨bm, 1, none⟩ = some (x1) := HC1.out.at 1 _ rfl
 have p2 : w1.cell? ⟨bm, 2, none⟩ = some (x2) := HC1.out.at 2 _ rfl
 have f0 : w1.frozen? ⟨bm, 0, none⟩ = false := HC1.out.free 0
 have f1 : w1.frozen? ⟨bm, 1, none⟩ = false := HC1.out.free 1
 have f2 : w1.frozen? ⟨bm, 2, none⟩ = false := HC1.out.free 2
 have r0 : w1.cell? ⟨be, 0, none⟩ = some v2 := HE1.out.at 0 _ rfl
 have r1 : w1.frozen? ⟨be, 0, none⟩ = false := HE1.out.free 0
 have n2 : bm ≠ be := HNE.out
 go_wp2_with fail
 generalize hwX : World.setCell (World.setCell (World.setCell w1 _ _) _ _) _ _ = wX
 have hOX : Only w1 wX bm := by rw [← hwX]; exact ((only_set _ _ _ _).trans (only_set _ _ _ _)).trans (only_set _ _ _ _)
 have hCX : Cel wX bm 25 zeroM := by rw [← hwX]; exact ((HC1.out.set 0 _).set 1 _).set 2 _
 generalize hwZ : World.setCell wX _ _ = wZ
 have hOZ : Only wX wZ be := by rw [← hwZ]; exact only_set _ _ _ _
 have hEZ : Cel wZ be 29 [.int .i64 2] := by rw [← hwZ]; exact Cel.set (show Cel wX be _ [v2] from hOX.heap HE1.out n2.symm) 0 _
 refine ⟨rfl, _, rfl, .tuple #[], by simp [results, Tryz.results40], rfl, rfl, hOZ.heap hCX n2, hEZ, fun B w0 h h1 h3 => ?_⟩
 exact hOZ.below (hOX.below (HBL.out B w0 h h1) h1) h3
def MGetP (b : List UInt8) (w : World) (e : Ending) (w' : World) : Prop :=
 match getM b with
 | none => e = .returned (.tuple #[.agg zeroM.toArray, .int .i64 2]) ∧ Below w.heap.size w w'
 | some m => ∃ ai ci ac cc, e = .returned (.tuple #[m.val ai ci ac cc, .int .i64 0]) ∧ MsgR w' m ai ci ac cc ∧ Below w.heap.size w w'
set_option maxRecDepth 100000 in
set_option maxHeartbeats 8000000 in
theorem mget_any (a : Option Addr) (n c : Nat) (l : List UInt8) (w : World) (hr : Rd w a n c l) (hz : a = none → c = 0) (hn : n ≤ 100000) : Calls Tryz.prog 13 #[.slice a n c] w (MGetP l w) := by
 have HLN := Lib.hid hr.len
 have HR := Lib.hid (And.intro hr hz)
 have hn63 : n ≤ 9223372036854775807 := by omega
 have hmf : ∀ (fn : Fn) (first cap : Array Value) (w : World), (Instr.makeFunc fn first cap).run Tryz.prog w = .ok (.func fn first cap) w := fun _ _ _ _ => rfl
 clear hr hz
 go_enter_defers Tryz.func13, Tryz.ntmps13
 go_upto_region 2 with fail
 obtain ⟨w1, hw1⟩ : ∃ w1, w1 = w.alloc (.cells (zeroM : List Value).toArray 25) := ⟨_, rfl⟩
 obtain ⟨w2, hw2⟩ : ∃ w2, w2 = w1.alloc (.cells ([.int .i64 0] : List Value).toArray 29) := ⟨_, rfl⟩
 have s1 : w1.heap.size = w.heap.size + 1 := by rw [hw1]; exact size_alloc' _ _
 have b01 : Below w.heap.size w w1 := by rw [hw1]; exact (Below.refl _ _).alloc (Nat.le_refl _) _
 have b12 : Below w1.heap.size w1 w2 := by rw [hw2]; exact (Below.refl _ _).alloc (Nat.le_refl _) _
 have c1 : Cel w1 w.heap.size 25 zeroM := by rw [hw1]; exact Cel.new w _ _
 have c2 : Cel w2 (w.heap.size + 1) 29 [.int .i64 0] := by rw [hw2, ← s1]; exact Cel.new w1 _ _
 generalize hwg : World.alloc (World.alloc w _) _ = wG
 obtain rfl : w2 = wG := by rw [← hwg, hw2, hw1]; rfl
 obtain ⟨bm, hbm⟩ : ∃ b, b = w.heap.size := ⟨_, rfl⟩
 obtain ⟨be, hbe⟩ : ∃ b, b = w.heap.size + 1 := ⟨_, rfl⟩
 rw [← hbe] at c2 ⊢
 rw [← hbm] at c1 ⊢
 have HM2 := Lib.hid (c1.step b12)
 have HE2 := Lib.hid c2
 have HB2 := Lib.hid (b01.step b12)
 have HX := Lib.hid (show bm = w.heap.size ∧ be = bm + 1 ∧ w2.heap.size = bm + 2 from ⟨hbm, by omega, by rw [hw2, size_alloc', s1]; omega⟩)
 clear hwg hw1 hw2 s1 b01 b12 c1 c2 hbm hbe
 go_wp2_with fail
 refine (clone_any a n c l w2 (HR.out.1.below HB2.out) HR.out.2 (by omega)).mono ?_
 rintro e w3 ⟨v3, rfl, ho3, hb⟩
 have hz3 := fun a n c (h : v3 = .slice a n c) => own_none (h ▸ ho3)
 have hlo3 := fun k hk => (ho3.lt k hk)
 obtain ⟨a3, c3, rfl, hr3⟩ := Rd.of_own ho3
 have HR3 := Lib.hid (And.intro hr3 (And.intro (hz3 a3 _ c3 rfl) (show ∀ y, a3 = some y → y.block < w3.heap.size from fun y hy => (hlo3 y.block (by rw [hy]; rfl)).2)))
 have HM3 := Lib.hid (HM2.out.step hb)
 have HE3 := Lib.hid (HE2.out.step hb)
 have HB3 := Lib.hid (HB2.out.step hb)
 have HS3 := Lib.hid (show w2.heap.size ≤ w3.heap.size from hb.size)
 clear hz3 hlo3 ho3 hr3 hb HM2 HE2
 obtain ⟨nl, hnl⟩ : ∃ x, x = l.length := ⟨_, rfl⟩
 rw [← hnl] at HR3 HLN ⊢
 have HNL := Lib.hid hnl
 clear hnl
 go_upto_region 3 with fail
 generalize hw4 : w3.alloc (.cells _ _) = w4
 have hb4 : Below w3.heap.size w3 w4 := by rw [← hw4]; exact (Below.refl _ _).alloc (Nat.le_refl _) _
 obtain ⟨br, hbr⟩ : ∃ b, b = w3.heap.size := ⟨_, rfl⟩
 have hc4 : Cel w4 br 67 [.slice a3 nl c3, .int .i64 0, .slice none 0 0, .slice none 0 0] := by rw [← hw4, hbr]; exact Cel.new w3 _ _
 rw [← hbr]
 have HM4 := Lib.hid (HM3.out.step hb4)
 have HE4 := Lib.hid (HE3.out.step hb4)
 have HB4 := Lib.hid (HB3.out.step hb4)
 have HY := Lib.hid (show bm ≠ br ∧ be ≠ br ∧ bm ≠ be ∧ bm + 2 ≤ br ∧ br < w4.heap.size from by
  have h1 := HX.out; have h2 := HS3.out; have h3 := hc4.lt
  exact ⟨by omega, by omega, by omega, by omega, h3⟩)
 have HREAD := Lib.hid (mread_any br l w4 ⟨a3, c3, by rw [← HNL.out]; exact hc4, by rw [← HNL.out]; exact HR3.out.1.below hb4, HR3.out.2.1, fun y hy _ => by
  have h1 := HR3.out.2.2 y hy
  exact ⟨by omega, Nat.lt_of_lt_of_le h1 hb4.size⟩⟩ (by rw [← HNL.out, HLN.out]; exact hn))
 clear hw4 hb4 hbr hc4 hmf HM3 HE3 HB3 HR3
 unfold MReadP at HREAD
 cases hg : getM l with
 | none =>
  have HFN := Lib.hid (show ∀ w', Below w.heap.size w w' → MGetP l w (.returned (.tuple #[.agg zeroM.toArray, .int .i64 2])) w' from fun w' h => by unfold MGetP; rw [hg]; exact ⟨rfl, h⟩)
  simp only [hg] at HREAD
  clear hg
  go_wp2_with fail
  refine HREAD.out.mono ?_
  rintro e w5 ⟨rfl, hp⟩
  have HM5 := Lib.hid (show Cel w5 bm 25 zeroM from hp.heap HM4.out HY.out.1)
  have HE5 := Lib.hid (show Cel w5 be 29 [.int .i64 0] from hp.heap HE4.out HY.out.2.1)
  have HB5 := Lib.hid (hp.below HB4.out (by have := HX.out; have := HY.out; omega))
  clear hp
  unfold wrongM
  go_wp2_with fail
  refine leaves_cons (f := 40) (args := #[.pointer (some ⟨bm, 0, none⟩), .pointer (some ⟨be, 0, none⟩)]) (by simp) (by simp [go_sem]) ?_
  refine (mcatch_wrong bm be _ _ [] w5 HM5.out rfl HE5.out).mono ?_
  rintro e u' w6 ⟨rfl, rfl, k1, k3, k4⟩
  have hB6 := k4 w.heap.size w HB5.out (by have := HX.out; omega) (by have := HX.out; omega)
  have p0 : w6.cell? ⟨bm, 0, none⟩ = some (.int .i64 0) := k1.at 0 _ rfl
  have p1 : w6.cell? ⟨bm, 1, none⟩ = some (.slice none 0 0) := k1.at 1 _ rfl
  have p2 : w6.cell? ⟨bm, 2, none⟩ = some (.slice none 0 0) := k1.at 2 _ rfl
  have q2 : w6.cell? ⟨be, 0, none⟩ = some (.int .i64 2) := k3.at 0 _ rfl
  have HEND := HFN.out w6 hB6
  simp [Leaves, settle, results, Tryz.results13, go_sem, asAddr, p0, p1, p2, q2]
  exact HEND
 | some m =>
  simp only [hg] at HREAD
  have HG := Lib.hid hg
  clear hg
  go_wp2_with fail
  refine HREAD.out.mono ?_
  rintro e w5 ⟨rfl, z, ai, ci, ac, cc, hc5, hm5, hp⟩
  have HC5 := Lib.hid hc5
  have HMR5 := Lib.hid hm5
  have HM5 := Lib.hid (show Cel w5 bm 25 zeroM from hp.heap HM4.out HY.out.1)
  have HE5 := Lib.hid (show Cel w5 be 29 [.int .i64 0] from hp.heap HE4.out HY.out.2.1)
  have HB5 := Lib.hid (hp.below HB4.out (by have := HX.out; have := HY.out; omega))
  clear hc5 hm5 hp
  obtain ⟨kd, hkd⟩ : ∃ x, x = m.kind := ⟨_, rfl⟩
  obtain ⟨n1, hn1⟩ : ∃ x, x = m.ids.length := ⟨_, rfl⟩
  obtain ⟨n2, hn2⟩ : ∃ x, x = m.cms.length := ⟨_, rfl⟩
  rw [← hkd, ← hn1, ← hn2] at HC5
  have HVAL := Lib.hid (show m.val ai ci ac cc = .agg #[.int .i64 kd, .slice ai n1 ci, .slice ac n2 cc] by unfold Msg.val Msg.cs; rw [hkd, hn1, hn2])
  clear hkd hn1 hn2
  have d1 : w5.cell? ⟨br, 1, none⟩ = some (.int .i64 kd) := HC5.out.at 1 _ rfl
  have d2 : w5.cell? ⟨br, 2, none⟩ = some (.slice ai n1 ci) := HC5.out.at 2 _ rfl
  have d3 : w5.cell? ⟨br, 3, none⟩ = some (.slice ac n2 cc) := HC5.out.at 3 _ rfl
  have z0 : w5.cell? ⟨bm, 0, none⟩ = some (.int .i64 0) := HM5.out.at 0 _ rfl
  have z1 : w5.cell? ⟨bm, 1, none⟩ = some (.slice none 0 0) := HM5.out.at 1 _ rfl
  have z2 : w5.cell? ⟨bm, 2, none⟩ = some (.slice none 0 0) := HM5.out.at 2 _ rfl
  have fz0 : w5.frozen? ⟨bm, 0, none⟩ = false := HM5.out.free 0
  have fz1 : w5.frozen? ⟨bm, 1, none⟩ = false := HM5.out.free 1
  have fz2 : w5.frozen? ⟨bm, 2, none⟩ = false := HM5.out.free 2
  have q2 : w5.cell? ⟨be, 0, none⟩ = some (.int .i64 0) := HE5.out.at 0 _ rfl
  have f2 : w5.frozen? ⟨be, 0, none⟩ = false := HE5.out.free 0
  have n3 : bm ≠ be := HY.out.2.2.1
  go_wp2_with fail
  generalize hw6 : World.setCell (World.setCell (World.setCell w5 _ _) _ _) _ _ = w6
  have ho6 : Only w5 w6 bm := by rw [← hw6]; exact ((only_set _ _ _ _).trans (only_set _ _ _ _)).trans (only_set _ _ _ _)
  have hm6 : Cel w6 bm 25 [.int .i64 kd, .slice ai n1 ci, .slice ac n2 cc] := by rw [← hw6]; exact ((HM5.out.set 0 _).set 1 _).set 2 _
  generalize hw7 : World.setCell w6 _ _ = w7
  have ho7 : Only w6 w7 be := by rw [← hw7]; exact only_set _ _ _ _
  have HM7 := Lib.hid (show Cel w7 bm 25 [.int .i64 kd, .slice ai n1 ci, .slice ac n2 cc] from ho7.heap hm6 n3)
  have HE7 := Lib.hid (show Cel w7 be 29 [.int .i64 0] by rw [← hw7]; exact Cel.set (show Cel w6 be _ [.int .i64 0] from ho6.heap HE5.out n3.symm) 0 _)
  have HB7 := Lib.hid (ho7.below (ho6.below HB5.out (by have := HX.out; omega)) (by have := HX.out; omega))
  have HMR7 := Lib.hid ((HMR5.out.only ho6 HM5.out (by intro v hv z; simp only [zeroM, List.mem_cons, List.not_mem_nil, or_false] at hv; rcases hv with rfl | rfl | rfl <;> exact fun h => nomatch h) (by decide)).only ho7 (show Cel w6 be 29 [.int .i64 0] from ho6.heap HE5.out n3.symm) (by intro v hv z; simp only [List.mem_cons, List.not_mem_nil, or_false] at hv; subst hv; exact fun h => nomatch h) (by decide))
  clear hw6 hw7 ho6 ho7 hm6 d1 d2 d3 q2 f2 z0 z1 z2 fz0 fz1 fz2
  refine leaves_cons (f := 40) (args := #[.pointer (some ⟨bm, 0, none⟩), .pointer (some ⟨be, 0, none⟩)]) (by simp) (by simp [go_sem]) ?_
  refine (mcatch_idle _ _ w7).mono ?_
  rintro e u' w8 ⟨rfl, rfl, rfl⟩
  have HEND := Lib.hid (show MGetP l w (.returned (.tuple #[.agg #[.int .i64 kd, .slice ai n1 ci, .slice ac n2 cc], .int .i64 0])) w8 by
   unfold MGetP
   rw [HG.out]
   exact ⟨ai, ci, ac, cc, by rw [HVAL.out], HMR7.out, HB7.out⟩)
  have p0 : w8.cell? ⟨bm, 0, none⟩ = some (.int .i64 kd) := HM7.out.at 0 _ rfl
  have p1 : w8.cell? ⟨bm, 1, none⟩ = some (.slice ai n1 ci) := HM7.out.at 1 _ rfl
  have p2 : w8.cell? ⟨bm, 2, none⟩ = some (.slice ac n2 cc) := HM7.out.at 2 _ rfl
  have q2 : w8.cell? ⟨be, 0, none⟩ = some (.int .i64 0) := HE7.out.at 0 _ rfl
  have HE := HEND.out
  simp [Leaves, settle, results, Tryz.results13, go_sem, asAddr, p0, p1, p2, q2]
  exact HE
end Go.Proofs.YtofadpodlaakbaaGreat
