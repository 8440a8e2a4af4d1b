/- The chapter's example of the layer msg. -/
import Derived.Test.YtofadpodlaakbaaGreatMsgGet
namespace Go.Proofs.YtofadpodlaakbaaGreat
open Go.ChangeShapes Go.WideShapes Go.ChangeAt Go.RowKit
set_option linter.unusedVariables false
set_option linter.unusedSimpArgs false
theorem wpList_one_sliceM {P : Program} {ops : Array Oper} {rest : List Oper} {o : Oper} {a : Act} {w : World} {Q : Exit → Act → World → Prop} (hgd : o.guard = none) (t e : TypeId) (x : Operand) (hop : o.op = .buildSlice t 1 #[(0, x)]) (cs : List Value) (hx : a.eval x = .agg cs.toArray) (ie : TypeInfo) (z : Value)
  (hu : P.underlying t = some (.slice e)) (hie : P.info? e = some ie) (hz : ie.zero = some z) (hs : ie.size = cs.length) (hpos : 0 < cs.length) (hsmall : cs.length ≤ 1000)
  (h : wpList P ops Q rest (a.put o.dst (.slice (some ⟨w.heap.size, 0, none⟩) 1 1)) (w.alloc (.cells cs.toArray e))) : wpList P ops Q (o :: rest) a w := by
 refine Go.wpList_buildSlice hgd t e 1 #[(0, x)] hop cs.toArray ie z hu hie hz (by rw [hs]; omega) (by rw [hs]; omega) ?_ h
 have := Great.fill_whole (s := ie.size) (by rw [hs]; exact hpos) [.agg cs.toArray] ((Array.range (1 * ie.size)).map (z.cells[· % z.cells.size]!)) (by intro v hv; simp only [List.mem_singleton] at hv; subst hv; show cs.toArray.size = _; rw [List.size_toArray, hs]) (by simp)
 simpa [hx, Value.cells] using this
theorem some_mayM : mayC someC = true := by decide +kernel
def m0M : Msg := ⟨0, [], []⟩
def mhM : Msg := ⟨2, [], [someC]⟩
theorem m0_may : mayM m0M = true := by decide +kernel
theorem mh_may : mayM mhM = true := by decide +kernel
theorem m0_32 : all32M m0M := ⟨fun x hx => by simp [m0M] at hx, fun x hx => by simp [m0M] at hx⟩
theorem mh_32 : all32M mhM := ⟨fun x hx => by simp [mhM] at hx, fun x hx => by simp [mhM] at hx; subst hx; intro y hy; simp [someC] at hy⟩
theorem m0_put : putM m0M = [0, 0] := by decide +kernel
theorem m0_read (w : World) : MsgR w m0M none 0 none 0 := ⟨Ids.nil w, Cms.nil w⟩
theorem someR (w : World) : CmR w someC none 0 := ⟨Ids.nil w, by decide, by decide⟩
theorem mh_read {w : World} {b : Nat} (h : Cel w b 41 [.int .i64 0, .int .i64 1, .int .i64 1, .slice none 0 0, .int .i64 0, .string ⟨#[97]⟩, .string ⟨#[]⟩, .int .i64 1]) : MsgR w mhM none 0 (some ⟨b, 0, none⟩) 1 := by
 refine ⟨Ids.nil w, rfl, Nat.le_refl _, by decide, (fun h => by cases h), .inr ⟨b, 0, rfl, fun i hi => ?_⟩⟩
 have h0 : i = 0 := by have : i < 1 := hi; omega
 subst h0
 exact ⟨none, 0, fun j v hj => by rw [Nat.zero_mul, Nat.zero_add]; exact h.at j v hj, someR w⟩
set_option maxRecDepth 100000 in
set_option maxHeartbeats 16000000 in
theorem awake18 (w : World) : Calls Tryz.prog 5 #[] w fun e w' => e = .returned (.bool true) ∧ Below w.heap.size w w' := by
 have HP0 := Lib.hid (fun w' => show Calls Tryz.prog 7 #[.agg #[.int .i64 0, .slice none 0 0, .slice none 0 0]] w' (fun e w'' => ∃ a c, e = .returned (.tuple #[.slice a 2 c, .int .i64 0]) ∧ Rd w'' a 2 c [0, 0] ∧ (a = none → c = 0) ∧ Below w'.heap.size w' w'') by
  refine (mput_any m0M none 0 none 0 w' (m0_read w')).mono fun e w'' hp => ?_
  unfold MPutP at hp
  rw [if_pos m0_may, m0_put] at hp
  exact hp)
 have HG0 := Lib.hid (fun w' a c (h : Rd w' a 2 c [0, 0]) (hz : a = none → c = 0) => show Calls Tryz.prog 13 #[.slice a 2 c] w' (fun e w'' => ∃ ai ci ac cc, e = .returned (.tuple #[.agg #[.int .i64 0, .slice ai 0 ci, .slice ac 0 cc], .int .i64 0]) ∧ MsgR w'' m0M ai ci ac cc ∧ Below w'.heap.size w' w'') by
  refine (mget_any a 2 c [0, 0] w' h hz (by decide)).mono fun e w'' hp => ?_
  unfold MGetP at hp
  rw [show getM [0, 0] = some m0M by rw [← m0_put]; exact getM_put m0M m0_may m0_32] at hp
  exact hp)
 obtain ⟨X, hX⟩ : ∃ X, X = putM mhM := ⟨_, rfl⟩
 obtain ⟨lh, hlh⟩ : ∃ l, l = X.length := ⟨_, rfl⟩
 have HLH := Lib.hid (show lh ≤ 100000 by rw [hlh, hX]; have := oneC_len some_mayM (fun y hy => by simp [someC] at hy); have e : putM mhM = [2, 1] ++ oneC someC := by { unfold putM mhM; rw [show (2 : Int).toNat = 2 from rfl]; simp [numL_small] }; rw [e, List.length_append]; simp only [List.length_cons, List.length_nil]; omega)
 have HPH := Lib.hid (fun w' b (h : Cel w' b 41 [.int .i64 0, .int .i64 1, .int .i64 1, .slice none 0 0, .int .i64 0, .string ⟨#[97]⟩, .string ⟨#[]⟩, .int .i64 1]) => show Calls Tryz.prog 7 #[.agg #[.int .i64 2, .slice none 0 0, .slice (some ⟨b, 0, none⟩) 1 1]] w' (fun e w'' => ∃ a c, e = .returned (.tuple #[.slice a lh c, .int .i64 0]) ∧ Rd w'' a lh c X ∧ (a = none → c = 0) ∧ Below w'.heap.size w' w'') by
  refine (mput_any mhM none 0 (some ⟨b, 0, none⟩) 1 w' (mh_read h)).mono fun e w'' hp => ?_
  unfold MPutP at hp
  rw [if_pos mh_may, ← hX, ← hlh] at hp
  exact hp)
 have HGH := Lib.hid (fun w' a c (h : Rd w' a lh c X) (hz : a = none → c = 0) => show Calls Tryz.prog 13 #[.slice a lh c] w' (fun e w'' => ∃ ai ci ac cc, e = .returned (.tuple #[.agg #[.int .i64 2, .slice ai 0 ci, .slice ac 1 cc], .int .i64 0]) ∧ MsgR w'' mhM ai ci ac cc ∧ Below w'.heap.size w' w'') by
  refine (mget_any a lh c X w' h hz HLH.out).mono fun e w'' hp => ?_
  unfold MGetP at hp
  rw [hX, getM_put mhM mh_may mh_32] at hp
  exact hp)
 have HS0 := Lib.hid (fun w' ai ci ac cc (h : MsgR w' m0M ai ci ac cc) => show Calls Tryz.prog 12 #[.agg #[.int .i64 0, .slice ai 0 ci, .slice ac 0 cc], .agg #[.int .i64 0, .slice none 0 0, .slice none 0 0]] w' (fun e w'' => e = .returned (.bool true) ∧ Below w'.heap.size w' w'') from msame_any m0M m0M ai ci ac cc none 0 none 0 w' h (m0_read w'))
 have HSH := Lib.hid (fun w' ai ci ac cc b (h : MsgR w' mhM ai ci ac cc) (h2 : Cel w' b 41 [.int .i64 0, .int .i64 1, .int .i64 1, .slice none 0 0, .int .i64 0, .string ⟨#[97]⟩, .string ⟨#[]⟩, .int .i64 1]) => show Calls Tryz.prog 12 #[.agg #[.int .i64 2, .slice ai 0 ci, .slice ac 1 cc], .agg #[.int .i64 2, .slice none 0 0, .slice (some ⟨b, 0, none⟩) 1 1]] w' (fun e w'' => e = .returned (.bool true) ∧ Below w'.heap.size w' w'') from msame_any mhM mhM ai ci ac cc none 0 (some ⟨b, 0, none⟩) 1 w' h (mh_read h2))
 have HMH := Lib.hid (fun w' b (h2 : Cel w' b 41 [.int .i64 0, .int .i64 1, .int .i64 1, .slice none 0 0, .int .i64 0, .string ⟨#[97]⟩, .string ⟨#[]⟩, .int .i64 1]) => show Calls Tryz.prog 11 #[.agg #[.int .i64 2, .slice none 0 0, .slice (some ⟨b, 0, none⟩) 1 1]] w' (fun e w'' => e = .returned (.bool true) ∧ Below w'.heap.size w' w'') from (mmay_any mhM none 0 (some ⟨b, 0, none⟩) 1 w' (mh_read h2)).mono fun e w'' h => by rw [mh_may] at h; exact h)
 have HSO := Lib.hid (fun w' => show Calls Tryz.prog 15 #[] w' (fun e w'' => e = .returned (.agg #[.int .i64 0, .int .i64 1, .int .i64 1, .slice none 0 0, .int .i64 0, .string ⟨#[97]⟩, .string ⟨#[]⟩, .int .i64 1]) ∧ Below w'.heap.size w' w'') from some_any w')
 clear hX hlh
 go_enter Tryz.func5, Tryz.ntmps5
 go_wp2_with fail
 refine (HP0.out _).mono ?_
 rintro e w1 ⟨a1, c1, rfl, hr1, hz1, hb⟩
 have HR1 := Lib.hid (And.intro hr1 hz1)
 have HB1 := Lib.hid hb
 clear hr1 hz1 hb
 go_wp2_with fail
 refine (HG0.out _ _ _ HR1.out.1 HR1.out.2).mono ?_
 rintro e w2 ⟨ai, ci, ac, cc, rfl, hm, hb⟩
 have HM2 := Lib.hid hm
 have HR2 := Lib.hid (HR1.out.1.below hb)
 have HB2 := Lib.hid (HB1.out.step hb)
 clear hm hb HR1
 go_upto_region 3 with fail
 generalize hw3 : w2.alloc (.cells _ _) = w3
 have hb3 : Below w2.heap.size w2 w3 := by rw [← hw3]; exact (Below.refl _ _).alloc (Nat.le_refl _) _
 obtain ⟨b3, hb3e⟩ : ∃ b, b = w2.heap.size := ⟨_, rfl⟩
 have HC3 := Lib.hid (show Cel w3 b3 25 [.int .i64 0, .slice ai 0 ci, .slice ac 0 cc] by rw [← hw3, hb3e]; exact Cel.new w2 _ _)
 rw [← hb3e]
 have HM3 := Lib.hid (HM2.out.below hb3)
 have HR3 := Lib.hid (HR2.out.below hb3)
 have HB3 := Lib.hid (HB2.out.step hb3)
 clear hw3 hb3 hb3e HM2 HR2
 go_wp2_with fail
 refine (HSO.out _).mono ?_
 rintro e w4 ⟨rfl, hb⟩
 have HC4 := Lib.hid (HC3.out.step hb)
 have HM4 := Lib.hid (HM3.out.below hb)
 have HR4 := Lib.hid (HR3.out.below hb)
 have HB4 := Lib.hid (HB3.out.step hb)
 clear hb HC3 HM3 HR3
 rename_i K9 hK9
 refine hK9 _ _ ?_
 clear hK9 K9
 obtain ⟨i0, hi0z, hz0, hz1, _⟩ := info_parts info_cmz
 refine wpList_one_sliceM rfl 23 41 (.tmp 20) rfl [.int .i64 0, .int .i64 1, .int .i64 1, .slice none 0 0, .int .i64 0, .string ⟨#[97]⟩, .string ⟨#[]⟩, .int .i64 1] (by rfl) i0 _ Tryz.underlying23 hi0z hz0 (by rw [hz1]; rfl) (by simp) (by simp) ?_
 simp only [Act.put, List.setIfInBounds_toArray, List.set_cons_zero, List.set_cons_succ]
 generalize hw5 : w4.alloc (.cells (List.toArray _) _) = w5
 have hb5 : Below w4.heap.size w4 w5 := by rw [← hw5]; exact (Below.refl _ _).alloc (Nat.le_refl _) _
 obtain ⟨b5, hb5e⟩ : ∃ b, b = w4.heap.size := ⟨_, rfl⟩
 have HS5 := Lib.hid (show Cel w5 b5 41 [.int .i64 0, .int .i64 1, .int .i64 1, .slice none 0 0, .int .i64 0, .string ⟨#[97]⟩, .string ⟨#[]⟩, .int .i64 1] by rw [← hw5, hb5e]; exact Cel.new w4 _ _)
 rw [← hb5e]
 have HC5 := Lib.hid (HC4.out.step hb5)
 have HM5 := Lib.hid (HM4.out.below hb5)
 have HR5 := Lib.hid (HR4.out.below hb5)
 have HB5 := Lib.hid (HB4.out.step hb5)
 clear hw5 hb5 hb5e HC4 HM4 HR4 hi0z hz0 hz1
 go_upto_region 4 with fail
 generalize hw6 : w5.alloc (.cells _ _) = w6
 have hb6 : Below w5.heap.size w5 w6 := by rw [← hw6]; exact (Below.refl _ _).alloc (Nat.le_refl _) _
 obtain ⟨b6, hb6e⟩ : ∃ b, b = w5.heap.size := ⟨_, rfl⟩
 have HH6 := Lib.hid (show Cel w6 b6 25 [.int .i64 2, .slice none 0 0, .slice (some ⟨b5, 0, none⟩) 1 1] by rw [← hw6, hb6e]; exact Cel.new w5 _ _)
 rw [← hb6e]
 have HS6 := Lib.hid (HS5.out.step hb6)
 have HC6 := Lib.hid (HC5.out.step hb6)
 have HM6 := Lib.hid (HM5.out.below hb6)
 have HR6 := Lib.hid (HR5.out.below hb6)
 have HB6 := Lib.hid (HB5.out.step hb6)
 clear hw6 hb6 hb6e HS5 HC5 HM5 HR5
 have p0 : w6.cell? ⟨b6, 0, none⟩ = some (.int .i64 2) := HH6.out.at 0 _ rfl
 have p1 : w6.cell? ⟨b6, 1, none⟩ = some (.slice none 0 0) := HH6.out.at 1 _ rfl
 have p2 : w6.cell? ⟨b6, 2, none⟩ = some (.slice (some ⟨b5, 0, none⟩) 1 1) := HH6.out.at 2 _ rfl
 go_wp2_with fail
 refine (HPH.out _ _ HS6.out).mono ?_
 rintro e w7 ⟨a7, c7, rfl, hr7, hz7, hb⟩
 have HX7 := Lib.hid (And.intro hr7 hz7)
 have HH7 := Lib.hid (HH6.out.step hb)
 have HS7 := Lib.hid (HS6.out.step hb)
 have HC7 := Lib.hid (HC6.out.step hb)
 have HM7 := Lib.hid (HM6.out.below hb)
 have HR7 := Lib.hid (HR6.out.below hb)
 have HB7 := Lib.hid (HB6.out.step hb)
 clear hr7 hz7 hb p0 p1 p2
 go_wp2_with fail
 refine (HGH.out _ _ _ HX7.out.1 HX7.out.2).mono ?_
 rintro e w8 ⟨ai8, ci8, ac8, cc8, rfl, hm, hb⟩
 have HN8 := Lib.hid hm
 have HH8 := Lib.hid (HH7.out.step hb)
 have HS8 := Lib.hid (HS7.out.step hb)
 have HC8 := Lib.hid (HC7.out.step hb)
 have HM8 := Lib.hid (HM7.out.below hb)
 have HR8 := Lib.hid (HR7.out.below hb)
 have HB8 := Lib.hid (HB7.out.step hb)
 clear hm hb
 go_upto_region 6 with fail
 generalize hw9 : w8.alloc (.cells _ _) = w9
 have hb9 : Below w8.heap.size w8 w9 := by rw [← hw9]; exact (Below.refl _ _).alloc (Nat.le_refl _) _
 obtain ⟨b9, hb9e⟩ : ∃ b, b = w8.heap.size := ⟨_, rfl⟩
 have HK9 := Lib.hid (show Cel w9 b9 25 [.int .i64 2, .slice ai8 0 ci8, .slice ac8 1 cc8] by rw [← hw9, hb9e]; exact Cel.new w8 _ _)
 rw [← hb9e]
 have HN9 := Lib.hid (HN8.out.below hb9)
 have HH9 := Lib.hid (HH8.out.step hb9)
 have HS9 := Lib.hid (HS8.out.step hb9)
 have HC9 := Lib.hid (HC8.out.step hb9)
 have HM9 := Lib.hid (HM8.out.below hb9)
 have HR9 := Lib.hid (HR8.out.below hb9)
 have HB9 := Lib.hid (HB8.out.step hb9)
 clear hw9 hb9 hb9e
 have p0 : w9.cell? ⟨b3, 0, none⟩ = some (.int .i64 0) := HC9.out.at 0 _ rfl
 have p1 : w9.cell? ⟨b3, 1, none⟩ = some (.slice ai 0 ci) := HC9.out.at 1 _ rfl
 have p2 : w9.cell? ⟨b3, 2, none⟩ = some (.slice ac 0 cc) := HC9.out.at 2 _ rfl
 have hcx : (convert 28 9 (.slice a1 2 c1)).run Tryz.prog w9 = .ok (.string ⟨#[0, 0]⟩) w9 := HR9.out.str (P := Tryz.prog) 28 5 9 Tryz.underlying28 Tryz.underlying5 Tryz.underlying9
 go_wp2_with fail
 refine (HS0.out _ _ _ _ _ HM9.out).mono ?_
 rintro e w10 ⟨rfl, hb⟩
 have HK10 := Lib.hid (HK9.out.step hb)
 have HN10 := Lib.hid (HN9.out.below hb)
 have HH10 := Lib.hid (HH9.out.step hb)
 have HS10 := Lib.hid (HS9.out.step hb)
 have HB10 := Lib.hid (HB9.out.step hb)
 clear hb hcx p0 p1 p2
 have p0 : w10.cell? ⟨b9, 0, none⟩ = some (.int .i64 2) := HK10.out.at 0 _ rfl
 have p1 : w10.cell? ⟨b9, 1, none⟩ = some (.slice ai8 0 ci8) := HK10.out.at 1 _ rfl
 have p2 : w10.cell? ⟨b9, 2, none⟩ = some (.slice ac8 1 cc8) := HK10.out.at 2 _ rfl
 have q0 : w10.cell? ⟨b6, 0, none⟩ = some (.int .i64 2) := HH10.out.at 0 _ rfl
 have q1 : w10.cell? ⟨b6, 1, none⟩ = some (.slice none 0 0) := HH10.out.at 1 _ rfl
 have q2 : w10.cell? ⟨b6, 2, none⟩ = some (.slice (some ⟨b5, 0, none⟩) 1 1) := HH10.out.at 2 _ rfl
 go_wp2_with fail
 refine (HSH.out _ _ _ _ _ _ HN10.out HS10.out).mono ?_
 rintro e w11 ⟨rfl, hb⟩
 have HH11 := Lib.hid (HH10.out.step hb)
 have HS11 := Lib.hid (HS10.out.step hb)
 have HB11 := Lib.hid (HB10.out.step hb)
 clear hb p0 p1 p2 q0 q1 q2
 have p0 : w11.cell? ⟨b6, 0, none⟩ = some (.int .i64 2) := HH11.out.at 0 _ rfl
 have p1 : w11.cell? ⟨b6, 1, none⟩ = some (.slice none 0 0) := HH11.out.at 1 _ rfl
 have p2 : w11.cell? ⟨b6, 2, none⟩ = some (.slice (some ⟨b5, 0, none⟩) 1 1) := HH11.out.at 2 _ rfl
 go_wp2_with fail
 refine (HMH.out _ _ HS11.out).mono ?_
 rintro e w12 ⟨rfl, hb⟩
 have HB12 := Lib.hid (HB11.out.step hb)
 clear hb p0 p1 p2
 go_wp2_with fail
 go_ret
 exact ⟨rfl, HB12.out⟩
end Go.Proofs.YtofadpodlaakbaaGreat
