/- The statement MsgKinds, walked out of the contracts of what it calls. -/
import Derived.Test.YtofadpodlaakbaaMsgBack
import Derived.BigQuiet
namespace Go.Proofs.Ytofadpodlaakbaa
open Go.ChangeShapes Go.WideShapes Go.ChangeAt Go.RowKit
set_option linter.unusedVariables false
set_option linter.unusedSimpArgs false

/-- The bytes of a message without commits. -/
theorem putM_ids {k : Nat} (hk : k ≤ 1) {ids : List (List UInt8)} (h16 : ids.length ≤ 16) (h32 : all32 ids) :
    putM ⟨(k : Int), ids, []⟩ = UInt8.ofNat k :: (numL ids.length ++ ids.flatten) ∧ (putM ⟨(k : Int), ids, []⟩).length = 2 + 32 * ids.length := by
  have e : putM ⟨(k : Int), ids, []⟩ = UInt8.ofNat k :: (numL ids.length ++ ids.flatten) := by
    unfold putM
    simp only [Int.toNat_natCast, List.length_nil, Nat.add_zero, List.map_nil, List.flatten_nil, List.append_nil]
    rw [numL_small (show k ≤ 127 by omega)]
    rfl
  refine ⟨e, ?_⟩
  rw [e, List.length_cons, List.length_append, flat_len _ h32, numL_small (show ids.length ≤ 127 by omega)]
  simp only [List.length_cons, List.length_nil]
  omega
theorem putM_have {cms : List Cmt} : ∃ t, putM ⟨2, [], cms⟩ = 2 :: t := by
  refine ⟨numL (([] : List (List UInt8)).length + cms.length) ++ (([] : List (List UInt8)).flatten ++ (cms.map oneC).flatten), ?_⟩
  unfold putM
  rw [show (2 : Int).toNat = 2 from rfl, numL_small (show 2 ≤ 127 by omega)]
  rfl
theorem msg_ext {m : Msg} {k : Int} {i : List (List UInt8)} {c : List Cmt} (h1 : m.kind = k) (h2 : m.ids = i) (h3 : m.cms = c) : m = ⟨k, i, c⟩ := by
  subst h1 h2 h3
  rfl

set_option maxRecDepth 100000 in
set_option maxHeartbeats 16000000 in
theorem msgKinds_walk (m : Msg) (ai : Option Addr) (ci : Nat) (ac : Option Addr) (cc : Nat) (w : World) (hr : MsgR w m ai ci ac cc) :
    Calls Try.prog 6 #[m.val ai ci ac cc] w fun e w' => e = .returned (.bool true) ∧ Below w.heap.size w w' := by
  have HFE := Lib.hid (fun w' h => fewm_any m ai ci ac cc w' h)
  have HPU := Lib.hid (fun w' h => mput_any m ai ci ac cc w' h)
  have HRM := Lib.hid hr
  unfold MPutP at HPU
  obtain ⟨few, hfew⟩ : ∃ b, b = fewM m := ⟨_, rfl⟩
  obtain ⟨may, hmay⟩ : ∃ b, b = mayM m := ⟨_, rfl⟩
  rw [← hfew] at HFE
  rw [← hmay] at HPU
  obtain ⟨X, hX⟩ : ∃ X, X = putM m := ⟨_, rfl⟩
  rw [← hX] at HPU
  obtain ⟨lx, hlx⟩ : ∃ l, l = X.length := ⟨_, rfl⟩
  rw [← hlx] at HPU
  have HX := Lib.hid (And.intro hX hlx)
  have HMY := Lib.hid hmay
  have HA32 := Lib.hid hr.all32
  have HCMS := Lib.hid hr.cms
  have HIDS := Lib.hid hr.ids
  have hna63 : m.ids.length ≤ 9223372036854775807 := Nat.le_trans hr.ids.le hr.ids.cap
  have hnb63 : m.cms.length ≤ 9223372036854775807 := Nat.le_trans hr.cms.le hr.cms.cap
  unfold Msg.val Msg.cs at HFE HPU ⊢
  obtain ⟨kd, h_kd⟩ : ∃ x, x = m.kind := ⟨_, rfl⟩
  try rw [← h_kd] at HFE
  try rw [← h_kd] at HPU
  try rw [← h_kd] at ⊢
  obtain ⟨na, h_na⟩ : ∃ x, x = m.ids.length := ⟨_, rfl⟩
  try rw [← h_na] at HFE
  try rw [← h_na] at HPU
  try rw [← h_na] at ⊢
  obtain ⟨nb, h_nb⟩ : ∃ x, x = m.cms.length := ⟨_, rfl⟩
  try rw [← h_nb] at HFE
  try rw [← h_nb] at HPU
  try rw [← h_nb] at ⊢
  have HN := Lib.hid (And.intro h_kd (And.intro h_na h_nb))
  rw [← h_na] at hna63 HIDS
  rw [← h_nb] at hnb63 HCMS
  clear h_kd h_na h_nb
  clear hr hfew hmay hX hlx
  have HB0 := Lib.hid (Below.refl w.heap.size w)
  go_enter Try.func6, Try.ntmps6
  go_upto_region 1 with fail
  generalize hwn : w.alloc (.cells _ _) = w1
  have hbn : Below w.heap.size w w1 := by rw [← hwn]; exact (Below.refl _ _).alloc (Nat.le_refl _) _
  obtain ⟨b1, hbb⟩ : ∃ b, b = w.heap.size := ⟨_, rfl⟩
  have HDb1 := Lib.hid (show Cel w1 b1 25 [.int .i64 kd, .slice ai na ci, .slice ac nb cc] by rw [← hwn, hbb]; exact Cel.new w _ _)
  rw [← hbb]
  have HB1 := Lib.hid (HB0.out.step hbn)
  clear hwn hbn hbb
  go_wp2_with fail
  refine (awake18 _).mono ?_
  rintro e w2 ⟨rfl, hb⟩
  have HC2 := Lib.hid (HDb1.out.step hb)
  have HB2 := Lib.hid (HB1.out.step hb)
  clear hb
  have p0 : w2.cell? ⟨b1, 0, none⟩ = some (.int .i64 kd) := HC2.out.at 0 _ rfl
  have p1 : w2.cell? ⟨b1, 1, none⟩ = some (.slice ai na ci) := HC2.out.at 1 _ rfl
  have p2 : w2.cell? ⟨b1, 2, none⟩ = some (.slice ac nb cc) := HC2.out.at 2 _ rfl
  go_wp2_with fail
  refine (HFE.out _ (HRM.out.below HB2.out)).mono ?_
  rintro e w3 ⟨rfl, hb⟩
  clear p0 p1 p2
  have HC3 := Lib.hid (HC2.out.step hb)
  have HB3 := Lib.hid (HB2.out.step hb)
  clear hb
  have p0 : w3.cell? ⟨b1, 0, none⟩ = some (.int .i64 kd) := HC3.out.at 0 _ rfl
  have p1 : w3.cell? ⟨b1, 1, none⟩ = some (.slice ai na ci) := HC3.out.at 1 _ rfl
  have p2 : w3.cell? ⟨b1, 2, none⟩ = some (.slice ac nb cc) := HC3.out.at 2 _ rfl
  cases may with
  | false =>
    simp only [Bool.false_eq_true, if_false] at HPU
    go_wp2_with fail
    refine (HPU.out _ (HRM.out.below HB3.out)).mono ?_
    rintro e w4 ⟨rfl, hb⟩
    clear p0 p1 p2
    have HB4 := Lib.hid (HB3.out.step hb)
    clear hb
    cases few with
    | false =>
      go_wp2_with fail
      go_ret
      exact ⟨rfl, HB4.out⟩
    | true =>
      go_wp2_with fail
      go_ret
      exact ⟨rfl, HB4.out⟩
  | true =>
    simp only [if_true] at HPU
    go_wp2_with fail
    refine (HPU.out _ (HRM.out.below HB3.out)).mono ?_
    rintro e w4 ⟨a4, c4, rfl, hr4, hz4, hb⟩
    clear p0 p1 p2
    have HX4 := Lib.hid (And.intro hr4 hz4)
    clear hr4 hz4
    have HC4 := Lib.hid (HC3.out.step hb)
    have HB4 := Lib.hid (HB3.out.step hb)
    clear hb
    cases few with
    | false =>
      go_wp2_with fail
      go_ret
      exact ⟨rfl, HB4.out⟩
    | true =>
    rcases mayM_kind HMY.out.symm with ⟨hk, h16, hris, hcm⟩ | ⟨hk, hi0, h6, hall⟩
    · have hnb0 : nb = 0 := by rw [HN.out.2.2, hcm]; rfl
      have hna16 : na ≤ 16 := by rw [HN.out.2.1]; exact h16
      subst hnb0
      rcases hk with hk | hk
      · have hkd : kd = 0 := by rw [HN.out.1, hk]
        subst hkd
        have hids32 := HA32.out.1
        have hmm : m = ⟨((0 : Nat) : Int), m.ids, []⟩ := msg_ext hk rfl hcm
        have hmn : mayM ⟨1, m.ids, m.cms⟩ = true := by
          unfold mayM
          rw [hcm]
          simp [h16, hris]
        obtain ⟨e1, e2⟩ := putM_ids (k := 0) (by decide) h16 hids32
        obtain ⟨e3, e4⟩ := putM_ids (k := 1) (by decide) h16 hids32
        rw [← hmm, ← HX.out.1] at e1 e2
        rw [← HX.out.2] at e2
        have HPN := Lib.hid (fun w' (h : MsgR w' m ai ci ac cc) => show Calls Try.prog 9 #[.agg #[.int .i64 1, .slice ai na ci, .slice ac 0 cc]] w' (fun e w'' => ∃ a c, e = .returned (.tuple #[.slice a lx c, .int .i64 0]) ∧ Rd w'' a lx c (putM ⟨1, m.ids, m.cms⟩) ∧ (a = none → c = 0) ∧ Below w'.heap.size w' w'') by
          have h2 := mput_any ⟨1, m.ids, m.cms⟩ ai ci ac cc w' ⟨h.ids, h.cms⟩
          unfold MPutP at h2
          simp only [if_pos hmn] at h2
          unfold Msg.val Msg.cs at h2
          simp only at h2
          rw [← HN.out.2.1, ← HN.out.2.2] at h2
          refine h2.mono fun e w'' hp => ?_
          have hl : (putM ⟨1, m.ids, m.cms⟩).length = lx := by rw [hcm]; exact e4.trans e2.symm
          rw [hl] at hp
          exact hp)
        have HXD := Lib.hid (show X.drop 1 = (putM ⟨1, m.ids, m.cms⟩).drop 1 ∧ ∃ t, X = 0 :: t from ⟨by rw [e1, hcm]; show _ = (putM ⟨((1 : Nat) : Int), m.ids, []⟩).drop 1; rw [e3]; rfl, _, e1⟩)
        have HLX := Lib.hid (show lx = 2 + 32 * na by rw [e2, HN.out.2.1])
        clear hk hcm hris h16 hids32 hmm hmn e1 e2 e3 e4
        have p0 : w4.cell? ⟨b1, 0, none⟩ = some (.int .i64 0) := HC4.out.at 0 _ rfl
        have p1 : w4.cell? ⟨b1, 1, none⟩ = some (.slice ai na ci) := HC4.out.at 1 _ rfl
        have p2 : w4.cell? ⟨b1, 2, none⟩ = some (.slice ac 0 cc) := HC4.out.at 2 _ rfl
        go_upto_region 14 with fail
        generalize hwn : w4.alloc (.cells _ _) = w5
        have hbn : Below w4.heap.size w4 w5 := by rw [← hwn]; exact (Below.refl _ _).alloc (Nat.le_refl _) _
        obtain ⟨b5, hbb⟩ : ∃ b, b = w4.heap.size := ⟨_, rfl⟩
        have HDb5 := Lib.hid (show Cel w5 b5 25 [.int .i64 0, .slice ai na ci, .slice ac 0 cc] by rw [← hwn, hbb]; exact Cel.new w4 _ _)
        have hsz5 : w4.heap.size ≤ b5 := by omega
        have hne5 : b1 < b5 := by have := HC4.out.lt; omega
        rw [← hbb]
        have HC5 := Lib.hid (HC4.out.step hbn)
        have HB5 := Lib.hid (HB4.out.step hbn)
        have HX5 := Lib.hid (HX4.out.1.below hbn)
        clear hwn hbn hbb
        clear p0 p1 p2
        have p0 : w5.cell? ⟨b1, 0, none⟩ = some (.int .i64 0) := HC5.out.at 0 _ rfl
        have p1 : w5.cell? ⟨b1, 1, none⟩ = some (.slice ai na ci) := HC5.out.at 1 _ rfl
        have p2 : w5.cell? ⟨b1, 2, none⟩ = some (.slice ac 0 cc) := HC5.out.at 2 _ rfl
        have f0 : w5.frozen? ⟨b5, 0, none⟩ = false := HDb5.out.free 0
        have q0 : w5.cell? ⟨b5, 0, none⟩ = some (.int .i64 0) := HDb5.out.at 0 _ rfl
        go_upto_region 15 with fail
        generalize hw6 : World.setCell w5 _ _ = w6
        have ho6 : Only w5 w6 b5 := by rw [← hw6]; exact only_set _ _ _ _
        have HN6 := Lib.hid (show Cel w6 b5 25 [.int .i64 1, .slice ai na ci, .slice ac 0 cc] by rw [← hw6]; exact HDb5.out.set 0 _)
        have HC6 := Lib.hid (show Cel w6 b1 25 [.int .i64 0, .slice ai na ci, .slice ac 0 cc] from ho6.heap HC5.out (by omega))
        have HB6 := Lib.hid (ho6.below HB5.out (by have h1 := HB4.out.size; have h2 := hsz5; omega))
        have HX6 := Lib.hid (HX5.out.only' ho6 (HX5.out.apart HDb5.out (by intro v hv z; simp only [List.mem_cons, List.not_mem_nil, or_false] at hv; rcases hv with rfl | rfl | rfl <;> exact fun h => nomatch h)))
        clear hw6 ho6 p0 p1 p2 f0 q0
        have q0 : w6.cell? ⟨b5, 0, none⟩ = some (.int .i64 1) := HN6.out.at 0 _ rfl
        have q1 : w6.cell? ⟨b5, 1, none⟩ = some (.slice ai na ci) := HN6.out.at 1 _ rfl
        have q2 : w6.cell? ⟨b5, 2, none⟩ = some (.slice ac 0 cc) := HN6.out.at 2 _ rfl
        go_wp2_with fail
        refine (HPN.out _ (HRM.out.below HB6.out)).mono ?_
        rintro e w7 ⟨a10, c10, rfl, hr10, hz10, hb⟩
        have HC7 := Lib.hid (HC6.out.step hb)
        have HB7 := Lib.hid (HB6.out.step hb)
        have hx7 := HX6.out.below hb
        have hlx1 : 1 ≤ lx := by have := HLX.out; omega
        have hlx63 : lx ≤ 9223372036854775807 := Nat.le_trans hx7.le hx7.cap
        obtain ⟨a', hs, hR, hac', _⟩ := hx7.slb HX4.out.2 1 hlx1
        obtain ⟨a'', hs2, hR2, hac2, _⟩ := hr10.slb hz10 1 hlx1
        have k1 : ∀ w', (Instr.slice 26 (.slice a4 lx c4) (some (.int .i64 ((1 : Nat) : Int))) none none).run Try.prog w' = .ok (.slice a' (lx - 1) (c4 - 1)) w' := fun w' => by rw [slice_l w' a4 lx c4 1 hlx1, hs]
        have k2 : ∀ w', (Instr.slice 26 (.slice a10 lx c10) (some (.int .i64 ((1 : Nat) : Int))) none none).run Try.prog w' = .ok (.slice a'' (lx - 1) (c10 - 1)) w' := fun w' => by rw [slice_l w' a10 lx c10 1 hlx1, hs2]
        have hsl1 : ∀ w', (Instr.slice 26 (.slice a4 lx c4) (some (.int .i64 1)) none none).run Try.prog w' = .ok (.slice a' (lx - 1) (c4 - 1)) w' := k1
        have hsl2 : ∀ w', (Instr.slice 26 (.slice a10 lx c10) (some (.int .i64 1)) none none).run Try.prog w' = .ok (.slice a'' (lx - 1) (c10 - 1)) w' := k2
        have hsa1 : ∀ w', (Instr.sliceAt 26 (.slice a4 lx c4) (some (.int .i64 1)) none none).run Try.prog w' = .ok (.slice a' (lx - 1) (c4 - 1)) w' := fun w' => by rw [slice_at]; exact k1 w'
        have hsa2 : ∀ w', (Instr.sliceAt 26 (.slice a10 lx c10) (some (.int .i64 1)) none none).run Try.prog w' = .ok (.slice a'' (lx - 1) (c10 - 1)) w' := fun w' => by rw [slice_at]; exact k2 w'
        have hr1 := hR w7 hx7
        have hr2 := hR2 w7 hr10
        rw [← HXD.out.1] at hr2
        obtain ⟨T, hT⟩ : ∃ T, T = X.drop 1 := ⟨_, rfl⟩
        rw [← hT] at hr1 hr2
        have x1 := fun q => str_drew hr1 q
        have x2 := fun q => str_drew hr2 q
        obtain ⟨sx, hsx⟩ : ∃ s : ByteArray, s = ⟨T.toArray⟩ := ⟨_, rfl⟩
        rw [← hsx] at x1 x2
        have hx0 : ∃ b' off', a4 = some ⟨b', off', none⟩ ∧ w7.cell? ⟨b', off', none⟩ = some (.int .u8 0) := by
          rcases hx7.cells with h0 | ⟨b', off', e, _, hcx⟩
          · omega
          · have h1 := hcx 0 hlx1
            obtain ⟨t, ht⟩ := HXD.out.2
            rw [ht] at h1
            exact ⟨b', off', e, h1⟩
        obtain ⟨b', off', rfl, hx1⟩ := hx0
        have hlx0 : (0 : Int) < (lx : Int) := by omega
        have hna16' : (na : Int) ≤ 16 := by omega
        have hw1 : IntKind.i64.wrap (32 * (na : Int)) = 32 * (na : Int) := IntWalk.i64_in _ (by omega)
        have hw2 : IntKind.i64.wrap (2 + 32 * (na : Int)) = (lx : Int) := by rw [HLX.out]; exact (IntWalk.i64_in _ (by omega)).trans (by push_cast; rfl)
        clear hb hr10 hz10 hx7 hs hR hac' hs2 hR2 hac2 k1 k2 hr1 hr2 hT hsx q0 q1 q2 hlx1
        have p0 : w7.cell? ⟨b1, 0, none⟩ = some (.int .i64 0) := HC7.out.at 0 _ rfl
        have p1 : w7.cell? ⟨b1, 1, none⟩ = some (.slice ai na ci) := HC7.out.at 1 _ rfl
        have p2 : w7.cell? ⟨b1, 2, none⟩ = some (.slice ac 0 cc) := HC7.out.at 2 _ rfl
        go_upto_region 16 with fail
        go_quiet (fail)
        rename_i KQ hKQ
        refine hKQ _ _ ?_
        clear hKQ KQ x1 x2 p0 p1 p2 hsl1 hsl2 hsa1 hsa2 hx1 hw1 hw2
        obtain ⟨wd, hwd⟩ : ∃ wd, wd = w7.drewN nq := ⟨_, rfl⟩
        rw [← hwd]
        have hbd : Below w7.heap.size w7 wd := by rw [hwd]; exact below_drewNw w7 nq
        have HBd := Lib.hid (HB7.out.step hbd)
        clear hwd hbd
        go_wp2_with fail
        go_ret
        exact ⟨rfl, HBd.out⟩
      · have hkd : kd = 1 := by rw [HN.out.1, hk]
        subst hkd
        have hids32 := HA32.out.1
        have hmm : m = ⟨((1 : Nat) : Int), m.ids, []⟩ := msg_ext hk rfl hcm
        have hmn : mayM ⟨0, m.ids, m.cms⟩ = true := by
          unfold mayM
          rw [hcm]
          simp [h16, hris]
        obtain ⟨e1, e2⟩ := putM_ids (k := 1) (by decide) h16 hids32
        obtain ⟨e3, e4⟩ := putM_ids (k := 0) (by decide) h16 hids32
        rw [← hmm, ← HX.out.1] at e1 e2
        rw [← HX.out.2] at e2
        have HPN := Lib.hid (fun w' (h : MsgR w' m ai ci ac cc) => show Calls Try.prog 9 #[.agg #[.int .i64 0, .slice ai na ci, .slice ac 0 cc]] w' (fun e w'' => ∃ a c, e = .returned (.tuple #[.slice a lx c, .int .i64 0]) ∧ Rd w'' a lx c (putM ⟨0, m.ids, m.cms⟩) ∧ (a = none → c = 0) ∧ Below w'.heap.size w' w'') by
          have h2 := mput_any ⟨0, m.ids, m.cms⟩ ai ci ac cc w' ⟨h.ids, h.cms⟩
          unfold MPutP at h2
          simp only [if_pos hmn] at h2
          unfold Msg.val Msg.cs at h2
          simp only at h2
          rw [← HN.out.2.1, ← HN.out.2.2] at h2
          refine h2.mono fun e w'' hp => ?_
          have hl : (putM ⟨0, m.ids, m.cms⟩).length = lx := by rw [hcm]; exact e4.trans e2.symm
          rw [hl] at hp
          exact hp)
        have HXD := Lib.hid (show X.drop 1 = (putM ⟨0, m.ids, m.cms⟩).drop 1 ∧ ∃ t, X = 1 :: t from ⟨by rw [e1, hcm]; show _ = (putM ⟨((0 : Nat) : Int), m.ids, []⟩).drop 1; rw [e3]; rfl, _, e1⟩)
        have HLX := Lib.hid (show lx = 2 + 32 * na by rw [e2, HN.out.2.1])
        clear hk hcm hris h16 hids32 hmm hmn e1 e2 e3 e4
        have p0 : w4.cell? ⟨b1, 0, none⟩ = some (.int .i64 1) := HC4.out.at 0 _ rfl
        have p1 : w4.cell? ⟨b1, 1, none⟩ = some (.slice ai na ci) := HC4.out.at 1 _ rfl
        have p2 : w4.cell? ⟨b1, 2, none⟩ = some (.slice ac 0 cc) := HC4.out.at 2 _ rfl
        go_upto_region 14 with fail
        generalize hwn : w4.alloc (.cells _ _) = w5
        have hbn : Below w4.heap.size w4 w5 := by rw [← hwn]; exact (Below.refl _ _).alloc (Nat.le_refl _) _
        obtain ⟨b5, hbb⟩ : ∃ b, b = w4.heap.size := ⟨_, rfl⟩
        have HDb5 := Lib.hid (show Cel w5 b5 25 [.int .i64 1, .slice ai na ci, .slice ac 0 cc] by rw [← hwn, hbb]; exact Cel.new w4 _ _)
        have hsz5 : w4.heap.size ≤ b5 := by omega
        have hne5 : b1 < b5 := by have := HC4.out.lt; omega
        rw [← hbb]
        have HC5 := Lib.hid (HC4.out.step hbn)
        have HB5 := Lib.hid (HB4.out.step hbn)
        have HX5 := Lib.hid (HX4.out.1.below hbn)
        clear hwn hbn hbb
        clear p0 p1 p2
        have p0 : w5.cell? ⟨b1, 0, none⟩ = some (.int .i64 1) := HC5.out.at 0 _ rfl
        have p1 : w5.cell? ⟨b1, 1, none⟩ = some (.slice ai na ci) := HC5.out.at 1 _ rfl
        have p2 : w5.cell? ⟨b1, 2, none⟩ = some (.slice ac 0 cc) := HC5.out.at 2 _ rfl
        have f0 : w5.frozen? ⟨b5, 0, none⟩ = false := HDb5.out.free 0
        have q0 : w5.cell? ⟨b5, 0, none⟩ = some (.int .i64 1) := HDb5.out.at 0 _ rfl
        go_upto_region 15 with fail
        generalize hw6 : World.setCell w5 _ _ = w6
        have ho6 : Only w5 w6 b5 := by rw [← hw6]; exact only_set _ _ _ _
        have HN6 := Lib.hid (show Cel w6 b5 25 [.int .i64 0, .slice ai na ci, .slice ac 0 cc] by rw [← hw6]; exact HDb5.out.set 0 _)
        have HC6 := Lib.hid (show Cel w6 b1 25 [.int .i64 1, .slice ai na ci, .slice ac 0 cc] from ho6.heap HC5.out (by omega))
        have HB6 := Lib.hid (ho6.below HB5.out (by have h1 := HB4.out.size; have h2 := hsz5; omega))
        have HX6 := Lib.hid (HX5.out.only' ho6 (HX5.out.apart HDb5.out (by intro v hv z; simp only [List.mem_cons, List.not_mem_nil, or_false] at hv; rcases hv with rfl | rfl | rfl <;> exact fun h => nomatch h)))
        clear hw6 ho6 p0 p1 p2 f0 q0
        have q0 : w6.cell? ⟨b5, 0, none⟩ = some (.int .i64 0) := HN6.out.at 0 _ rfl
        have q1 : w6.cell? ⟨b5, 1, none⟩ = some (.slice ai na ci) := HN6.out.at 1 _ rfl
        have q2 : w6.cell? ⟨b5, 2, none⟩ = some (.slice ac 0 cc) := HN6.out.at 2 _ rfl
        go_wp2_with fail
        refine (HPN.out _ (HRM.out.below HB6.out)).mono ?_
        rintro e w7 ⟨a10, c10, rfl, hr10, hz10, hb⟩
        have HC7 := Lib.hid (HC6.out.step hb)
        have HB7 := Lib.hid (HB6.out.step hb)
        have hx7 := HX6.out.below hb
        have hlx1 : 1 ≤ lx := by have := HLX.out; omega
        have hlx63 : lx ≤ 9223372036854775807 := Nat.le_trans hx7.le hx7.cap
        obtain ⟨a', hs, hR, hac', _⟩ := hx7.slb HX4.out.2 1 hlx1
        obtain ⟨a'', hs2, hR2, hac2, _⟩ := hr10.slb hz10 1 hlx1
        have k1 : ∀ w', (Instr.slice 26 (.slice a4 lx c4) (some (.int .i64 ((1 : Nat) : Int))) none none).run Try.prog w' = .ok (.slice a' (lx - 1) (c4 - 1)) w' := fun w' => by rw [slice_l w' a4 lx c4 1 hlx1, hs]
        have k2 : ∀ w', (Instr.slice 26 (.slice a10 lx c10) (some (.int .i64 ((1 : Nat) : Int))) none none).run Try.prog w' = .ok (.slice a'' (lx - 1) (c10 - 1)) w' := fun w' => by rw [slice_l w' a10 lx c10 1 hlx1, hs2]
        have hsl1 : ∀ w', (Instr.slice 26 (.slice a4 lx c4) (some (.int .i64 1)) none none).run Try.prog w' = .ok (.slice a' (lx - 1) (c4 - 1)) w' := k1
        have hsl2 : ∀ w', (Instr.slice 26 (.slice a10 lx c10) (some (.int .i64 1)) none none).run Try.prog w' = .ok (.slice a'' (lx - 1) (c10 - 1)) w' := k2
        have hsa1 : ∀ w', (Instr.sliceAt 26 (.slice a4 lx c4) (some (.int .i64 1)) none none).run Try.prog w' = .ok (.slice a' (lx - 1) (c4 - 1)) w' := fun w' => by rw [slice_at]; exact k1 w'
        have hsa2 : ∀ w', (Instr.sliceAt 26 (.slice a10 lx c10) (some (.int .i64 1)) none none).run Try.prog w' = .ok (.slice a'' (lx - 1) (c10 - 1)) w' := fun w' => by rw [slice_at]; exact k2 w'
        have hr1 := hR w7 hx7
        have hr2 := hR2 w7 hr10
        rw [← HXD.out.1] at hr2
        obtain ⟨T, hT⟩ : ∃ T, T = X.drop 1 := ⟨_, rfl⟩
        rw [← hT] at hr1 hr2
        have x1 := fun q => str_drew hr1 q
        have x2 := fun q => str_drew hr2 q
        obtain ⟨sx, hsx⟩ : ∃ s : ByteArray, s = ⟨T.toArray⟩ := ⟨_, rfl⟩
        rw [← hsx] at x1 x2
        have hx0 : ∃ b' off', a4 = some ⟨b', off', none⟩ ∧ w7.cell? ⟨b', off', none⟩ = some (.int .u8 1) := by
          rcases hx7.cells with h0 | ⟨b', off', e, _, hcx⟩
          · omega
          · have h1 := hcx 0 hlx1
            obtain ⟨t, ht⟩ := HXD.out.2
            rw [ht] at h1
            exact ⟨b', off', e, h1⟩
        obtain ⟨b', off', rfl, hx1⟩ := hx0
        have hlx0 : (0 : Int) < (lx : Int) := by omega
        have hna16' : (na : Int) ≤ 16 := by omega
        have hw1 : IntKind.i64.wrap (32 * (na : Int)) = 32 * (na : Int) := IntWalk.i64_in _ (by omega)
        have hw2 : IntKind.i64.wrap (2 + 32 * (na : Int)) = (lx : Int) := by rw [HLX.out]; exact (IntWalk.i64_in _ (by omega)).trans (by push_cast; rfl)
        clear hb hr10 hz10 hx7 hs hR hac' hs2 hR2 hac2 k1 k2 hr1 hr2 hT hsx q0 q1 q2 hlx1
        have p0 : w7.cell? ⟨b1, 0, none⟩ = some (.int .i64 1) := HC7.out.at 0 _ rfl
        have p1 : w7.cell? ⟨b1, 1, none⟩ = some (.slice ai na ci) := HC7.out.at 1 _ rfl
        have p2 : w7.cell? ⟨b1, 2, none⟩ = some (.slice ac 0 cc) := HC7.out.at 2 _ rfl
        go_upto_region 16 with fail
        go_quiet (fail)
        rename_i KQ hKQ
        refine hKQ _ _ ?_
        clear hKQ KQ x1 x2 p0 p1 p2 hsl1 hsl2 hsa1 hsa2 hx1 hw1 hw2
        obtain ⟨wd, hwd⟩ : ∃ wd, wd = w7.drewN nq := ⟨_, rfl⟩
        rw [← hwd]
        have hbd : Below w7.heap.size w7 wd := by rw [hwd]; exact below_drewNw w7 nq
        have HBd := Lib.hid (HB7.out.step hbd)
        clear hwd hbd
        go_wp2_with fail
        go_ret
        exact ⟨rfl, HBd.out⟩
    · have hkd : kd = 2 := by rw [HN.out.1, hk]
      have hna0 : na = 0 := by rw [HN.out.2.1, hi0]; rfl
      have hnb6 : nb ≤ 6 := by rw [HN.out.2.2]; exact h6
      subst hkd hna0
      obtain ⟨t, ht⟩ := @putM_have m.cms
      have hX2 : X = 2 :: t := by rw [HX.out.1, ← ht]; exact congrArg putM (msg_ext hk hi0 rfl)
      have HALL := Lib.hid hall
      have HX2 := Lib.hid hX2
      clear hk hi0 h6 hall ht hX2
      have p0 : w4.cell? ⟨b1, 0, none⟩ = some (.int .i64 2) := HC4.out.at 0 _ rfl
      have p1 : w4.cell? ⟨b1, 1, none⟩ = some (.slice ai 0 ci) := HC4.out.at 1 _ rfl
      have p2 : w4.cell? ⟨b1, 2, none⟩ = some (.slice ac nb cc) := HC4.out.at 2 _ rfl
      go_wp2_with fail
      clear p0 p1 p2
      go_loopw [7] (fun v7 wr => ∃ i : Nat, i ≤ nb ∧ v7 = .int .i64 (i : Int) ∧ Hid (Below w4.heap.size w4 wr)) (fun v7 _ => nb - (intOf v7).toNat)
      case atStart => exact ⟨0, Nat.zero_le _, rfl, Lib.hid (Below.refl _ _)⟩
      case round =>
        obtain ⟨i, hi, rfl, hB⟩ := hrel
        have HCr := Lib.hid (HC4.out.step hB.out)
        have HBr := Lib.hid (HB4.out.step hB.out)
        have p0 : wr.cell? ⟨b1, 0, none⟩ = some (.int .i64 2) := HCr.out.at 0 _ rfl
        have p1 : wr.cell? ⟨b1, 1, none⟩ = some (.slice ai 0 ci) := HCr.out.at 1 _ rfl
        have p2 : wr.cell? ⟨b1, 2, none⟩ = some (.slice ac nb cc) := HCr.out.at 2 _ rfl
        by_cases hlt : i < nb
        · have hlt' : (i : Int) < (nb : Int) := by omega
          have hi0 : (0 : Int) ≤ (i : Int) := by omega
          have hcr := HCMS.out.below HBr.out
          rcases hcr.cells with h0 | ⟨b, off, rfl, hc⟩
          · omega
          obtain ⟨pa, pc, hrg2, hcm⟩ := hc i hlt
          have hil : i < m.cms.length := by rw [← HN.out.2.2]; exact hlt
          have hmx := HALL.out m.cms[i] (List.getElem_mem hil)
          have e : m.cms.getD i noC = m.cms[i] := by rw [List.getD_eq_getElem?_getD, List.getElem?_eq_getElem hil]; rfl
          rw [← e] at hmx
          obtain ⟨x, hx⟩ : ∃ x, x = m.cms.getD i noC := ⟨_, rfl⟩
          rw [← hx] at hrg2 hcm hmx
          have HME := Lib.hid (fun w' (h : CmR w' x pa pc) => show Calls Try.prog 15 #[x.val pa pc] w' (fun e w'' => e = .returned (.bool false) ∧ Below w'.heap.size w' w'') from (cmerge_any x pa pc w' h).mono fun e w'' h => by rw [hmx.2] at h; exact h)
          have HMA := Lib.hid (fun w' (h : CmR w' x pa pc) => show Calls Try.prog 16 #[x.val pa pc] w' (fun e w'' => e = .returned (.bool true) ∧ Below w'.heap.size w' w'') from (cmay_any x pa pc w' h).mono fun e w'' h => by rw [hmx.1] at h; exact h)
          have HM := Lib.hid hcm
          have HRX := Lib.hid (show wr.rangeAt b (off + i * 8) [.int .i64 x.node, .int .i64 x.seq, .int .i64 x.gen, .slice pa x.par.length pc, .int .i64 x.op.kind, .string ⟨x.op.key.toArray⟩, .string ⟨x.op.elem.toArray⟩, .int .i64 x.op.num] from hrg2)
          unfold Cmt.val Cmt.cs at HME HMA
          clear hc hcr hcm hmx e hx hrg2 hil
          generalize hg_xnode : x.node = node_x at HME HMA HRX
          generalize hg_xseq : x.seq = seq_x at HME HMA HRX
          generalize hg_xgen : x.gen = gen_x at HME HMA HRX
          generalize hg_xnp : x.par.length = np_x at HME HMA HRX
          generalize hg_xkd : x.op.kind = kd_x at HME HMA HRX
          generalize hg_xs1 : (⟨x.op.key.toArray⟩ : ByteArray) = s1_x at HME HMA HRX
          generalize hg_xs2 : (⟨x.op.elem.toArray⟩ : ByteArray) = s2_x at HME HMA HRX
          generalize hg_xnum : x.op.num = num_x at HME HMA HRX
          clear hg_xnode hg_xseq hg_xgen hg_xnp hg_xkd hg_xs1 hg_xs2 hg_xnum
          have hrx := HRX.out
          have q0 : wr.cell? ⟨b, off + i * 8, none⟩ = some (.int .i64 node_x) := hrx 0 _ rfl
          have q1 : wr.cell? ⟨b, off + i * 8 + 1, none⟩ = some (.int .i64 seq_x) := hrx 1 _ rfl
          have q2 : wr.cell? ⟨b, off + i * 8 + 2, none⟩ = some (.int .i64 gen_x) := hrx 2 _ rfl
          have q3 : wr.cell? ⟨b, off + i * 8 + 3, none⟩ = some (.slice pa np_x pc) := hrx 3 _ rfl
          have q4 : wr.cell? ⟨b, off + i * 8 + 4, none⟩ = some (.int .i64 kd_x) := hrx 4 _ rfl
          have q5 : wr.cell? ⟨b, off + i * 8 + 5, none⟩ = some (.string s1_x) := hrx 5 _ rfl
          have q6 : wr.cell? ⟨b, off + i * 8 + 6, none⟩ = some (.string s2_x) := hrx 6 _ rfl
          have q7 : wr.cell? ⟨b, off + i * 8 + 7, none⟩ = some (.int .i64 num_x) := hrx 7 _ rfl
          clear hrx
          go_wp2_with fail
          refine (HME.out _ HM.out).mono ?_
          rintro e w5 ⟨rfl, hb⟩
          have hry := rng_below HRX.out hb
          have HC5 := Lib.hid (HCr.out.step hb)
          have HB5 := Lib.hid (hB.out.step hb)
          have HM5 := Lib.hid (HM.out.below hb)
          clear hb q0 q1 q2 q3 q4 q5 q6 q7 p0 p1 p2
          have q0 : w5.cell? ⟨b, off + i * 8, none⟩ = some (.int .i64 node_x) := hry 0 _ rfl
          have q1 : w5.cell? ⟨b, off + i * 8 + 1, none⟩ = some (.int .i64 seq_x) := hry 1 _ rfl
          have q2 : w5.cell? ⟨b, off + i * 8 + 2, none⟩ = some (.int .i64 gen_x) := hry 2 _ rfl
          have q3 : w5.cell? ⟨b, off + i * 8 + 3, none⟩ = some (.slice pa np_x pc) := hry 3 _ rfl
          have q4 : w5.cell? ⟨b, off + i * 8 + 4, none⟩ = some (.int .i64 kd_x) := hry 4 _ rfl
          have q5 : w5.cell? ⟨b, off + i * 8 + 5, none⟩ = some (.string s1_x) := hry 5 _ rfl
          have q6 : w5.cell? ⟨b, off + i * 8 + 6, none⟩ = some (.string s2_x) := hry 6 _ rfl
          have q7 : w5.cell? ⟨b, off + i * 8 + 7, none⟩ = some (.int .i64 num_x) := hry 7 _ rfl
          clear hry
          have p0 : w5.cell? ⟨b1, 0, none⟩ = some (.int .i64 2) := HC5.out.at 0 _ rfl
          have p1 : w5.cell? ⟨b1, 1, none⟩ = some (.slice ai 0 ci) := HC5.out.at 1 _ rfl
          have p2 : w5.cell? ⟨b1, 2, none⟩ = some (.slice (some ⟨b, off, none⟩) nb cc) := HC5.out.at 2 _ rfl
          go_wp2_with fail
          refine (HMA.out _ HM5.out).mono ?_
          rintro e w6 ⟨rfl, hb⟩
          have HB6 := Lib.hid (HB5.out.step hb)
          clear hb q0 q1 q2 q3 q4 q5 q6 q7 p0 p1 p2
          go_wp2_with fail
          refine ⟨⟨i + 1, by omega, by go_num, HB6⟩, ?_⟩
          simp [intOf]; omega
        · obtain rfl : nb = i := by omega
          have hlt' : ¬ (nb : Int) < (nb : Int) := by omega
          have hnb6' : (nb : Int) ≤ 6 := by omega
          have hxr := HX4.out.1.below hB.out
          have hlx1 : 1 ≤ lx := by rw [HX.out.2, HX2.out, List.length_cons]; omega
          rcases hxr.cells with h0 | ⟨b', off', rfl, _, hcx⟩
          · omega
          have hx0 := hcx 0 hlx1
          rw [HX2.out] at hx0
          have hx1 : wr.cell? ⟨b', off', none⟩ = some (.int .u8 2) := hx0
          have hlx0 : (0 : Int) < (lx : Int) := by omega
          have hlx63 : lx ≤ 9223372036854775807 := Nat.le_trans hxr.le hxr.cap
          clear hcx hx0 hxr
          go_wp2_with fail
          go_ret
          exact ⟨rfl, HBr.out⟩
end Go.Proofs.Ytofadpodlaakbaa
