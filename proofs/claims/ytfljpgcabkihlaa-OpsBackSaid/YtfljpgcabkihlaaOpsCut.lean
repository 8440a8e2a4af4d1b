/- The statement OpsCut, walked out of the contracts of what it calls. -/
import Derived.Test.YtfljpgcabkihlaaOpsShort
namespace Go.Proofs.Ytfljpgcabkihlaa
open Go.ChangeShapes Go.WideShapes Go.ChangeAt Go.RowKit
set_option linter.unusedVariables false

theorem putO_len {o : Opn} (h : mayB o = true) : (putO o).length ≤ 60 := by
  obtain ⟨h1, h2, h3, _⟩ := mayB_kind h
  have e1 := endL_len h
  have e2 := (keyB_len h3).2
  have e3 := numL_le10 o.kind.toNat (by omega)
  have e4 := numL_le10 o.key.length (by omega)
  unfold putO txtL
  simp only [List.length_append]
  omega

set_option maxRecDepth 100000 in
set_option maxHeartbeats 4000000 in
theorem opsCut_walk (k1 n1 k2 n2 m : Int) (s1 t1 s2 t2 : ByteArray) (w : World) (hs1 : s1.size ≤ maxLen) (ht1 : t1.size ≤ maxLen) (hs2 : s2.size ≤ maxLen) (ht2 : t2.size ≤ maxLen) :
    Calls Try.prog 6 #[.agg #[.int .i64 k1, .string s1, .string t1, .int .i64 n1], .agg #[.int .i64 k2, .string s2, .string t2, .int .i64 n2], .int .i64 m] w fun e w' => e = .returned (.bool true) ∧ Below w.heap.size w w' := by
  have HSH1 := Lib.hid (fun w' => short_any k1 n1 s1 t1 w' hs1 ht1)
  have HSH2 := Lib.hid (fun w' => short_any k2 n2 s2 t2 w' hs2 ht2)
  obtain ⟨b1, hb1⟩ : ∃ b, b = shortB s1 t1 := ⟨_, rfl⟩
  obtain ⟨b2, hb2⟩ : ∃ b, b = shortB s2 t2 := ⟨_, rfl⟩
  rw [← hb1] at HSH1
  rw [← hb2] at HSH2
  have HB1 := Lib.hid hb1
  have HB2 := Lib.hid hb2
  clear hb1 hb2 hs1 ht1 hs2 ht2
  go_enter Try.func6, Try.ntmps6
  go_upto_region 1 with fail
  obtain ⟨b3, hb3⟩ : ∃ b3, b3 = w.heap.size := ⟨_, rfl⟩
  have hb34 : ∀ o, (w.alloc o).heap.size = b3 + 1 := fun o => by rw [hb3]; exact size_alloc' w o
  generalize hw1 : World.alloc (w.alloc (.cells #[.int .i64 k1, .string s1, .string t1, .int .i64 n1] _)) _ = w1
  have HC3 := Lib.hid (show Cel w1 b3 23 [.int .i64 k1, .string s1, .string t1, .int .i64 n1] by
    rw [← hw1, hb3]
    exact (Cel.new w _ [.int .i64 k1, .string s1, .string t1, .int .i64 n1]).step ((Below.refl _ _).alloc (Nat.le_refl _) _))
  have HC4 := Lib.hid (show Cel w1 (b3 + 1) 23 [.int .i64 k2, .string s2, .string t2, .int .i64 n2] by
    rw [← hw1, ← hb34 (.cells #[.int .i64 k1, .string s1, .string t1, .int .i64 n1] 23)]
    exact Cel.new _ _ [.int .i64 k2, .string s2, .string t2, .int .i64 n2])
  have HW1 := Lib.hid (show Below w.heap.size w w1 by rw [← hw1]; exact ((Below.refl _ _).alloc (Nat.le_refl _) _).alloc (by rw [size_alloc']; omega) _)
  rw [← hb3]
  clear hw1 hb34 hb3
  obtain ⟨b4, hb4⟩ : ∃ b4, b4 = b3 + 1 := ⟨_, rfl⟩
  rw [← hb4] at HC4 ⊢
  clear hb4
  go_wp2_with fail
  refine (awake05 _).mono ?_
  rintro e w2 ⟨rfl, hb⟩
  have HC32 := Lib.hid (HC3.out.step hb)
  have HC42 := Lib.hid (HC4.out.step hb)
  have HW2 := Lib.hid (HW1.out.step hb)
  clear hb HC3 HC4 HW1
  have p0 : w2.cell? ⟨b3, 0, none⟩ = some (.int .i64 k1) := HC32.out.at 0 _ rfl
  have p1 : w2.cell? ⟨b3, 1, none⟩ = some (.string s1) := HC32.out.at 1 _ rfl
  have p2 : w2.cell? ⟨b3, 2, none⟩ = some (.string t1) := HC32.out.at 2 _ rfl
  have p3 : w2.cell? ⟨b3, 3, none⟩ = some (.int .i64 n1) := HC32.out.at 3 _ rfl
  have q0 : w2.cell? ⟨b4, 0, none⟩ = some (.int .i64 k2) := HC42.out.at 0 _ rfl
  have q1 : w2.cell? ⟨b4, 1, none⟩ = some (.string s2) := HC42.out.at 1 _ rfl
  have q2 : w2.cell? ⟨b4, 2, none⟩ = some (.string t2) := HC42.out.at 2 _ rfl
  have q3 : w2.cell? ⟨b4, 3, none⟩ = some (.int .i64 n2) := HC42.out.at 3 _ rfl
  go_wp2_with fail
  refine (HSH1.out _).mono ?_
  rintro e w3 ⟨rfl, hb⟩
  have HC33 := Lib.hid (HC32.out.step hb)
  have HC43 := Lib.hid (HC42.out.step hb)
  have HW3 := Lib.hid (HW2.out.step hb)
  clear hb HC32 HC42 HW2 p0 p1 p2 p3 q0 q1 q2 q3
  have p0 : w3.cell? ⟨b3, 0, none⟩ = some (.int .i64 k1) := HC33.out.at 0 _ rfl
  have p1 : w3.cell? ⟨b3, 1, none⟩ = some (.string s1) := HC33.out.at 1 _ rfl
  have p2 : w3.cell? ⟨b3, 2, none⟩ = some (.string t1) := HC33.out.at 2 _ rfl
  have p3 : w3.cell? ⟨b3, 3, none⟩ = some (.int .i64 n1) := HC33.out.at 3 _ rfl
  have q0 : w3.cell? ⟨b4, 0, none⟩ = some (.int .i64 k2) := HC43.out.at 0 _ rfl
  have q1 : w3.cell? ⟨b4, 1, none⟩ = some (.string s2) := HC43.out.at 1 _ rfl
  have q2 : w3.cell? ⟨b4, 2, none⟩ = some (.string t2) := HC43.out.at 2 _ rfl
  have q3 : w3.cell? ⟨b4, 3, none⟩ = some (.int .i64 n2) := HC43.out.at 3 _ rfl
  go_wp2_with fail
  refine (HSH2.out _).mono ?_
  rintro e w4 ⟨rfl, hb⟩
  have HC34 := Lib.hid (HC33.out.step hb)
  have HC44 := Lib.hid (HC43.out.step hb)
  have HW4 := Lib.hid (HW3.out.step hb)
  clear hb HC33 HC43 HW3 p0 p1 p2 p3 q0 q1 q2 q3
  cases b1 with
  | false =>
    go_wp2_with fail
    go_ret
    exact ⟨rfl, HW4.out⟩
  | true =>
    cases b2 with
    | false =>
      go_wp2_with fail
      go_ret
      exact ⟨rfl, HW4.out⟩
    | true =>
      obtain ⟨key1, hk1⟩ : ∃ l : List UInt8, s1 = ⟨l.toArray⟩ := ⟨s1.data.toList, by cases s1; simp⟩
      obtain ⟨el1, he1⟩ : ∃ l : List UInt8, t1 = ⟨l.toArray⟩ := ⟨t1.data.toList, by cases t1; simp⟩
      obtain ⟨key2, hk2⟩ : ∃ l : List UInt8, s2 = ⟨l.toArray⟩ := ⟨s2.data.toList, by cases s2; simp⟩
      obtain ⟨el2, he2⟩ : ∃ l : List UInt8, t2 = ⟨l.toArray⟩ := ⟨t2.data.toList, by cases t2; simp⟩
      obtain ⟨lk1, le1⟩ : key1.length ≤ 100 ∧ el1.length ≤ 100 := by
        have := HB1.out.symm
        rw [hk1, he1] at this
        simpa [shortB, ByteArray.size] using this
      obtain ⟨lk2, le2⟩ : key2.length ≤ 100 ∧ el2.length ≤ 100 := by
        have := HB2.out.symm
        rw [hk2, he2] at this
        simpa [shortB, ByteArray.size] using this
      obtain ⟨o1, ho1⟩ : ∃ o : Opn, o = ⟨k1, key1, el1, n1⟩ := ⟨_, rfl⟩
      obtain ⟨o2, ho2⟩ : ∃ o : Opn, o = ⟨k2, key2, el2, n2⟩ := ⟨_, rfl⟩
      have HP1 := Lib.hid (fun w' => show Calls Try.prog 10 #[.agg #[.int .i64 k1, .string s1, .string t1, .int .i64 n1]] w' (PutP o1 w') by rw [ho1, hk1, he1]; exact put_any k1 n1 key1 el1 w' (by omega) (by omega))
      have HP2 := Lib.hid (fun w' => show Calls Try.prog 10 #[.agg #[.int .i64 k2, .string s2, .string t2, .int .i64 n2]] w' (PutP o2 w') by rw [ho2, hk2, he2]; exact put_any k2 n2 key2 el2 w' (by omega) (by omega))
      have HO := Lib.hid (show o1 = ⟨k1, key1, el1, n1⟩ ∧ o2 = ⟨k2, key2, el2, n2⟩ ∧ s1 = ⟨key1.toArray⟩ ∧ t1 = ⟨el1.toArray⟩ ∧ s2 = ⟨key2.toArray⟩ ∧ t2 = ⟨el2.toArray⟩ from ⟨ho1, ho2, hk1, he1, hk2, he2⟩)
      clear hk1 he1 hk2 he2 lk1 le1 lk2 le2 ho1 ho2 HB1 HB2
      unfold PutP at HP1 HP2
      cases m1 : mayB o1 with
      | false =>
        simp only [m1, Bool.false_eq_true, if_false] at HP1
        have HM1 := Lib.hid m1
        clear m1
        have p0 : w4.cell? ⟨b3, 0, none⟩ = some (.int .i64 k1) := HC34.out.at 0 _ rfl
        have p1 : w4.cell? ⟨b3, 1, none⟩ = some (.string s1) := HC34.out.at 1 _ rfl
        have p2 : w4.cell? ⟨b3, 2, none⟩ = some (.string t1) := HC34.out.at 2 _ rfl
        have p3 : w4.cell? ⟨b3, 3, none⟩ = some (.int .i64 n1) := HC34.out.at 3 _ rfl
        have q0 : w4.cell? ⟨b4, 0, none⟩ = some (.int .i64 k2) := HC44.out.at 0 _ rfl
        have q1 : w4.cell? ⟨b4, 1, none⟩ = some (.string s2) := HC44.out.at 1 _ rfl
        have q2 : w4.cell? ⟨b4, 2, none⟩ = some (.string t2) := HC44.out.at 2 _ rfl
        have q3 : w4.cell? ⟨b4, 3, none⟩ = some (.int .i64 n2) := HC44.out.at 3 _ rfl
        go_wp2_with fail
        refine (HP1.out _).mono ?_
        rintro e w5 ⟨rfl, hb⟩
        have HC35 := Lib.hid (HC34.out.step hb)
        have HC45 := Lib.hid (HC44.out.step hb)
        have HW5 := Lib.hid (HW4.out.step hb)
        clear hb HC34 HC44 HW4 p0 p1 p2 p3 q0 q1 q2 q3
        cases m2 : mayB o2 with
        | false =>
          simp only [m2, Bool.false_eq_true, if_false] at HP2
          clear m2
          have p0 : w5.cell? ⟨b3, 0, none⟩ = some (.int .i64 k1) := HC35.out.at 0 _ rfl
          have p1 : w5.cell? ⟨b3, 1, none⟩ = some (.string s1) := HC35.out.at 1 _ rfl
          have p2 : w5.cell? ⟨b3, 2, none⟩ = some (.string t1) := HC35.out.at 2 _ rfl
          have p3 : w5.cell? ⟨b3, 3, none⟩ = some (.int .i64 n1) := HC35.out.at 3 _ rfl
          have q0 : w5.cell? ⟨b4, 0, none⟩ = some (.int .i64 k2) := HC45.out.at 0 _ rfl
          have q1 : w5.cell? ⟨b4, 1, none⟩ = some (.string s2) := HC45.out.at 1 _ rfl
          have q2 : w5.cell? ⟨b4, 2, none⟩ = some (.string t2) := HC45.out.at 2 _ rfl
          have q3 : w5.cell? ⟨b4, 3, none⟩ = some (.int .i64 n2) := HC45.out.at 3 _ rfl
          go_wp2_with fail
          refine (HP2.out _).mono ?_
          rintro e w6 ⟨rfl, hb⟩
          have HC36 := Lib.hid (HC35.out.step hb)
          have HC46 := Lib.hid (HC45.out.step hb)
          have HW6 := Lib.hid (HW5.out.step hb)
          clear hb HC35 HC45 HW5 p0 p1 p2 p3 q0 q1 q2 q3
          go_wp2_with fail
          go_ret
          exact ⟨rfl, HW6.out⟩
        | true =>
          simp only [m2, if_true] at HP2
          clear m2
          have p0 : w5.cell? ⟨b3, 0, none⟩ = some (.int .i64 k1) := HC35.out.at 0 _ rfl
          have p1 : w5.cell? ⟨b3, 1, none⟩ = some (.string s1) := HC35.out.at 1 _ rfl
          have p2 : w5.cell? ⟨b3, 2, none⟩ = some (.string t1) := HC35.out.at 2 _ rfl
          have p3 : w5.cell? ⟨b3, 3, none⟩ = some (.int .i64 n1) := HC35.out.at 3 _ rfl
          have q0 : w5.cell? ⟨b4, 0, none⟩ = some (.int .i64 k2) := HC45.out.at 0 _ rfl
          have q1 : w5.cell? ⟨b4, 1, none⟩ = some (.string s2) := HC45.out.at 1 _ rfl
          have q2 : w5.cell? ⟨b4, 2, none⟩ = some (.string t2) := HC45.out.at 2 _ rfl
          have q3 : w5.cell? ⟨b4, 3, none⟩ = some (.int .i64 n2) := HC45.out.at 3 _ rfl
          go_wp2_with fail
          refine (HP2.out _).mono ?_
          rintro e w6 ⟨a12, c12, rfl, hr, hac, hb⟩
          have HC36 := Lib.hid (HC35.out.step hb)
          have HC46 := Lib.hid (HC45.out.step hb)
          have HW6 := Lib.hid (HW5.out.step hb)
          clear hb HC35 HC45 HW5 p0 p1 p2 p3 q0 q1 q2 q3
          clear hr hac
          go_wp2_with fail
          go_ret
          exact ⟨rfl, HW6.out⟩
      | true =>
        simp only [m1, if_true] at HP1
        have HM1 := Lib.hid m1
        obtain ⟨X, hX⟩ : ∃ X, X = putO o1 := ⟨_, rfl⟩
        obtain ⟨L, hL⟩ : ∃ L, L = X.length := ⟨_, rfl⟩
        rw [← hX, ← hL] at HP1
        have HX := Lib.hid (show X = putO o1 ∧ L = X.length from ⟨hX, hL⟩)
        clear m1 hX hL
        have p0 : w4.cell? ⟨b3, 0, none⟩ = some (.int .i64 k1) := HC34.out.at 0 _ rfl
        have p1 : w4.cell? ⟨b3, 1, none⟩ = some (.string s1) := HC34.out.at 1 _ rfl
        have p2 : w4.cell? ⟨b3, 2, none⟩ = some (.string t1) := HC34.out.at 2 _ rfl
        have p3 : w4.cell? ⟨b3, 3, none⟩ = some (.int .i64 n1) := HC34.out.at 3 _ rfl
        have q0 : w4.cell? ⟨b4, 0, none⟩ = some (.int .i64 k2) := HC44.out.at 0 _ rfl
        have q1 : w4.cell? ⟨b4, 1, none⟩ = some (.string s2) := HC44.out.at 1 _ rfl
        have q2 : w4.cell? ⟨b4, 2, none⟩ = some (.string t2) := HC44.out.at 2 _ rfl
        have q3 : w4.cell? ⟨b4, 3, none⟩ = some (.int .i64 n2) := HC44.out.at 3 _ rfl
        go_wp2_with fail
        refine (HP1.out _).mono ?_
        rintro e w5 ⟨a10, c10, rfl, hr, hac, hb⟩
        have HC35 := Lib.hid (HC34.out.step hb)
        have HC45 := Lib.hid (HC44.out.step hb)
        have HW5 := Lib.hid (HW4.out.step hb)
        have HR5 := Lib.hid (show Rd w5 a10 L c10 X ∧ (a10 = none → c10 = 0) from ⟨hr, hac⟩)
        clear hr hac
        clear hb HC34 HC44 HW4 p0 p1 p2 p3 q0 q1 q2 q3
        have HEND := Lib.hid (fun (M : Nat) (hM : M < L) (a' : Option Addr) (c' : Nat) (w' : World) (h : Rd w' a' M c' (X.take M)) (ha : a' = none → c' = 0) => show Calls Try.prog 16 #[.slice a' M c'] w' (fun e w'' => e = .returned (.tuple #[.agg #[.int .i64 0, .string ⟨#[]⟩, .string ⟨#[]⟩, .int .i64 0], .slice none 0 0, .int .i64 2]) ∧ Below w'.heap.size w' w'') by
          have h1 := opget_any a' M c' (X.take M) w' h ha (by
            have h2 := putO_len HM1.out
            rw [← HX.out.1, ← HX.out.2] at h2
            omega)
          unfold GetP at h1
          rw [HX.out.1, put_cut HM1.out M (by rw [← HX.out.1, ← HX.out.2]; exact hM)] at h1
          exact h1)
        cases m2 : mayB o2 with
        | false =>
          simp only [m2, Bool.false_eq_true, if_false] at HP2
          clear m2
          have p0 : w5.cell? ⟨b3, 0, none⟩ = some (.int .i64 k1) := HC35.out.at 0 _ rfl
          have p1 : w5.cell? ⟨b3, 1, none⟩ = some (.string s1) := HC35.out.at 1 _ rfl
          have p2 : w5.cell? ⟨b3, 2, none⟩ = some (.string t1) := HC35.out.at 2 _ rfl
          have p3 : w5.cell? ⟨b3, 3, none⟩ = some (.int .i64 n1) := HC35.out.at 3 _ rfl
          have q0 : w5.cell? ⟨b4, 0, none⟩ = some (.int .i64 k2) := HC45.out.at 0 _ rfl
          have q1 : w5.cell? ⟨b4, 1, none⟩ = some (.string s2) := HC45.out.at 1 _ rfl
          have q2 : w5.cell? ⟨b4, 2, none⟩ = some (.string t2) := HC45.out.at 2 _ rfl
          have q3 : w5.cell? ⟨b4, 3, none⟩ = some (.int .i64 n2) := HC45.out.at 3 _ rfl
          go_wp2_with fail
          refine (HP2.out _).mono ?_
          rintro e w6 ⟨rfl, hb⟩
          have HC36 := Lib.hid (HC35.out.step hb)
          have HC46 := Lib.hid (HC45.out.step hb)
          have HW6 := Lib.hid (HW5.out.step hb)
          have HR6 := Lib.hid (show Rd w6 a10 L c10 X ∧ (a10 = none → c10 = 0) from ⟨HR5.out.1.below hb, HR5.out.2⟩)
          clear hb HC35 HC45 HW5 p0 p1 p2 p3 q0 q1 q2 q3
          go_upto_region 10 with fail
          go_quiet (fail)
          rename_i KQ hKQ
          refine hKQ _ _ ?_
          clear hKQ KQ 
          obtain ⟨wd, hwd⟩ : ∃ wd, wd = w6.drewN nq := ⟨_, rfl⟩
          rw [← hwd]
          have hbd : Below w6.heap.size w6 wd := by rw [hwd]; exact below_drewNw w6 nq
          have HWd := Lib.hid (HW6.out.step hbd)
          have HRd := Lib.hid (show Rd wd a10 L c10 X ∧ (a10 = none → c10 = 0) from ⟨HR6.out.1.below hbd, HR6.out.2⟩)
          clear hwd hbd
          by_cases hm0 : m < 0
          · go_wp2_with fail
            go_ret
            exact ⟨rfl, HWd.out⟩
          obtain ⟨M, rfl⟩ : ∃ M : Nat, m = (M : Int) := ⟨m.toNat, by omega⟩
          by_cases hmL : (L : Int) ≤ (M : Int)
          · go_wp2_with fail
            go_ret
            exact ⟨rfl, HWd.out⟩
          have hML : M < L := by omega
          obtain ⟨a', e7, e7', hR7, hac7⟩ := HRd.out.1.fr HRd.out.2 M (by omega)
          go_wp2_with fail
          refine (HEND.out M hML a' c10 _ (hR7 _ HRd.out.1) hac7).mono ?_
          rintro e w8 ⟨rfl, hb⟩
          have HW8 := Lib.hid (HWd.out.step hb)
          clear hb
          go_wp2_with fail
          go_ret
          exact ⟨rfl, HW8.out.alloc HW8.out.size _⟩
        | true =>
          simp only [m2, if_true] at HP2
          have HM2 := Lib.hid m2
          obtain ⟨Y, hY⟩ : ∃ Y, Y = putO o2 := ⟨_, rfl⟩
          obtain ⟨L2, hL2⟩ : ∃ L2, L2 = Y.length := ⟨_, rfl⟩
          rw [← hY, ← hL2] at HP2
          have HY := Lib.hid hY
          clear m2 hY hL2
          have p0 : w5.cell? ⟨b3, 0, none⟩ = some (.int .i64 k1) := HC35.out.at 0 _ rfl
          have p1 : w5.cell? ⟨b3, 1, none⟩ = some (.string s1) := HC35.out.at 1 _ rfl
          have p2 : w5.cell? ⟨b3, 2, none⟩ = some (.string t1) := HC35.out.at 2 _ rfl
          have p3 : w5.cell? ⟨b3, 3, none⟩ = some (.int .i64 n1) := HC35.out.at 3 _ rfl
          have q0 : w5.cell? ⟨b4, 0, none⟩ = some (.int .i64 k2) := HC45.out.at 0 _ rfl
          have q1 : w5.cell? ⟨b4, 1, none⟩ = some (.string s2) := HC45.out.at 1 _ rfl
          have q2 : w5.cell? ⟨b4, 2, none⟩ = some (.string t2) := HC45.out.at 2 _ rfl
          have q3 : w5.cell? ⟨b4, 3, none⟩ = some (.int .i64 n2) := HC45.out.at 3 _ rfl
          go_wp2_with fail
          refine (HP2.out _).mono ?_
          rintro e w6 ⟨a12, c12, rfl, hr, hac, hb⟩
          have HC36 := Lib.hid (HC35.out.step hb)
          have HC46 := Lib.hid (HC45.out.step hb)
          have HW6 := Lib.hid (HW5.out.step hb)
          have HR6 := Lib.hid (show Rd w6 a10 L c10 X ∧ (a10 = none → c10 = 0) from ⟨HR5.out.1.below hb, HR5.out.2⟩)
          have HS6 := Lib.hid hr
          clear hr hac
          clear hb HC35 HC45 HW5 p0 p1 p2 p3 q0 q1 q2 q3
          go_upto_region 10 with fail
          have p0 : w6.cell? ⟨b3, 0, none⟩ = some (.int .i64 k1) := HC36.out.at 0 _ rfl
          have p1 : w6.cell? ⟨b3, 1, none⟩ = some (.string s1) := HC36.out.at 1 _ rfl
          have p2 : w6.cell? ⟨b3, 2, none⟩ = some (.string t1) := HC36.out.at 2 _ rfl
          have p3 : w6.cell? ⟨b3, 3, none⟩ = some (.int .i64 n1) := HC36.out.at 3 _ rfl
          have q0 : w6.cell? ⟨b4, 0, none⟩ = some (.int .i64 k2) := HC46.out.at 0 _ rfl
          have q1 : w6.cell? ⟨b4, 1, none⟩ = some (.string s2) := HC46.out.at 1 _ rfl
          have q2 : w6.cell? ⟨b4, 2, none⟩ = some (.string t2) := HC46.out.at 2 _ rfl
          have q3 : w6.cell? ⟨b4, 3, none⟩ = some (.int .i64 n2) := HC46.out.at 3 _ rfl
          have x1 := fun q => str_drew HR6.out.1 q
          have x2 := fun q => str_drew HS6.out q
          by_cases ho : o1 = o2
          · have hXY : Y = X := by rw [HY.out, HX.out.1, ho]
            have h5 := ho
            rw [HO.out.1, HO.out.2.1] at h5
            injection h5 with e1 e2 e3 e4
            have e5 : s1 = s2 := by rw [HO.out.2.2.1, HO.out.2.2.2.2.1, e2]
            have e6 : t1 = t2 := by rw [HO.out.2.2.2.1, HO.out.2.2.2.2.2, e3]
            subst e1 e4 e5 e6
            rw [hXY] at x2
            clear hXY
            clear ho e2 e3
            go_quiet (fail)
            rename_i KQ hKQ
            refine hKQ _ _ ?_
            clear hKQ KQ x1 x2 p0 p1 p2 p3 q0 q1 q2 q3
            obtain ⟨wd, hwd⟩ : ∃ wd, wd = w6.drewN nq := ⟨_, rfl⟩
            rw [← hwd]
            have hbd : Below w6.heap.size w6 wd := by rw [hwd]; exact below_drewNw w6 nq
            have HWd := Lib.hid (HW6.out.step hbd)
            have HRd := Lib.hid (show Rd wd a10 L c10 X ∧ (a10 = none → c10 = 0) from ⟨HR6.out.1.below hbd, HR6.out.2⟩)
            clear hwd hbd
            by_cases hm0 : m < 0
            · go_wp2_with fail
              go_ret
              exact ⟨rfl, HWd.out⟩
            obtain ⟨M, rfl⟩ : ∃ M : Nat, m = (M : Int) := ⟨m.toNat, by omega⟩
            by_cases hmL : (L : Int) ≤ (M : Int)
            · go_wp2_with fail
              go_ret
              exact ⟨rfl, HWd.out⟩
            have hML : M < L := by omega
            obtain ⟨a', e7, e7', hR7, hac7⟩ := HRd.out.1.fr HRd.out.2 M (by omega)
            go_wp2_with fail
            refine (HEND.out M hML a' c10 _ (hR7 _ HRd.out.1) hac7).mono ?_
            rintro e w8 ⟨rfl, hb⟩
            have HW8 := Lib.hid (HWd.out.step hb)
            clear hb
            go_wp2_with fail
            go_ret
            exact ⟨rfl, HW8.out.alloc HW8.out.size _⟩
          · have hXY : (X == Y) = false := beq_eq_false_iff_ne.2 (fun h => ho (put_only HM1.out HM2.out (by rw [← HX.out.1, ← HY.out, h])))
            have hno : k1 = k2 → s1.toList = s2.toList → t1.toList = t2.toList → n1 = n2 → False := by
              intro e1 e2 e3 e4
              apply ho
              rw [HO.out.2.2.1, HO.out.2.2.2.2.1, toList_bytes, toList_bytes] at e2
              rw [HO.out.2.2.2.1, HO.out.2.2.2.2.2, toList_bytes, toList_bytes] at e3
              rw [HO.out.1, HO.out.2.1, e1, e2, e3, e4]
            have HNO := Lib.hid hno
            clear ho hno
            by_cases g1 : k1 = k2
            case neg =>
              go_quiet (fail)
              rename_i KQ hKQ
              refine hKQ _ _ ?_
              clear hKQ KQ x1 x2 hXY p0 p1 p2 p3 q0 q1 q2 q3
              obtain ⟨wd, hwd⟩ : ∃ wd, wd = w6.drewN nq := ⟨_, rfl⟩
              rw [← hwd]
              have hbd : Below w6.heap.size w6 wd := by rw [hwd]; exact below_drewNw w6 nq
              have HWd := Lib.hid (HW6.out.step hbd)
              have HRd := Lib.hid (show Rd wd a10 L c10 X ∧ (a10 = none → c10 = 0) from ⟨HR6.out.1.below hbd, HR6.out.2⟩)
              clear hwd hbd
              by_cases hm0 : m < 0
              · go_wp2_with fail
                go_ret
                exact ⟨rfl, HWd.out⟩
              obtain ⟨M, rfl⟩ : ∃ M : Nat, m = (M : Int) := ⟨m.toNat, by omega⟩
              by_cases hmL : (L : Int) ≤ (M : Int)
              · go_wp2_with fail
                go_ret
                exact ⟨rfl, HWd.out⟩
              have hML : M < L := by omega
              obtain ⟨a', e7, e7', hR7, hac7⟩ := HRd.out.1.fr HRd.out.2 M (by omega)
              go_wp2_with fail
              refine (HEND.out M hML a' c10 _ (hR7 _ HRd.out.1) hac7).mono ?_
              rintro e w8 ⟨rfl, hb⟩
              have HW8 := Lib.hid (HWd.out.step hb)
              clear hb
              go_wp2_with fail
              go_ret
              exact ⟨rfl, HW8.out.alloc HW8.out.size _⟩
            by_cases g2 : s1.toList = s2.toList
            case neg =>
              go_quiet (fail)
              rename_i KQ hKQ
              refine hKQ _ _ ?_
              clear hKQ KQ x1 x2 hXY p0 p1 p2 p3 q0 q1 q2 q3
              obtain ⟨wd, hwd⟩ : ∃ wd, wd = w6.drewN nq := ⟨_, rfl⟩
              rw [← hwd]
              have hbd : Below w6.heap.size w6 wd := by rw [hwd]; exact below_drewNw w6 nq
              have HWd := Lib.hid (HW6.out.step hbd)
              have HRd := Lib.hid (show Rd wd a10 L c10 X ∧ (a10 = none → c10 = 0) from ⟨HR6.out.1.below hbd, HR6.out.2⟩)
              clear hwd hbd
              by_cases hm0 : m < 0
              · go_wp2_with fail
                go_ret
                exact ⟨rfl, HWd.out⟩
              obtain ⟨M, rfl⟩ : ∃ M : Nat, m = (M : Int) := ⟨m.toNat, by omega⟩
              by_cases hmL : (L : Int) ≤ (M : Int)
              · go_wp2_with fail
                go_ret
                exact ⟨rfl, HWd.out⟩
              have hML : M < L := by omega
              obtain ⟨a', e7, e7', hR7, hac7⟩ := HRd.out.1.fr HRd.out.2 M (by omega)
              go_wp2_with fail
              refine (HEND.out M hML a' c10 _ (hR7 _ HRd.out.1) hac7).mono ?_
              rintro e w8 ⟨rfl, hb⟩
              have HW8 := Lib.hid (HWd.out.step hb)
              clear hb
              go_wp2_with fail
              go_ret
              exact ⟨rfl, HW8.out.alloc HW8.out.size _⟩
            by_cases g3 : t1.toList = t2.toList
            case neg =>
              go_quiet (fail)
              rename_i KQ hKQ
              refine hKQ _ _ ?_
              clear hKQ KQ x1 x2 hXY p0 p1 p2 p3 q0 q1 q2 q3
              obtain ⟨wd, hwd⟩ : ∃ wd, wd = w6.drewN nq := ⟨_, rfl⟩
              rw [← hwd]
              have hbd : Below w6.heap.size w6 wd := by rw [hwd]; exact below_drewNw w6 nq
              have HWd := Lib.hid (HW6.out.step hbd)
              have HRd := Lib.hid (show Rd wd a10 L c10 X ∧ (a10 = none → c10 = 0) from ⟨HR6.out.1.below hbd, HR6.out.2⟩)
              clear hwd hbd
              by_cases hm0 : m < 0
              · go_wp2_with fail
                go_ret
                exact ⟨rfl, HWd.out⟩
              obtain ⟨M, rfl⟩ : ∃ M : Nat, m = (M : Int) := ⟨m.toNat, by omega⟩
              by_cases hmL : (L : Int) ≤ (M : Int)
              · go_wp2_with fail
                go_ret
                exact ⟨rfl, HWd.out⟩
              have hML : M < L := by omega
              obtain ⟨a', e7, e7', hR7, hac7⟩ := HRd.out.1.fr HRd.out.2 M (by omega)
              go_wp2_with fail
              refine (HEND.out M hML a' c10 _ (hR7 _ HRd.out.1) hac7).mono ?_
              rintro e w8 ⟨rfl, hb⟩
              have HW8 := Lib.hid (HWd.out.step hb)
              clear hb
              go_wp2_with fail
              go_ret
              exact ⟨rfl, HW8.out.alloc HW8.out.size _⟩
            have g4 : ¬ n1 = n2 := HNO.out g1 g2 g3
            go_quiet (fail)
            rename_i KQ hKQ
            refine hKQ _ _ ?_
            clear hKQ KQ x1 x2 hXY p0 p1 p2 p3 q0 q1 q2 q3
            obtain ⟨wd, hwd⟩ : ∃ wd, wd = w6.drewN nq := ⟨_, rfl⟩
            rw [← hwd]
            have hbd : Below w6.heap.size w6 wd := by rw [hwd]; exact below_drewNw w6 nq
            have HWd := Lib.hid (HW6.out.step hbd)
            have HRd := Lib.hid (show Rd wd a10 L c10 X ∧ (a10 = none → c10 = 0) from ⟨HR6.out.1.below hbd, HR6.out.2⟩)
            clear hwd hbd
            by_cases hm0 : m < 0
            · go_wp2_with fail
              go_ret
              exact ⟨rfl, HWd.out⟩
            obtain ⟨M, rfl⟩ : ∃ M : Nat, m = (M : Int) := ⟨m.toNat, by omega⟩
            by_cases hmL : (L : Int) ≤ (M : Int)
            · go_wp2_with fail
              go_ret
              exact ⟨rfl, HWd.out⟩
            have hML : M < L := by omega
            obtain ⟨a', e7, e7', hR7, hac7⟩ := HRd.out.1.fr HRd.out.2 M (by omega)
            go_wp2_with fail
            refine (HEND.out M hML a' c10 _ (hR7 _ HRd.out.1) hac7).mono ?_
            rintro e w8 ⟨rfl, hb⟩
            have HW8 := Lib.hid (HWd.out.step hb)
            clear hb
            go_wp2_with fail
            go_ret
            exact ⟨rfl, HW8.out.alloc HW8.out.size _⟩
end Go.Proofs.Ytfljpgcabkihlaa
