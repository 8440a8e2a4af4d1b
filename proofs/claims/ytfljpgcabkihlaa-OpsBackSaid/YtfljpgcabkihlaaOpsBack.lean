/- The statement OpsBack, walked out of the contracts of what it calls. -/
import Derived.Test.YtfljpgcabkihlaaOpsCut
namespace Go.Proofs.Ytfljpgcabkihlaa
open Go.ChangeShapes Go.WideShapes Go.ChangeAt Go.RowKit
set_option linter.unusedVariables false

/-- 'append(append([]byte(nil), x...), b...)': two runs, each in the world that the one ahead of it leaves. -/
theorem run_app2 {w : World} {i0 : TypeInfo} {z0 : Value} (hi : Try.prog.info? 5 = some i0) (hz0 : i0.zero = some z0) (hz1 : i0.size = 1) (hz2 : i0.bytes = 1) (hzs : z0.cells.size = 1)
    {a m c : _} {l : List UInt8} (hr : Rd w a m c l) (hac : a = none → c = 0) {a' m' c' : _} {l' : List UInt8} (hr' : Rd w a' m' c' l') (hac' : a' = none → c' = 0) (hm : m + m' ≤ 1000) :
    ∃ v1 w1 v2 w2, (Builtin.append_ #[26, 26] 26 #[.slice none 0 0, .slice a m c]).run Try.prog w = .ok v1 w1 ∧
      (Builtin.append_ #[26, 26] 26 #[v1, .slice a' m' c']).run Try.prog w1 = .ok v2 w2 ∧
      w2.ownsRow w.heap.size 5 1 v2 (m + m') ((l ++ l').map B) ∧ Below w.heap.size w w2 := by
  obtain ⟨v1, w1, h1, o1, g1⟩ := run_app (P := Try.prog) (ty := 26) Try.underlying26 hi hz0 hz1 hz2 hzs (World.ownsRow_nil w w.heap.size 5 1) hr hac (by omega) (Nat.le_refl _)
  have b1 := below_own (Below.refl _ w) (World.ownsRow_nil w w.heap.size 5 1) g1 (Nat.le_refl _)
  obtain ⟨v2, w2, h2, o2, g2⟩ := run_app (P := Try.prog) (ty := 26) Try.underlying26 hi hz0 hz1 hz2 hzs o1 (hr'.below b1) hac' (by omega) b1.size
  refine ⟨v1, w1, v2, w2, h1, h2, ?_, below_own b1 o1 g2 b1.size⟩
  rw [List.map_append]
  simpa using o2

theorem app_bytes (Y r : List UInt8) : ByteArray.toList ((⟨Y.toArray⟩ : ByteArray) ++ (⟨r.toArray⟩ : ByteArray)) = Y ++ r := by
  rw [Lib.toList_data]
  simp

set_option maxRecDepth 100000 in
set_option maxHeartbeats 4000000 in
theorem opsBack_walk (k1 n1 : Int) (s1 t1 : ByteArray) (a : Option Addr) (n c : Nat) (l : List UInt8) (w : World) (hs1 : s1.size ≤ maxLen) (ht1 : t1.size ≤ maxLen) (hr : Rd w a n c l) (hac : a = none → c = 0) :
    Calls Try.prog 5 #[.agg #[.int .i64 k1, .string s1, .string t1, .int .i64 n1], .slice a n c] w fun e w' => e = .returned (.bool true) ∧ Below w.heap.size w w' := by
  have hn63 : n ≤ 9223372036854775807 := Nat.le_trans hr.le hr.cap
  have HSH1 := Lib.hid (fun w' => short_any k1 n1 s1 t1 w' hs1 ht1)
  obtain ⟨b1, hb1⟩ : ∃ b, b = shortB s1 t1 := ⟨_, rfl⟩
  rw [← hb1] at HSH1
  have HB1 := Lib.hid hb1
  have HR := Lib.hid (show Rd w a n c l ∧ (a = none → c = 0) from ⟨hr, hac⟩)
  obtain ⟨i1, ji, jz0, jz1, jz2⟩ := info_parts info_u8
  have HIU := Lib.hid (show Try.prog.info? 5 = some i1 ∧ i1.zero = some (.int .u8 0) ∧ i1.size = 1 ∧ i1.bytes = 1 from ⟨ji, jz0, jz1, jz2⟩)
  clear hb1 hs1 ht1 hr hac ji jz0 jz1 jz2
  go_enter Try.func5, Try.ntmps5
  go_upto_region 1 with fail
  obtain ⟨b3, hb3⟩ : ∃ b3, b3 = w.heap.size := ⟨_, rfl⟩
  have hC := Cel.new w 23 [.int .i64 k1, .string s1, .string t1, .int .i64 n1]
  rw [← hb3] at hC ⊢
  generalize hw1 : w.alloc (.cells #[.int .i64 k1, .string s1, .string t1, .int .i64 n1] _) = w1
  have HC1 := Lib.hid (show Cel w1 b3 23 [.int .i64 k1, .string s1, .string t1, .int .i64 n1] by rw [← hw1]; exact hC)
  have HW1 := Lib.hid (show Below w.heap.size w w1 by rw [← hw1]; exact (Below.refl _ _).alloc (Nat.le_refl _) _)
  clear hw1 hC hb3
  go_wp2_with fail
  refine (awake05 _).mono ?_
  rintro e w2 ⟨rfl, hb⟩
  have HC2 := Lib.hid (HC1.out.step hb)
  have HW2 := Lib.hid (HW1.out.step hb)
  clear hb HC1 HW1
  have p0 : w2.cell? ⟨b3, 0, none⟩ = some (.int .i64 k1) := HC2.out.at 0 _ rfl
  have p1 : w2.cell? ⟨b3, 1, none⟩ = some (.string s1) := HC2.out.at 1 _ rfl
  have p2 : w2.cell? ⟨b3, 2, none⟩ = some (.string t1) := HC2.out.at 2 _ rfl
  have p3 : w2.cell? ⟨b3, 3, none⟩ = some (.int .i64 n1) := HC2.out.at 3 _ rfl
  go_wp2_with fail
  refine (HSH1.out _).mono ?_
  rintro e w3 ⟨rfl, hb⟩
  have HC3 := Lib.hid (HC2.out.step hb)
  have HW3 := Lib.hid (HW2.out.step hb)
  clear hb HC2 HW2 p0 p1 p2 p3
  cases b1 with
  | false =>
    go_wp2_with fail
    go_ret
    exact ⟨rfl, HW3.out⟩
  | true =>
    by_cases hn : n ≤ 200
    case neg =>
      have hn2 : 200 < (n : Int) := by omega
      go_wp2_with fail
      go_ret
      exact ⟨rfl, HW3.out⟩
    have hn2 : ¬ 200 < (n : Int) := by omega
    obtain ⟨key1, hk1⟩ : ∃ l : List UInt8, s1 = ⟨l.toArray⟩ := ⟨s1.data.toList, by cases s1; simp⟩
    obtain ⟨el1, he1⟩ : ∃ l : List UInt8, t1 = ⟨l.toArray⟩ := ⟨t1.data.toList, by cases t1; simp⟩
    obtain ⟨lk1, le1⟩ : key1.length ≤ 100 ∧ el1.length ≤ 100 := by
      have := HB1.out.symm
      rw [hk1, he1] at this
      simpa [shortB, ByteArray.size] using this
    obtain ⟨o1, ho1⟩ : ∃ o : Opn, o = ⟨k1, key1, el1, n1⟩ := ⟨_, rfl⟩
    have HP1 := Lib.hid (fun w' => show Calls Try.prog 10 #[.agg #[.int .i64 k1, .string s1, .string t1, .int .i64 n1]] w' (PutP o1 w') by rw [ho1, hk1, he1]; exact put_any k1 n1 key1 el1 w' (by omega) (by omega))
    have HO := Lib.hid (show o1 = ⟨k1, key1, el1, n1⟩ ∧ s1 = ⟨key1.toArray⟩ ∧ t1 = ⟨el1.toArray⟩ from ⟨ho1, hk1, he1⟩)
    clear hk1 he1 lk1 le1 ho1 HB1
    unfold PutP at HP1
    cases m1 : mayB o1 with
    | false =>
      simp only [m1, Bool.false_eq_true, if_false] at HP1
      clear m1
      have p0 : w3.cell? ⟨b3, 0, none⟩ = some (.int .i64 k1) := HC3.out.at 0 _ rfl
      have p1 : w3.cell? ⟨b3, 1, none⟩ = some (.string s1) := HC3.out.at 1 _ rfl
      have p2 : w3.cell? ⟨b3, 2, none⟩ = some (.string t1) := HC3.out.at 2 _ rfl
      have p3 : w3.cell? ⟨b3, 3, none⟩ = some (.int .i64 n1) := HC3.out.at 3 _ rfl
      go_wp2_with fail
      refine (HP1.out _).mono ?_
      rintro e w4 ⟨rfl, hb⟩
      have HW4 := Lib.hid (HW3.out.step hb)
      clear hb HC3 HW3 p0 p1 p2 p3 HP1 HSH1
      have hG := opget_any a n c l w4 (HR.out.1.below HW4.out) HR.out.2 (Nat.le_trans hn (by decide))
      unfold GetP at hG
      cases hgo : getO l with
      | none =>
        rw [hgo] at hG
        have HG := Lib.hid (show Calls Try.prog 16 #[.slice a n c] w4 (fun e w'' => e = .returned (.tuple #[.agg #[.int .i64 0, .string ⟨#[]⟩, .string ⟨#[]⟩, .int .i64 0], .slice none 0 0, .int .i64 2]) ∧ Below w4.heap.size w4 w'') from hG)
        clear hG hgo
        go_wp2_with fail
        refine HG.out.mono ?_
        rintro e w8 ⟨rfl, hb⟩
        have HW8 := Lib.hid (HW4.out.step hb)
        clear hb
        go_wp2_with fail
        go_ret
        exact ⟨rfl, HW8.out.alloc HW8.out.size _⟩
      | some pr =>
        obtain ⟨⟨pk, pkey, pel, pn⟩, r⟩ := pr
        rw [hgo] at hG
        obtain ⟨g1, g2⟩ := get_got hgo
        obtain ⟨Y, hY⟩ : ∃ Y, Y = putO ⟨pk, pkey, pel, pn⟩ := ⟨_, rfl⟩
        have hkl := mayB_kind g1
        have hkk := (keyB_len hkl.2.2.1).2
        have hel : pel.length ≤ 8 := by
          have h4 := hkl.2.2.2
          by_cases hz : pk = 0
          · rw [if_pos hz] at h4; simp only [cntB, Bool.and_eq_true, decide_eq_true_eq] at h4; rw [h4.2]; decide
          · rw [if_neg hz] at h4; simp only [namB, Bool.and_eq_true, decide_eq_true_eq] at h4; exact (keyB_len h4.2).2
        simp only at hkk
        have HG := Lib.hid (show Calls Try.prog 16 #[.slice a n c] w4 (fun e w'' => ∃ a c, e = .returned (.tuple #[.agg #[.int .i64 pk, .string ⟨pkey.toArray⟩, .string ⟨pel.toArray⟩, .int .i64 pn], .slice a r.length c, .int .i64 0]) ∧ Rd w'' a r.length c r ∧ (a = none → c = 0) ∧ Below w4.heap.size w4 w'') from hG)
        have HPT := Lib.hid (fun w' => show Calls Try.prog 10 #[.agg #[.int .i64 pk, .string ⟨pkey.toArray⟩, .string ⟨pel.toArray⟩, .int .i64 pn]] w' (fun e w'' => ∃ a c, e = .returned (.tuple #[.slice a Y.length c, .int .i64 0]) ∧ Rd w'' a Y.length c Y ∧ (a = none → c = 0) ∧ Below w'.heap.size w' w'') by
          have h1 := put_any pk pn pkey pel w' (by omega) (by omega)
          unfold PutP at h1
          simp only [g1, if_true, ← hY] at h1
          exact h1)
        have HMY := Lib.hid (fun w' => show Calls Try.prog 14 #[.agg #[.int .i64 pk, .string ⟨pkey.toArray⟩, .string ⟨pel.toArray⟩, .int .i64 pn]] w' (fun e w'' => e = .returned (.bool true) ∧ Below w'.heap.size w' w'') by
          have h1 := may_any pk pn pkey pel w' (by omega) (by omega)
          rw [g1] at h1
          exact h1)
        have HYR := Lib.hid (show Y ++ r = l by rw [hY]; exact g2)
        obtain ⟨ps, hps⟩ : ∃ s : ByteArray, s = ⟨pkey.toArray⟩ := ⟨_, rfl⟩
        obtain ⟨pt, hpt⟩ : ∃ s : ByteArray, s = ⟨pel.toArray⟩ := ⟨_, rfl⟩
        rw [← hps, ← hpt] at HG HPT HMY
        obtain ⟨yl, hyl⟩ : ∃ yl, yl = Y.length := ⟨_, rfl⟩
        obtain ⟨rl, hrl⟩ : ∃ rl, rl = r.length := ⟨_, rfl⟩
        rw [← hyl] at HPT
        rw [← hrl] at HG
        clear hG hgo g1 g2 hY hkl hkk hel hps hpt hyl hrl
        go_wp2_with fail
        refine HG.out.mono ?_
        rintro e w8 ⟨a8, c8, rfl, hr8, _, hb⟩
        have HW8 := Lib.hid (HW4.out.step hb)
        have HR8 := Lib.hid hr8
        clear hb hr8
        go_upto_region 11 with fail
        generalize hw9 : w8.alloc (.cells _ _) = w9
        have hb89 : Below w8.heap.size w8 w9 := by rw [← hw9]; exact (Below.refl _ _).alloc (Nat.le_refl _) _
        obtain ⟨b9, hb9⟩ : ∃ b9, b9 = w8.heap.size := ⟨_, rfl⟩
        have HC9 := Lib.hid (show Cel w9 b9 23 [.int .i64 pk, .string ps, .string pt, .int .i64 pn] by rw [← hw9, hb9]; exact Cel.new w8 _ _)
        have HW9 := Lib.hid (HW8.out.step hb89)
        have HR9 := Lib.hid (HR8.out.below hb89)
        rw [← hb9]
        clear hw9 hb89 hb9 HW8 HR8
        have q0 : w9.cell? ⟨b9, 0, none⟩ = some (.int .i64 pk) := HC9.out.at 0 _ rfl
        have q1 : w9.cell? ⟨b9, 1, none⟩ = some (.string ps) := HC9.out.at 1 _ rfl
        have q2 : w9.cell? ⟨b9, 2, none⟩ = some (.string pt) := HC9.out.at 2 _ rfl
        have q3 : w9.cell? ⟨b9, 3, none⟩ = some (.int .i64 pn) := HC9.out.at 3 _ rfl
        go_wp2_with fail
        refine (HPT.out _).mono ?_
        rintro e w10 ⟨a10, c10, rfl, hr10, _, hb⟩
        have HW10 := Lib.hid (HW9.out.step hb)
        have HC10 := Lib.hid (HC9.out.step hb)
        have HR10 := Lib.hid (HR9.out.below hb)
        have HY10 := Lib.hid hr10
        clear hb hr10 q0 q1 q2 q3 HC9 HR9 HW9
        have q0 : w10.cell? ⟨b9, 0, none⟩ = some (.int .i64 pk) := HC10.out.at 0 _ rfl
        have q1 : w10.cell? ⟨b9, 1, none⟩ = some (.string ps) := HC10.out.at 1 _ rfl
        have q2 : w10.cell? ⟨b9, 2, none⟩ = some (.string pt) := HC10.out.at 2 _ rfl
        have q3 : w10.cell? ⟨b9, 3, none⟩ = some (.int .i64 pn) := HC10.out.at 3 _ rfl
        go_wp2_with fail
        refine (HMY.out _).mono ?_
        rintro e w11 ⟨rfl, hb⟩
        have HW11 := Lib.hid (HW10.out.step hb)
        have x1 : (convert 26 9 (.slice a8 rl c8)).run Try.prog w11 = .ok (.string ⟨r.toArray⟩) w11 := str_drew (HR10.out.below hb) 0
        have x2 : (convert 26 9 (.slice a10 yl c10)).run Try.prog w11 = .ok (.string ⟨Y.toArray⟩) w11 := str_drew (HY10.out.below hb) 0
        have x3 : (convert 26 9 (.slice a n c)).run Try.prog w11 = .ok (.string ⟨l.toArray⟩) w11 := str_drew (HR.out.1.below HW11.out) 0
        clear hb q0 q1 q2 q3
        have hYr : ¬ 9223372036854775807 < Y.length + r.length := by
          have h1 := congrArg List.length HYR.out
          rw [List.length_append, HR.out.1.len] at h1
          omega
        have htl : (ByteArray.toList ((⟨Y.toArray⟩ : ByteArray) ++ (⟨r.toArray⟩ : ByteArray)) == l) = true := by rw [app_bytes, HYR.out]; exact beq_self_eq_true _
        go_wp2_with fail
        go_ret
        exact ⟨rfl, HW11.out⟩
    | true =>
      simp only [m1, if_true] at HP1
      have HM1 := Lib.hid m1
      obtain ⟨X, hX⟩ : ∃ X, X = putO o1 := ⟨_, rfl⟩
      obtain ⟨L, hL⟩ : ∃ L, L = X.length := ⟨_, rfl⟩
      rw [← hX, ← hL] at HP1
      have HX := Lib.hid (show X = putO o1 ∧ L = X.length from ⟨hX, hL⟩)
      have hL60 : L ≤ 60 := by rw [hL, hX]; exact putO_len m1
      clear m1 hX hL
      have p0 : w3.cell? ⟨b3, 0, none⟩ = some (.int .i64 k1) := HC3.out.at 0 _ rfl
      have p1 : w3.cell? ⟨b3, 1, none⟩ = some (.string s1) := HC3.out.at 1 _ rfl
      have p2 : w3.cell? ⟨b3, 2, none⟩ = some (.string t1) := HC3.out.at 2 _ rfl
      have p3 : w3.cell? ⟨b3, 3, none⟩ = some (.int .i64 n1) := HC3.out.at 3 _ rfl
      go_wp2_with fail
      refine (HP1.out _).mono ?_
      rintro e w4 ⟨a4, c4, rfl, hr4, hac4, hb⟩
      have HC4 := Lib.hid (HC3.out.step hb)
      have HW4 := Lib.hid (HW3.out.step hb)
      obtain ⟨x1, y1, x2, y2, hrun1, hrun2, hown5, hb5⟩ := run_app2 HIU.out.1 HIU.out.2.1 HIU.out.2.2.1 HIU.out.2.2.2 rfl hr4 hac4 (HR.out.1.below HW4.out) HR.out.2 (by omega)
      have hlen5 : (X ++ l).length = L + n := by rw [List.length_append, ← HX.out.2, HR.out.1.len]
      rw [← hlen5] at hown5
      obtain ⟨a5, c5, rfl, hr5⟩ := Rd.of_own hown5
      have hac5 := own_none hown5
      have HRUN1 := Lib.hid hrun1
      have HRUN2 := Lib.hid hrun2
      have HC5 := Lib.hid (HC4.out.step hb5)
      have HW5 := Lib.hid (HW4.out.step hb5)
      have HG5 := Lib.hid (show Calls Try.prog 16 #[.slice a5 (X ++ l).length c5] y2 (fun e w'' => ∃ a c, e = .returned (.tuple #[.agg #[.int .i64 k1, .string s1, .string t1, .int .i64 n1], .slice a n c, .int .i64 0]) ∧ Rd w'' a n c l ∧ (a = none → c = 0) ∧ Below y2.heap.size y2 w'') by
        have h1 := opget_any a5 _ c5 (X ++ l) y2 hr5 hac5 (by rw [hlen5]; omega)
        unfold GetP at h1
        rw [HX.out.1, get_put o1 HM1.out l] at h1
        rw [HX.out.1]
        refine h1.mono ?_
        rintro e w'' ⟨a, c, rfl, h2, h3, h4⟩
        rw [HR.out.1.len] at h2 ⊢
        refine ⟨a, c, ?_, h2, h3, h4⟩
        rw [HO.out.1, HO.out.2.1, HO.out.2.2]
        rfl)
      obtain ⟨L5, hL5⟩ : ∃ L5, L5 = (X ++ l).length := ⟨_, rfl⟩
      rw [← hL5] at HRUN2 HG5
      clear hb hr4 hac4 hrun1 hrun2 hown5 hb5 hlen5 hr5 hac5 hL5 HC3 HW3 p0 p1 p2 p3 HP1 HSH1
      have tok1 : True := trivial
      go_wp2_with (first
        | (at_builtin; have _t := tok1; refine Lib.wpList_append_run _ rfl _ _ _ _ rfl _ _ rfl rfl _ _ HRUN1.out ?_; clear tok1)
        | (at_builtin; refine Lib.wpList_append_run _ rfl _ _ _ _ rfl _ _ rfl rfl _ _ HRUN2.out ?_))
      refine HG5.out.mono ?_
      rintro e w6 ⟨a6, c6, rfl, hr6, hac6, hb⟩
      have HC6 := Lib.hid (HC5.out.step hb)
      have HW6 := Lib.hid (HW5.out.step hb)
      have HR6 := Lib.hid hr6
      clear hb hr6 hac6 HC5 HW5 HRUN1 HRUN2 HG5
      go_upto_region 8 with fail
      generalize hw7 : w6.alloc (.cells _ _) = w7
      have hb67 : Below w6.heap.size w6 w7 := by rw [← hw7]; exact (Below.refl _ _).alloc (Nat.le_refl _) _
      obtain ⟨b7, hb7⟩ : ∃ b7, b7 = w6.heap.size := ⟨_, rfl⟩
      have q0 : w7.cell? ⟨b7, 0, none⟩ = some (.int .i64 k1) := by rw [← hw7, hb7]; exact new_cell rfl
      have q1 : w7.cell? ⟨b7, 1, none⟩ = some (.string s1) := by rw [← hw7, hb7]; exact new_cell rfl
      have q2 : w7.cell? ⟨b7, 2, none⟩ = some (.string t1) := by rw [← hw7, hb7]; exact new_cell rfl
      have q3 : w7.cell? ⟨b7, 3, none⟩ = some (.int .i64 n1) := by rw [← hw7, hb7]; exact new_cell rfl
      have HC7 := Lib.hid (HC6.out.step hb67)
      have HW7 := Lib.hid (HW6.out.step hb67)
      have x1 : (convert 26 9 (.slice a6 n c6)).run Try.prog w7 = .ok (.string ⟨l.toArray⟩) w7 := str_drew (HR6.out.below hb67) 0
      have x2 : (convert 26 9 (.slice a n c)).run Try.prog w7 = .ok (.string ⟨l.toArray⟩) w7 := str_drew (HR.out.1.below HW7.out) 0
      rw [← hb7]
      clear hw7 hb67 hb7 HC6 HW6
      have p0 : w7.cell? ⟨b3, 0, none⟩ = some (.int .i64 k1) := HC7.out.at 0 _ rfl
      have p1 : w7.cell? ⟨b3, 1, none⟩ = some (.string s1) := HC7.out.at 1 _ rfl
      have p2 : w7.cell? ⟨b3, 2, none⟩ = some (.string t1) := HC7.out.at 2 _ rfl
      have p3 : w7.cell? ⟨b3, 3, none⟩ = some (.int .i64 n1) := HC7.out.at 3 _ rfl
      go_upto_region 10 with fail
      clear q0 q1 q2 q3 x1 x2 p0 p1 p2 p3 HC7
      have hG := opget_any a n c l w7 (HR.out.1.below HW7.out) HR.out.2 (Nat.le_trans hn (by decide))
      unfold GetP at hG
      cases hgo : getO l with
      | none =>
        rw [hgo] at hG
        have HG := Lib.hid (show Calls Try.prog 16 #[.slice a n c] w7 (fun e w'' => e = .returned (.tuple #[.agg #[.int .i64 0, .string ⟨#[]⟩, .string ⟨#[]⟩, .int .i64 0], .slice none 0 0, .int .i64 2]) ∧ Below w7.heap.size w7 w'') from hG)
        clear hG hgo
        go_wp2_with fail
        refine HG.out.mono ?_
        rintro e w8 ⟨rfl, hb⟩
        have HW8 := Lib.hid (HW7.out.step hb)
        clear hb
        go_wp2_with fail
        go_ret
        exact ⟨rfl, HW8.out.alloc HW8.out.size _⟩
      | some pr =>
        obtain ⟨⟨pk, pkey, pel, pn⟩, r⟩ := pr
        rw [hgo] at hG
        obtain ⟨g1, g2⟩ := get_got hgo
        obtain ⟨Y, hY⟩ : ∃ Y, Y = putO ⟨pk, pkey, pel, pn⟩ := ⟨_, rfl⟩
        have hkl := mayB_kind g1
        have hkk := (keyB_len hkl.2.2.1).2
        have hel : pel.length ≤ 8 := by
          have h4 := hkl.2.2.2
          by_cases hz : pk = 0
          · rw [if_pos hz] at h4; simp only [cntB, Bool.and_eq_true, decide_eq_true_eq] at h4; rw [h4.2]; decide
          · rw [if_neg hz] at h4; simp only [namB, Bool.and_eq_true, decide_eq_true_eq] at h4; exact (keyB_len h4.2).2
        simp only at hkk
        have HG := Lib.hid (show Calls Try.prog 16 #[.slice a n c] w7 (fun e w'' => ∃ a c, e = .returned (.tuple #[.agg #[.int .i64 pk, .string ⟨pkey.toArray⟩, .string ⟨pel.toArray⟩, .int .i64 pn], .slice a r.length c, .int .i64 0]) ∧ Rd w'' a r.length c r ∧ (a = none → c = 0) ∧ Below w7.heap.size w7 w'') from hG)
        have HPT := Lib.hid (fun w' => show Calls Try.prog 10 #[.agg #[.int .i64 pk, .string ⟨pkey.toArray⟩, .string ⟨pel.toArray⟩, .int .i64 pn]] w' (fun e w'' => ∃ a c, e = .returned (.tuple #[.slice a Y.length c, .int .i64 0]) ∧ Rd w'' a Y.length c Y ∧ (a = none → c = 0) ∧ Below w'.heap.size w' w'') by
          have h1 := put_any pk pn pkey pel w' (by omega) (by omega)
          unfold PutP at h1
          simp only [g1, if_true, ← hY] at h1
          exact h1)
        have HMY := Lib.hid (fun w' => show Calls Try.prog 14 #[.agg #[.int .i64 pk, .string ⟨pkey.toArray⟩, .string ⟨pel.toArray⟩, .int .i64 pn]] w' (fun e w'' => e = .returned (.bool true) ∧ Below w'.heap.size w' w'') by
          have h1 := may_any pk pn pkey pel w' (by omega) (by omega)
          rw [g1] at h1
          exact h1)
        have HYR := Lib.hid (show Y ++ r = l by rw [hY]; exact g2)
        obtain ⟨ps, hps⟩ : ∃ s : ByteArray, s = ⟨pkey.toArray⟩ := ⟨_, rfl⟩
        obtain ⟨pt, hpt⟩ : ∃ s : ByteArray, s = ⟨pel.toArray⟩ := ⟨_, rfl⟩
        rw [← hps, ← hpt] at HG HPT HMY
        obtain ⟨yl, hyl⟩ : ∃ yl, yl = Y.length := ⟨_, rfl⟩
        obtain ⟨rl, hrl⟩ : ∃ rl, rl = r.length := ⟨_, rfl⟩
        rw [← hyl] at HPT
        rw [← hrl] at HG
        clear hG hgo g1 g2 hY hkl hkk hel hps hpt hyl hrl
        go_wp2_with fail
        refine HG.out.mono ?_
        rintro e w8 ⟨a8, c8, rfl, hr8, _, hb⟩
        have HW8 := Lib.hid (HW7.out.step hb)
        have HR8 := Lib.hid hr8
        clear hb hr8
        go_upto_region 11 with fail
        generalize hw9 : w8.alloc (.cells _ _) = w9
        have hb89 : Below w8.heap.size w8 w9 := by rw [← hw9]; exact (Below.refl _ _).alloc (Nat.le_refl _) _
        obtain ⟨b9, hb9⟩ : ∃ b9, b9 = w8.heap.size := ⟨_, rfl⟩
        have HC9 := Lib.hid (show Cel w9 b9 23 [.int .i64 pk, .string ps, .string pt, .int .i64 pn] by rw [← hw9, hb9]; exact Cel.new w8 _ _)
        have HW9 := Lib.hid (HW8.out.step hb89)
        have HR9 := Lib.hid (HR8.out.below hb89)
        rw [← hb9]
        clear hw9 hb89 hb9 HW8 HR8
        have q0 : w9.cell? ⟨b9, 0, none⟩ = some (.int .i64 pk) := HC9.out.at 0 _ rfl
        have q1 : w9.cell? ⟨b9, 1, none⟩ = some (.string ps) := HC9.out.at 1 _ rfl
        have q2 : w9.cell? ⟨b9, 2, none⟩ = some (.string pt) := HC9.out.at 2 _ rfl
        have q3 : w9.cell? ⟨b9, 3, none⟩ = some (.int .i64 pn) := HC9.out.at 3 _ rfl
        go_wp2_with fail
        refine (HPT.out _).mono ?_
        rintro e w10 ⟨a10, c10, rfl, hr10, _, hb⟩
        have HW10 := Lib.hid (HW9.out.step hb)
        have HC10 := Lib.hid (HC9.out.step hb)
        have HR10 := Lib.hid (HR9.out.below hb)
        have HY10 := Lib.hid hr10
        clear hb hr10 q0 q1 q2 q3 HC9 HR9 HW9
        have q0 : w10.cell? ⟨b9, 0, none⟩ = some (.int .i64 pk) := HC10.out.at 0 _ rfl
        have q1 : w10.cell? ⟨b9, 1, none⟩ = some (.string ps) := HC10.out.at 1 _ rfl
        have q2 : w10.cell? ⟨b9, 2, none⟩ = some (.string pt) := HC10.out.at 2 _ rfl
        have q3 : w10.cell? ⟨b9, 3, none⟩ = some (.int .i64 pn) := HC10.out.at 3 _ rfl
        go_wp2_with fail
        refine (HMY.out _).mono ?_
        rintro e w11 ⟨rfl, hb⟩
        have HW11 := Lib.hid (HW10.out.step hb)
        have x1 : (convert 26 9 (.slice a8 rl c8)).run Try.prog w11 = .ok (.string ⟨r.toArray⟩) w11 := str_drew (HR10.out.below hb) 0
        have x2 : (convert 26 9 (.slice a10 yl c10)).run Try.prog w11 = .ok (.string ⟨Y.toArray⟩) w11 := str_drew (HY10.out.below hb) 0
        have x3 : (convert 26 9 (.slice a n c)).run Try.prog w11 = .ok (.string ⟨l.toArray⟩) w11 := str_drew (HR.out.1.below HW11.out) 0
        clear hb q0 q1 q2 q3
        have hYr : ¬ 9223372036854775807 < Y.length + r.length := by
          have h1 := congrArg List.length HYR.out
          rw [List.length_append, HR.out.1.len] at h1
          omega
        have htl : (ByteArray.toList ((⟨Y.toArray⟩ : ByteArray) ++ (⟨r.toArray⟩ : ByteArray)) == l) = true := by rw [app_bytes, HYR.out]; exact beq_self_eq_true _
        go_wp2_with fail
        go_ret
        exact ⟨rfl, HW11.out⟩
end Go.Proofs.Ytfljpgcabkihlaa
