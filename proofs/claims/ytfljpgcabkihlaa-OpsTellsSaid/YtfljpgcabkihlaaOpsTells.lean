/- The statement OpsTells, walked out of the contracts of what it calls. -/
import Derived.Test.YtfljpgcabkihlaaOpsRefGet
namespace Go.Proofs.Ytfljpgcabkihlaa
open Go.ChangeShapes Go.WideShapes Go.ChangeAt Go.RowKit
set_option linter.unusedVariables false

/-- Put's answer, with letters for the bytes and the error. -/
theorem putP_word (o : Opn) : ∃ (r : List UInt8) (g : Int), ∀ w e w', PutP o w e w' → ∃ a c, e = .returned (.tuple #[.slice a r.length c, .int .i64 g]) ∧ Rd w' a r.length c r ∧ Below w.heap.size w w' := by
  unfold PutP
  cases h : mayB o with
  | false => exact ⟨[], 1, fun w e w' ⟨he, hb⟩ => ⟨none, 0, he, Rd.zero _ _ _ (by decide), hb⟩⟩
  | true => exact ⟨putO o, 0, fun w e w' ⟨a, c, he, h1, _, hb⟩ => ⟨a, c, he, h1, hb⟩⟩

set_option maxRecDepth 100000 in
set_option maxHeartbeats 4000000 in
theorem opsTells_walk (k m : Int) (s1 t1 s : ByteArray) (w : World) (hs1 : s1.size ≤ maxLen) (ht1 : t1.size ≤ maxLen) (hs : s.size ≤ maxLen) :
    Calls Try.prog 3 #[.agg #[.int .i64 k, .string s1, .string t1, .int .i64 m], .string s] w fun e w' => e = .returned (.bool true) ∧ Below w.heap.size w w' := by
  have HSH1 := Lib.hid (fun w' => short_any k m s1 t1 w' hs1 ht1)
  obtain ⟨b1, hb1⟩ : ∃ b, b = shortB s1 t1 := ⟨_, rfl⟩
  rw [← hb1] at HSH1
  have HB1 := Lib.hid hb1
  obtain ⟨n3, hn3⟩ : ∃ n3, n3 = s.size := ⟨_, rfl⟩
  have hz3 := hn3.symm
  have hm3 : n3 ≤ 9223372036854775807 := by rw [hn3]; exact Nat.le_trans hs (by unfold maxLen; decide)
  clear hb1 hs1 ht1 hs hn3
  go_enter Try.func3, Try.ntmps3
  go_upto_region 1 with fail
  obtain ⟨b3, hb3⟩ : ∃ b3, b3 = w.heap.size := ⟨_, rfl⟩
  have hC := Cel.new w 23 [.int .i64 k, .string s1, .string t1, .int .i64 m]
  rw [← hb3] at hC ⊢
  generalize hw1 : w.alloc (.cells #[.int .i64 k, .string s1, .string t1, .int .i64 m] _) = w1
  have HC1 := Lib.hid (show Cel w1 b3 23 [.int .i64 k, .string s1, .string t1, .int .i64 m] by rw [← hw1]; exact hC)
  have HW1 := Lib.hid (show Below w.heap.size w w1 by rw [← hw1]; exact (Below.refl _ _).alloc (Nat.le_refl _) _)
  clear hw1 hC hb3
  go_wp2_with fail
  refine (awake05 _).mono ?_
  rintro e w2 ⟨rfl, hb⟩
  have HC2 := Lib.hid (HC1.out.step hb)
  have HW2 := Lib.hid (HW1.out.step hb)
  clear hb HC1 HW1
  have p0 : w2.cell? ⟨b3, 0, none⟩ = some (.int .i64 k) := HC2.out.at 0 _ rfl
  have p1 : w2.cell? ⟨b3, 1, none⟩ = some (.string s1) := HC2.out.at 1 _ rfl
  have p2 : w2.cell? ⟨b3, 2, none⟩ = some (.string t1) := HC2.out.at 2 _ rfl
  have p3 : w2.cell? ⟨b3, 3, none⟩ = some (.int .i64 m) := HC2.out.at 3 _ rfl
  go_wp2_with fail
  refine (HSH1.out _).mono ?_
  rintro e w3 ⟨rfl, hb⟩
  have HC3 := Lib.hid (HC2.out.step hb)
  have HW3 := Lib.hid (HW2.out.step hb)
  clear hb HC2 HW2 p0 p1 p2 p3
  cases b1 with
  | false =>
    go_wp2_with fail
    go_ret
    exact ⟨rfl, HW3.out⟩
  | true =>
    by_cases hn : n3 ≤ 100
    case neg =>
      have hn2 : 100 < (n3 : Int) := by omega
      go_wp2_with fail
      go_ret
      exact ⟨rfl, HW3.out⟩
    have hn2 : ¬ 100 < (n3 : Int) := by omega
    obtain ⟨key1, hk1⟩ : ∃ l : List UInt8, s1 = ⟨l.toArray⟩ := ⟨s1.data.toList, by cases s1; simp⟩
    obtain ⟨el1, he1⟩ : ∃ l : List UInt8, t1 = ⟨l.toArray⟩ := ⟨t1.data.toList, by cases t1; simp⟩
    obtain ⟨sl, hsl⟩ : ∃ l : List UInt8, s = ⟨l.toArray⟩ := ⟨s.data.toList, by cases s; simp⟩
    obtain ⟨lk1, le1⟩ : key1.length ≤ 100 ∧ el1.length ≤ 100 := by
      have := HB1.out.symm
      rw [hk1, he1] at this
      simpa [shortB, ByteArray.size] using this
    have lsl : sl.length ≤ 100 := by have := hz3; rw [hsl] at this; simp [ByteArray.size] at this; omega
    obtain ⟨r, g, hP⟩ := putP_word ⟨k, key1, el1, m⟩
    have HP := Lib.hid (fun w' => show Calls Try.prog 10 #[.agg #[.int .i64 k, .string s1, .string t1, .int .i64 m]] w' _ by rw [hk1, he1]; exact (put_any k m key1 el1 w' (by omega) (by omega)).mono (hP w'))
    have HQ := Lib.hid (fun w' => show Calls Try.prog 11 #[.agg #[.int .i64 k, .string s1, .string t1, .int .i64 m]] w' _ by rw [hk1, he1]; exact (put_ref k m key1 el1 w' (by omega) (by omega)).mono (hP w'))
    obtain ⟨mb, hmb⟩ : ∃ mb, mb = mayB ⟨k, key1, el1, m⟩ := ⟨_, rfl⟩
    obtain ⟨kb, hkb⟩ : ∃ kb, kb = keyB sl := ⟨_, rfl⟩
    have HM := Lib.hid (fun w' => show Calls Try.prog 14 #[.agg #[.int .i64 k, .string s1, .string t1, .int .i64 m]] w' (fun e w'' => e = .returned (.bool mb) ∧ Below w'.heap.size w' w'') by rw [hk1, he1, hmb]; exact may_any k m key1 el1 w' (by omega) (by omega))
    have HN := Lib.hid (fun w' => show Calls Try.prog 12 #[.agg #[.int .i64 k, .string s1, .string t1, .int .i64 m]] w' (fun e w'' => e = .returned (.bool mb) ∧ Below w'.heap.size w' w'') by rw [hk1, he1, hmb]; exact may_ref k m key1 el1 w' (by omega) (by omega))
    have HK := Lib.hid (fun w' => show Calls Try.prog 15 #[.string s] w' (fun e w'' => e = .returned (.bool kb) ∧ w'' = w') by rw [hsl, hkb]; exact key_any sl w' (by omega))
    have HL := Lib.hid (fun w' => show Calls Try.prog 13 #[.string s] w' (fun e w'' => e = .returned (.bool kb) ∧ w'' = w') by rw [hsl, hkb]; exact key_ref sl w' (by omega))
    obtain ⟨rl, hrl⟩ : ∃ rl, rl = r.length := ⟨_, rfl⟩
    rw [← hrl] at HP HQ
    clear hk1 he1 hsl lk1 le1 lsl hP hmb hkb hrl HB1 HSH1
    have p0 : w3.cell? ⟨b3, 0, none⟩ = some (.int .i64 k) := HC3.out.at 0 _ rfl
    have p1 : w3.cell? ⟨b3, 1, none⟩ = some (.string s1) := HC3.out.at 1 _ rfl
    have p2 : w3.cell? ⟨b3, 2, none⟩ = some (.string t1) := HC3.out.at 2 _ rfl
    have p3 : w3.cell? ⟨b3, 3, none⟩ = some (.int .i64 m) := HC3.out.at 3 _ rfl
    go_wp2_with fail
    refine (HP.out _).mono ?_
    rintro e w4 ⟨a7, c7, rfl, hr7, hb⟩
    have HC4 := Lib.hid (HC3.out.step hb)
    have HW4 := Lib.hid (HW3.out.step hb)
    have HX4 := Lib.hid hr7
    clear hr7
    clear hb p0 p1 p2 p3 HC3 HW3
    have p0 : w4.cell? ⟨b3, 0, none⟩ = some (.int .i64 k) := HC4.out.at 0 _ rfl
    have p1 : w4.cell? ⟨b3, 1, none⟩ = some (.string s1) := HC4.out.at 1 _ rfl
    have p2 : w4.cell? ⟨b3, 2, none⟩ = some (.string t1) := HC4.out.at 2 _ rfl
    have p3 : w4.cell? ⟨b3, 3, none⟩ = some (.int .i64 m) := HC4.out.at 3 _ rfl
    go_wp2_with fail
    refine (HQ.out _).mono ?_
    rintro e w5 ⟨a9, c9, rfl, hr9, hb⟩
    have HC5 := Lib.hid (HC4.out.step hb)
    have HW5 := Lib.hid (HW4.out.step hb)
    have HX5 := Lib.hid (HX4.out.below hb)
    have HY5 := Lib.hid hr9
    clear hr9 HX4
    clear hb p0 p1 p2 p3 HC4 HW4
    have p0 : w5.cell? ⟨b3, 0, none⟩ = some (.int .i64 k) := HC5.out.at 0 _ rfl
    have p1 : w5.cell? ⟨b3, 1, none⟩ = some (.string s1) := HC5.out.at 1 _ rfl
    have p2 : w5.cell? ⟨b3, 2, none⟩ = some (.string t1) := HC5.out.at 2 _ rfl
    have p3 : w5.cell? ⟨b3, 3, none⟩ = some (.int .i64 m) := HC5.out.at 3 _ rfl
    go_wp2_with fail
    refine (HN.out _).mono ?_
    rintro e w6 ⟨rfl, hb⟩
    have HC6 := Lib.hid (HC5.out.step hb)
    have HW6 := Lib.hid (HW5.out.step hb)
    have HX6 := Lib.hid (HX5.out.below hb)
    have HY6 := Lib.hid (HY5.out.below hb)
    clear HX5 HY5
    clear hb p0 p1 p2 p3 HC5 HW5
    go_wp2_with fail
    refine (HL.out _).mono ?_
    rintro e w6b ⟨rfl, rfl⟩
    have x1 : (convert 26 9 (.slice a7 rl c7)).run Try.prog w6b = .ok (.string ⟨r.toArray⟩) w6b := str_drew HX6.out 0
    have x2 : (convert 26 9 (.slice a9 rl c9)).run Try.prog w6b = .ok (.string ⟨r.toArray⟩) w6b := str_drew HY6.out 0
    have p0 : w6b.cell? ⟨b3, 0, none⟩ = some (.int .i64 k) := HC6.out.at 0 _ rfl
    have p1 : w6b.cell? ⟨b3, 1, none⟩ = some (.string s1) := HC6.out.at 1 _ rfl
    have p2 : w6b.cell? ⟨b3, 2, none⟩ = some (.string t1) := HC6.out.at 2 _ rfl
    have p3 : w6b.cell? ⟨b3, 3, none⟩ = some (.int .i64 m) := HC6.out.at 3 _ rfl
    go_wp2_with fail
    refine (HM.out _).mono ?_
    rintro e w7 ⟨rfl, hb⟩
    have HW7 := Lib.hid (HW6.out.step hb)
    clear hb p0 p1 p2 p3 x1 x2
    go_wp2_with fail
    refine (HK.out _).mono ?_
    rintro e w' ⟨rfl, rfl⟩
    go_wp2_with fail
    go_ret
    exact ⟨rfl, HW7.out⟩
end Go.Proofs.Ytfljpgcabkihlaa
