/- The statement OpsKinds, walked out of the contracts of what it calls. -/
import Derived.Test.YtfljpgcabkihlaaOpsAwake
namespace Go.Proofs.Ytfljpgcabkihlaa
open Go.ChangeShapes Go.WideShapes Go.ChangeAt Go.RowKit
set_option linter.unusedVariables false

theorem may_name (k : Int) (hk : k = 1 ∨ k = 2 ∨ k = 3) (key elem : List UInt8) : mayB ⟨k, key, elem, 0⟩ = (keyB key && keyB elem) := by
  rcases hk with rfl | rfl | rfl <;> simp [mayB, inB, namB]
theorem may_cnt (key : List UInt8) (n : Int) : mayB ⟨0, key, [], n⟩ = (keyB key && (decide (n ≠ 0) && decide (-1048576 ≤ n) && decide (n ≤ 1048576))) := by
  simp [mayB, inB, cntB]

set_option maxRecDepth 100000 in
set_option maxHeartbeats 4000000 in
theorem opsKinds_walk (s1 s2 : ByteArray) (n : Int) (w : World) (h1 : s1.size ≤ maxLen) (h2 : s2.size ≤ maxLen) (hn : (Lit.int .i64 n).wf = true) :
    Calls Try.prog 7 #[.string s1, .string s2, .int .i64 n] w fun e w' => e = .returned (.bool true) ∧ Below w.heap.size w w' := by
  have hn0 := wf_i64_bd hn
  obtain ⟨n1, hn1⟩ : ∃ n1, n1 = s1.size := ⟨_, rfl⟩
  obtain ⟨n2, hn2⟩ : ∃ n2, n2 = s2.size := ⟨_, rfl⟩
  have hz1 := hn1.symm
  have hz2 := hn2.symm
  have hm1 : n1 ≤ 9223372036854775807 := by rw [hn1]; exact Nat.le_trans h1 (by unfold maxLen; decide)
  have hm2 : n2 ≤ 9223372036854775807 := by rw [hn2]; exact Nat.le_trans h2 (by unfold maxLen; decide)
  clear hn1 hn2 h1 h2 hn
  by_cases hl1 : n1 ≤ 100
  case neg =>
    have hl : 100 < (n1 : Int) := by omega
    go_enter Try.func7, Try.ntmps7
    go_wp2_with fail
    refine (awake05 _).mono ?_
    rintro e v1 ⟨rfl, hb1⟩
    go_wp2_with fail
    go_ret
    exact ⟨rfl, hb1⟩
  have hl : ¬ 100 < (n1 : Int) := by omega
  by_cases hl2 : n2 ≤ 100
  case neg =>
    have hl2 : 100 < (n2 : Int) := by omega
    go_enter Try.func7, Try.ntmps7
    go_wp2_with fail
    refine (awake05 _).mono ?_
    rintro e v1 ⟨rfl, hb1⟩
    go_wp2_with fail
    go_ret
    exact ⟨rfl, hb1⟩
  have hl2' : ¬ 100 < (n2 : Int) := by omega
  obtain ⟨key, hkey⟩ : ∃ key : List UInt8, s1 = ⟨key.toArray⟩ := ⟨s1.data.toList, by cases s1; simp⟩
  obtain ⟨elem, helem⟩ : ∃ elem : List UInt8, s2 = ⟨elem.toArray⟩ := ⟨s2.data.toList, by cases s2; simp⟩
  have hk1 : key.length ≤ 140737488351232 := by have := hz1; rw [hkey] at this; simp [ByteArray.size] at this; omega
  have hk2 : elem.length ≤ 140737488351232 := by have := hz2; rw [helem] at this; simp [ByteArray.size] at this; omega
  obtain ⟨A, hA⟩ : ∃ A, A = (keyB key && keyB elem) := ⟨_, rfl⟩
  obtain ⟨m, hm⟩ : ∃ m, m = IntKind.i64.wrap (-n) := ⟨_, rfl⟩
  obtain ⟨D, hD⟩ : ∃ D, D = mayB ⟨0, key, [], n⟩ := ⟨_, rfl⟩
  obtain ⟨E, hE⟩ : ∃ E, E = mayB ⟨0, key, [], m⟩ := ⟨_, rfl⟩
  have HM := Lib.hid (fun w' (k : Int) (hk : k = 1 ∨ k = 2 ∨ k = 3) => show Calls Try.prog 14 #[.agg #[.int .i64 k, .string s1, .string s2, .int .i64 0]] w' (fun e w'' => e = .returned (.bool A) ∧ Below w'.heap.size w' w'') from by
    rw [hA, ← may_name k hk, hkey, helem]; exact may_any k 0 key elem w' hk1 hk2)
  have HD := Lib.hid (fun w' => show Calls Try.prog 14 #[.agg #[.int .i64 0, .string s1, .string ⟨#[]⟩, .int .i64 n]] w' (fun e w'' => e = .returned (.bool D) ∧ Below w'.heap.size w' w'') from by
    rw [hD, hkey]; exact may_any 0 n key [] w' hk1 (by decide))
  have HE := Lib.hid (fun w' => show Calls Try.prog 14 #[.agg #[.int .i64 0, .string s1, .string ⟨#[]⟩, .int .i64 m]] w' (fun e w'' => e = .returned (.bool E) ∧ Below w'.heap.size w' w'') from by
    rw [hE, hkey]; exact may_any 0 m key [] w' hk1 (by decide))
  have HF := Lib.hid (fun w' => show Calls Try.prog 14 #[.agg #[.int .i64 1, .string s1, .string ⟨#[]⟩, .int .i64 0]] w' (fun e w'' => e = .returned (.bool false) ∧ Below w'.heap.size w' w'') from by
    have := may_any 1 0 key [] w' hk1 (by decide)
    rw [may_name 1 (.inl rfl), keyB_nil, Bool.and_false, ← hkey] at this; exact this)
  have HG := Lib.hid (fun w' => show Calls Try.prog 14 #[.agg #[.int .i64 0, .string s1, .string ⟨#[]⟩, .int .i64 0]] w' (fun e w'' => e = .returned (.bool false) ∧ Below w'.heap.size w' w'') from by
    have := may_any 0 0 key [] w' hk1 (by decide)
    rw [may_cnt, show (decide ((0 : Int) ≠ 0) && decide (-1048576 ≤ (0 : Int)) && decide ((0 : Int) ≤ 1048576)) = false from rfl, Bool.and_false, ← hkey] at this; exact this)
  obtain ⟨kk, hkk⟩ : ∃ kk, kk = keyB key := ⟨_, rfl⟩
  obtain ⟨ke, hke⟩ : ∃ ke, ke = keyB elem := ⟨_, rfl⟩
  have HK := Lib.hid (fun w' => show Calls Try.prog 15 #[.string s1] w' (fun e w'' => e = .returned (.bool kk) ∧ w'' = w') from by rw [hkk, hkey]; exact key_any key w' hk1)
  have HKE := Lib.hid (fun w' => show Calls Try.prog 15 #[.string s2] w' (fun e w'' => e = .returned (.bool ke) ∧ w'' = w') from by rw [hke, helem]; exact key_any elem w' hk2)
  have F1 := Lib.hid (show A = (kk && ke) from by rw [hA, hkk, hke])
  have F2 := Lib.hid (show D = (kk && (decide (n ≠ 0) && decide (-1048576 ≤ n) && decide (n ≤ 1048576))) from by rw [hD, may_cnt, hkk])
  have F3 := Lib.hid (show -1073741824 ≤ n → n ≤ 1073741824 → E = D from fun h3 h4 => by
    have e : m = -n := by rw [hm, wrap_i64']; omega
    rw [hE, hD, e, may_cnt, may_cnt]
    congr 1
    by_cases g1 : n = 0
    · simp [g1]
    · have g2 : (-n ≠ 0) = (n ≠ 0) := by simp
      have g3 : (-1048576 ≤ -n) = (n ≤ 1048576) := by apply propext; omega
      have g4 : (-n ≤ 1048576) = (-1048576 ≤ n) := by apply propext; omega
      simp only [g2, g3, g4]
      cases decide (n ≠ 0) <;> cases decide (-1048576 ≤ n) <;> cases decide (n ≤ 1048576) <;> rfl)
  have HMM := Lib.hid (show wrap64 (-n) = m from by rw [hm, IntWalk.i64_left])
  clear hA hD hE hkk hke hkey helem hk1 hk2 hm
  go_enter Try.func7, Try.ntmps7
  go_wp2_with fail
  refine (awake05 _).mono ?_
  rintro e v1 ⟨rfl, hb⟩
  have HB1 := Lib.hid hb
  clear hb
  go_wp2_with fail
  refine (HM.out _ 1 (by decide)).mono ?_
  rintro e v2 ⟨rfl, hb⟩
  have HB2 := Lib.hid (HB1.out.step hb)
  clear hb HB1
  go_wp2_with fail
  refine (HM.out _ 2 (by decide)).mono ?_
  rintro e v3 ⟨rfl, hb⟩
  have HB3 := Lib.hid (HB2.out.step hb)
  clear hb HB2
  go_wp2_with fail
  refine (HM.out _ 3 (by decide)).mono ?_
  rintro e v4 ⟨rfl, hb⟩
  have HB4 := Lib.hid (HB3.out.step hb)
  clear hb HB3
  go_wp2_with fail
  refine (HD.out _).mono ?_
  rintro e v5 ⟨rfl, hb⟩
  have HB5 := Lib.hid (HB4.out.step hb)
  clear hb HB4
  go_wp2_with fail
  rw [HMM.out]
  refine (HE.out _).mono ?_
  rintro e v6 ⟨rfl, hb⟩
  have HB6 := Lib.hid (HB5.out.step hb)
  clear hb HB5
  go_upto_region 9 with fail
  clear HM HD HE HMM
  cases kk with
  | false =>
    obtain rfl : A = false := F1.out
    obtain rfl : D = false := F2.out
    go_wp2_with fail
    refine (HK.out _).mono ?_
    rintro e v7 ⟨rfl, rfl⟩
    go_upto_region 10 with fail
    by_cases h3 : n < -1073741824
    · go_wp2_with fail
      refine (HF.out _).mono ?_
      rintro e v8 ⟨rfl, hb⟩
      have HB8 := Lib.hid (HB6.out.step hb)
      clear hb
      go_wp2_with fail
      refine (HG.out _).mono ?_
      rintro e v9 ⟨rfl, hb⟩
      have HB9 := Lib.hid (HB8.out.step hb)
      clear hb
      go_wp2_with fail
      go_ret
      exact ⟨rfl, HB9.out⟩
    by_cases h4 : 1073741824 < n
    · go_wp2_with fail
      refine (HF.out _).mono ?_
      rintro e v8 ⟨rfl, hb⟩
      have HB8 := Lib.hid (HB6.out.step hb)
      clear hb
      go_wp2_with fail
      refine (HG.out _).mono ?_
      rintro e v9 ⟨rfl, hb⟩
      have HB9 := Lib.hid (HB8.out.step hb)
      clear hb
      go_wp2_with fail
      go_ret
      exact ⟨rfl, HB9.out⟩
    obtain rfl : E = false := F3.out (by omega) (by omega)
    go_wp2_with fail
    refine (HF.out _).mono ?_
    rintro e v8 ⟨rfl, hb⟩
    have HB8 := Lib.hid (HB6.out.step hb)
    clear hb
    go_wp2_with fail
    refine (HG.out _).mono ?_
    rintro e v9 ⟨rfl, hb⟩
    have HB9 := Lib.hid (HB8.out.step hb)
    clear hb
    go_wp2_with fail
    go_ret
    exact ⟨rfl, HB9.out⟩
  | true =>
    obtain rfl : A = ke := F1.out
    go_wp2_with fail
    refine (HK.out _).mono ?_
    rintro e v7 ⟨rfl, rfl⟩
    go_wp2_with fail
    refine (HKE.out _).mono ?_
    rintro e v7 ⟨rfl, rfl⟩
    go_upto_region 10 with fail
    cases D with
    | false =>
      by_cases h3 : n < -1073741824
      · go_wp2_with fail
        refine (HF.out _).mono ?_
        rintro e v8 ⟨rfl, hb⟩
        have HB8 := Lib.hid (HB6.out.step hb)
        clear hb
        go_wp2_with fail
        refine (HG.out _).mono ?_
        rintro e v9 ⟨rfl, hb⟩
        have HB9 := Lib.hid (HB8.out.step hb)
        clear hb
        go_wp2_with fail
        go_ret
        exact ⟨rfl, HB9.out⟩
      by_cases h4 : 1073741824 < n
      · go_wp2_with fail
        refine (HF.out _).mono ?_
        rintro e v8 ⟨rfl, hb⟩
        have HB8 := Lib.hid (HB6.out.step hb)
        clear hb
        go_wp2_with fail
        refine (HG.out _).mono ?_
        rintro e v9 ⟨rfl, hb⟩
        have HB9 := Lib.hid (HB8.out.step hb)
        clear hb
        go_wp2_with fail
        go_ret
        exact ⟨rfl, HB9.out⟩
      obtain rfl : E = false := F3.out (by omega) (by omega)
      go_wp2_with fail
      refine (HF.out _).mono ?_
      rintro e v8 ⟨rfl, hb⟩
      have HB8 := Lib.hid (HB6.out.step hb)
      clear hb
      go_wp2_with fail
      refine (HG.out _).mono ?_
      rintro e v9 ⟨rfl, hb⟩
      have HB9 := Lib.hid (HB8.out.step hb)
      clear hb
      go_wp2_with fail
      go_ret
      exact ⟨rfl, HB9.out⟩
    | true =>
      have hD := F2.out
      simp only [Bool.true_and, Bool.and_eq_true, decide_eq_true_eq, Bool.true_eq] at hD
      have h3 : ¬ n < -1073741824 := by omega
      have h4 : ¬ 1073741824 < n := by omega
      have h5 : (n != 0) = true := by simpa using hD.1.1
      obtain rfl : E = true := F3.out (by omega) (by omega)
      clear hD
      go_wp2_with fail
      refine (HK.out _).mono ?_
      rintro e v7 ⟨rfl, rfl⟩
      go_wp2_with fail
      refine (HF.out _).mono ?_
      rintro e v8 ⟨rfl, hb⟩
      have HB8 := Lib.hid (HB6.out.step hb)
      clear hb
      go_wp2_with fail
      refine (HG.out _).mono ?_
      rintro e v9 ⟨rfl, hb⟩
      have HB9 := Lib.hid (HB8.out.step hb)
      clear hb
      go_wp2_with fail
      go_ret
      exact ⟨rfl, HB9.out⟩
end Go.Proofs.Ytfljpgcabkihlaa
