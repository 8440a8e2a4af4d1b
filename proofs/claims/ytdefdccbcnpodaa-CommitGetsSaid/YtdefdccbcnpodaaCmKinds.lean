/- The statement CommitKinds, walked out of the contracts of what it calls. -/
import Derived.Test.YtdefdccbcnpodaaCmAwake
namespace Go.Proofs.Ytdefdccbcnpodaa
open Go.ChangeShapes Go.WideShapes Go.ChangeAt Go.RowKit
set_option linter.unusedVariables false
set_option linter.unusedSimpArgs false

theorem kinds_plain (c : Cmt) : (mergeC c = true → mayC c = true) ∧
    (mayC c = true → mergeC c = true → 2 ≤ c.par.length ∧ c.node = -1 ∧ c.seq = 0 ∧ c.op.kind = 0 ∧ (⟨c.op.key.toArray⟩ : ByteArray) = ⟨#[]⟩ ∧ (⟨c.op.elem.toArray⟩ : ByteArray) = ⟨#[]⟩ ∧ c.op.num = 0 ∧ 1 < c.gen) ∧
    (mayC c = true → mergeC c = false → 0 ≤ c.node ∧ 1 ≤ c.seq ∧ (∃ m, (⟨c.op.key.toArray⟩ : ByteArray).size = m ∧ 1 ≤ m ∧ m ≤ 8) ∧ (0 < c.par.length ∨ c.par.length = 0 ∧ c.gen = 1) ∧ c.par.length ≤ 8) := by
  refine ⟨fun h => ?_, fun h h2 => ?_, fun h h2 => ?_⟩
  · unfold mergeC at h
    simp only [Bool.and_eq_true] at h
    exact h.2
  · obtain ⟨h1, h3, _, h4, h5⟩ := mayC_parts h
    unfold mergeC at h2
    simp only [Bool.and_eq_true, decide_eq_true_eq] at h2
    rcases h5 with ⟨e1, e2, e3, e4⟩ | ⟨e1, _⟩
    · rw [e4]
      refine ⟨e2, e1, e3, rfl, rfl, rfl, rfl, ?_⟩
      rcases Int.lt_or_eq_of_le h1.1 with h6 | h6
      · exact h6
      · have := h4.1 h6.symm
        omega
    · exact absurd h2.1 e1
  · obtain ⟨h1, h3, _, h4, h5⟩ := mayC_parts h
    rcases h5 with ⟨e1, _⟩ | ⟨e1, e2, e3, e4⟩
    · unfold mergeC at h2
      rw [h, decide_eq_true e1] at h2
      cases h2
    · have hk := keyB_len (mayB_kind e4).2.2.1
      refine ⟨e2.1, e3.1, ⟨_, rfl, by simpa [ByteArray.size] using hk⟩, ?_, h3⟩
      by_cases h6 : c.par.length = 0
      · exact .inr ⟨h6, h4.2 h6⟩
      · exact .inl (by omega)

set_option maxRecDepth 100000 in
set_option maxHeartbeats 8000000 in
theorem commitKinds_walk (c : Cmt) (a : Option Addr) (cap : Nat) (w : World) (hr : CmR w c a cap) : Calls Try.prog 7 #[c.val a cap] w fun e w' => e = .returned (.bool true) ∧ Below w.heap.size w w' := by
  have HFEW := Lib.hid (fun w' h => fewc_any c a cap w' h)
  have HMAY := Lib.hid (fun w' h => cmay_any c a cap w' h)
  have HMER := Lib.hid (fun w' h => cmerge_any c a cap w' h)
  have HRC := Lib.hid hr
  have HKP := Lib.hid (kinds_plain c)
  have hn63 : c.par.length ≤ 9223372036854775807 := Nat.le_trans hr.ids.le hr.ids.cap
  obtain ⟨few, hfew⟩ : ∃ b, b = fewC c := ⟨_, rfl⟩
  obtain ⟨may, hmay⟩ : ∃ b, b = mayC c := ⟨_, rfl⟩
  obtain ⟨mer, hmer⟩ : ∃ b, b = mergeC c := ⟨_, rfl⟩
  rw [← hfew] at HFEW
  rw [← hmay] at HMAY HKP
  rw [← hmer] at HMER HKP
  unfold Cmt.val Cmt.cs at HFEW HMAY HMER ⊢
  obtain ⟨n, hn⟩ : ∃ x, x = c.par.length := ⟨_, rfl⟩
  obtain ⟨node, hnode⟩ : ∃ x, x = c.node := ⟨_, rfl⟩
  obtain ⟨seq, hseq⟩ : ∃ x, x = c.seq := ⟨_, rfl⟩
  obtain ⟨gen, hgen⟩ : ∃ x, x = c.gen := ⟨_, rfl⟩
  obtain ⟨kind, hkind⟩ : ∃ x, x = c.op.kind := ⟨_, rfl⟩
  obtain ⟨num, hnum⟩ : ∃ x, x = c.op.num := ⟨_, rfl⟩
  obtain ⟨s1, hs1⟩ : ∃ s : ByteArray, s = ⟨c.op.key.toArray⟩ := ⟨_, rfl⟩
  obtain ⟨s2, hs2⟩ : ∃ s : ByteArray, s = ⟨c.op.elem.toArray⟩ := ⟨_, rfl⟩
  try rw [← hn] at HFEW
  try rw [← hnode] at HFEW
  try rw [← hseq] at HFEW
  try rw [← hgen] at HFEW
  try rw [← hkind] at HFEW
  try rw [← hnum] at HFEW
  try rw [← hs1] at HFEW
  try rw [← hs2] at HFEW
  try rw [← hn] at HMAY
  try rw [← hnode] at HMAY
  try rw [← hseq] at HMAY
  try rw [← hgen] at HMAY
  try rw [← hkind] at HMAY
  try rw [← hnum] at HMAY
  try rw [← hs1] at HMAY
  try rw [← hs2] at HMAY
  try rw [← hn] at HMER
  try rw [← hnode] at HMER
  try rw [← hseq] at HMER
  try rw [← hgen] at HMER
  try rw [← hkind] at HMER
  try rw [← hnum] at HMER
  try rw [← hs1] at HMER
  try rw [← hs2] at HMER
  try rw [← hn] at HKP
  try rw [← hnode] at HKP
  try rw [← hseq] at HKP
  try rw [← hgen] at HKP
  try rw [← hkind] at HKP
  try rw [← hnum] at HKP
  try rw [← hs1] at HKP
  try rw [← hs2] at HKP
  try rw [← hn] at hn63
  try rw [← hnode] at hn63
  try rw [← hseq] at hn63
  try rw [← hgen] at hn63
  try rw [← hkind] at hn63
  try rw [← hnum] at hn63
  try rw [← hs1] at hn63
  try rw [← hs2] at hn63
  try rw [← hn] at ⊢
  try rw [← hnode] at ⊢
  try rw [← hseq] at ⊢
  try rw [← hgen] at ⊢
  try rw [← hkind] at ⊢
  try rw [← hnum] at ⊢
  try rw [← hs1] at ⊢
  try rw [← hs2] at ⊢
  clear hr hfew hmay hmer hn hnode hseq hgen hkind hnum hs1 hs2
  go_enter Try.func7, Try.ntmps7
  go_upto_region 1 with fail
  obtain ⟨b1, hb1⟩ : ∃ b, b = w.heap.size := ⟨_, rfl⟩
  have hC0 := Cel.new w 28 [.int .i64 node, .int .i64 seq, .int .i64 gen, .slice a n cap, .int .i64 kind, .string s1, .string s2, .int .i64 num]
  rw [← hb1] at hC0 ⊢
  generalize hw1 : w.alloc (.cells _ _) = w1
  have HC1 := Lib.hid (show Cel w1 b1 28 [.int .i64 node, .int .i64 seq, .int .i64 gen, .slice a n cap, .int .i64 kind, .string s1, .string s2, .int .i64 num] by rw [← hw1]; exact hC0)
  have HB1 := Lib.hid (show Below w.heap.size w w1 by rw [← hw1]; exact (Below.refl _ _).alloc (Nat.le_refl _) _)
  clear hC0 hw1 hb1
  go_wp2_with fail
  refine (awake10 _).mono ?_
  rintro e w2 ⟨rfl, hb⟩
  have HC2 := Lib.hid (HC1.out.step hb)
  have HB2 := Lib.hid (HB1.out.step hb)
  clear hb
  have p0 : w2.cell? ⟨b1, 0, none⟩ = some (.int .i64 node) := HC2.out.at 0 _ rfl
  have p1 : w2.cell? ⟨b1, 1, none⟩ = some (.int .i64 seq) := HC2.out.at 1 _ rfl
  have p2 : w2.cell? ⟨b1, 2, none⟩ = some (.int .i64 gen) := HC2.out.at 2 _ rfl
  have p3 : w2.cell? ⟨b1, 3, none⟩ = some (.slice a n cap) := HC2.out.at 3 _ rfl
  have p4 : w2.cell? ⟨b1, 4, none⟩ = some (.int .i64 kind) := HC2.out.at 4 _ rfl
  have p5 : w2.cell? ⟨b1, 5, none⟩ = some (.string s1) := HC2.out.at 5 _ rfl
  have p6 : w2.cell? ⟨b1, 6, none⟩ = some (.string s2) := HC2.out.at 6 _ rfl
  have p7 : w2.cell? ⟨b1, 7, none⟩ = some (.int .i64 num) := HC2.out.at 7 _ rfl
  go_wp2_with fail
  refine (HFEW.out _ (HRC.out.below HB2.out)).mono ?_
  rintro e w3 ⟨rfl, hb⟩
  have HC3 := Lib.hid (HC2.out.step hb)
  have HB3 := Lib.hid (HB2.out.step hb)
  clear p0 p1 p2 p3 p4 p5 p6 p7
  clear hb
  have p0 : w3.cell? ⟨b1, 0, none⟩ = some (.int .i64 node) := HC3.out.at 0 _ rfl
  have p1 : w3.cell? ⟨b1, 1, none⟩ = some (.int .i64 seq) := HC3.out.at 1 _ rfl
  have p2 : w3.cell? ⟨b1, 2, none⟩ = some (.int .i64 gen) := HC3.out.at 2 _ rfl
  have p3 : w3.cell? ⟨b1, 3, none⟩ = some (.slice a n cap) := HC3.out.at 3 _ rfl
  have p4 : w3.cell? ⟨b1, 4, none⟩ = some (.int .i64 kind) := HC3.out.at 4 _ rfl
  have p5 : w3.cell? ⟨b1, 5, none⟩ = some (.string s1) := HC3.out.at 5 _ rfl
  have p6 : w3.cell? ⟨b1, 6, none⟩ = some (.string s2) := HC3.out.at 6 _ rfl
  have p7 : w3.cell? ⟨b1, 7, none⟩ = some (.int .i64 num) := HC3.out.at 7 _ rfl
  cases few with
  | false =>
    go_wp2_with fail
    go_ret
    exact ⟨rfl, HB3.out⟩
  | true =>
    go_wp2_with fail
    refine (HMAY.out _ (HRC.out.below HB3.out)).mono ?_
    rintro e w4 ⟨rfl, hb⟩
    have HC4 := Lib.hid (HC3.out.step hb)
    have HB4 := Lib.hid (HB3.out.step hb)
    clear p0 p1 p2 p3 p4 p5 p6 p7
    clear hb
    have p0 : w4.cell? ⟨b1, 0, none⟩ = some (.int .i64 node) := HC4.out.at 0 _ rfl
    have p1 : w4.cell? ⟨b1, 1, none⟩ = some (.int .i64 seq) := HC4.out.at 1 _ rfl
    have p2 : w4.cell? ⟨b1, 2, none⟩ = some (.int .i64 gen) := HC4.out.at 2 _ rfl
    have p3 : w4.cell? ⟨b1, 3, none⟩ = some (.slice a n cap) := HC4.out.at 3 _ rfl
    have p4 : w4.cell? ⟨b1, 4, none⟩ = some (.int .i64 kind) := HC4.out.at 4 _ rfl
    have p5 : w4.cell? ⟨b1, 5, none⟩ = some (.string s1) := HC4.out.at 5 _ rfl
    have p6 : w4.cell? ⟨b1, 6, none⟩ = some (.string s2) := HC4.out.at 6 _ rfl
    have p7 : w4.cell? ⟨b1, 7, none⟩ = some (.int .i64 num) := HC4.out.at 7 _ rfl
    cases may with
    | false =>
      cases mer with
      | true => exact absurd (HKP.out.1 (by first | rfl | trivial)) (by decide)
      | false =>
        go_wp2_with fail
        refine (HMER.out _ (HRC.out.below HB4.out)).mono ?_
        rintro e w5 ⟨rfl, hb⟩
        have HB5 := Lib.hid (HB4.out.step hb)
        clear p0 p1 p2 p3 p4 p5 p6 p7
        clear hb
        go_wp2_with fail
        go_ret
        exact ⟨rfl, HB5.out⟩
    | true =>
      go_wp2_with fail
      refine (HMER.out _ (HRC.out.below HB4.out)).mono ?_
      rintro e w5 ⟨rfl, hb⟩
      have HC5 := Lib.hid (HC4.out.step hb)
      have HB5 := Lib.hid (HB4.out.step hb)
      clear p0 p1 p2 p3 p4 p5 p6 p7
      clear hb
      cases mer with
      | true =>
        obtain ⟨k1, rfl, rfl, rfl, rfl, rfl, rfl, k2⟩ := HKP.out.2.1 (by first | rfl | trivial) (by first | rfl | trivial)
        have k3 : 2 ≤ (n : Int) := by omega
        have p0 : w5.cell? ⟨b1, 0, none⟩ = some (.int .i64 (-1)) := HC5.out.at 0 _ rfl
        have p1 : w5.cell? ⟨b1, 1, none⟩ = some (.int .i64 0) := HC5.out.at 1 _ rfl
        have p2 : w5.cell? ⟨b1, 2, none⟩ = some (.int .i64 gen) := HC5.out.at 2 _ rfl
        have p3 : w5.cell? ⟨b1, 3, none⟩ = some (.slice a n cap) := HC5.out.at 3 _ rfl
        have p4 : w5.cell? ⟨b1, 4, none⟩ = some (.int .i64 0) := HC5.out.at 4 _ rfl
        have p5 : w5.cell? ⟨b1, 5, none⟩ = some (.string ⟨#[]⟩) := HC5.out.at 5 _ rfl
        have p6 : w5.cell? ⟨b1, 6, none⟩ = some (.string ⟨#[]⟩) := HC5.out.at 6 _ rfl
        have p7 : w5.cell? ⟨b1, 7, none⟩ = some (.int .i64 0) := HC5.out.at 7 _ rfl
        go_wp2_with fail
        go_ret
        exact ⟨rfl, HB5.out⟩
      | false =>
        obtain ⟨k1, k2, ⟨m, k3, k4, k5⟩, k6, k7⟩ := HKP.out.2.2 (by first | rfl | trivial) (by first | rfl | trivial)
        have j3 : 0 < (m : Int) := by omega
        have j4 : (n : Int) ≤ 8 := by omega
        have hm63 : m ≤ 9223372036854775807 := by omega
        clear k4 k5
        have p0 : w5.cell? ⟨b1, 0, none⟩ = some (.int .i64 node) := HC5.out.at 0 _ rfl
        have p1 : w5.cell? ⟨b1, 1, none⟩ = some (.int .i64 seq) := HC5.out.at 1 _ rfl
        have p2 : w5.cell? ⟨b1, 2, none⟩ = some (.int .i64 gen) := HC5.out.at 2 _ rfl
        have p3 : w5.cell? ⟨b1, 3, none⟩ = some (.slice a n cap) := HC5.out.at 3 _ rfl
        have p4 : w5.cell? ⟨b1, 4, none⟩ = some (.int .i64 kind) := HC5.out.at 4 _ rfl
        have p5 : w5.cell? ⟨b1, 5, none⟩ = some (.string s1) := HC5.out.at 5 _ rfl
        have p6 : w5.cell? ⟨b1, 6, none⟩ = some (.string s2) := HC5.out.at 6 _ rfl
        have p7 : w5.cell? ⟨b1, 7, none⟩ = some (.int .i64 num) := HC5.out.at 7 _ rfl
        rcases k6 with k6 | ⟨rfl, rfl⟩
        · have j6 : 0 < (n : Int) := by omega
          clear k6 k7
          go_wp2_with fail
          go_ret
          exact ⟨rfl, HB5.out⟩
        · clear k7
          go_wp2_with fail
          go_ret
          exact ⟨rfl, HB5.out⟩
end Go.Proofs.Ytdefdccbcnpodaa
