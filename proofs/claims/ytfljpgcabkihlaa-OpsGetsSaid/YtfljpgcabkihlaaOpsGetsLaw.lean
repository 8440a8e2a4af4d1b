/- The statement OpsGets, walked out of the contracts of what it calls. -/
import Derived.Test.YtfljpgcabkihlaaOpsRefGet
namespace Go.Proofs.Ytfljpgcabkihlaa
open Go.ChangeShapes Go.WideShapes Go.ChangeAt Go.RowKit
set_option linter.unusedVariables false

/-- Get's answer, with letters for the operation, its rest and the error: one walk serves both. -/
theorem getP_word (l : List UInt8) : ∃ (k n : Int) (s t : ByteArray) (r : List UInt8) (g : Int), ∀ w e w', GetP l w e w' → ∃ a c, e = .returned (.tuple #[.agg #[.int .i64 k, .string s, .string t, .int .i64 n], .slice a r.length c, .int .i64 g]) ∧ Rd w' a r.length c r ∧ Below w.heap.size w w' := by
  unfold GetP
  cases h : getO l with
  | none => exact ⟨0, 0, ⟨#[]⟩, ⟨#[]⟩, [], 2, fun w e w' ⟨he, hb⟩ => ⟨none, 0, he, Rd.zero _ _ _ (by decide), hb⟩⟩
  | some p =>
    obtain ⟨o, r⟩ := p
    exact ⟨o.kind, o.num, ⟨o.key.toArray⟩, ⟨o.elem.toArray⟩, r, 0, fun w e w' ⟨a, c, he, h1, _, hb⟩ => ⟨a, c, he, h1, hb⟩⟩

set_option maxRecDepth 100000 in
set_option maxHeartbeats 2000000 in
theorem opsGets_walk (a : Option Addr) (n c : Nat) (l : List UInt8) (w : World) (hr : Rd w a n c l) (hac : a = none → c = 0) :
    Calls Try.prog 4 #[.slice a n c] w fun e w' => e = .returned (.bool true) ∧ Below w.heap.size w w' := by
  have hn63 : n ≤ 9223372036854775807 := Nat.le_trans hr.le hr.cap
  by_cases hn : n ≤ 200
  case neg =>
    have hn2 : 200 < (n : Int) := by omega
    clear hr hac
    go_enter Try.func4, Try.ntmps4
    go_wp2_with fail
    refine (awake05 _).mono ?_
    rintro e w1 ⟨rfl, hb⟩
    go_wp2_with fail
    go_ret
    exact ⟨rfl, hb⟩
  have hn2 : ¬ 200 < (n : Int) := by omega
  obtain ⟨k, m, s, t, r, g, hG⟩ := getP_word l
  have HG := Lib.hid (fun w' (h : Rd w' a n c l) => (opget_any a n c l w' h hac (by omega)).mono (hG w'))
  have HF := Lib.hid (fun w' (h : Rd w' a n c l) => (opget_ref a n c l w' h hac (by omega)).mono (hG w'))
  obtain ⟨rl, hrl⟩ : ∃ rl, rl = r.length := ⟨_, rfl⟩
  rw [← hrl] at HG HF
  have HR := Lib.hid hr
  clear hr hac hG hrl
  go_enter Try.func4, Try.ntmps4
  go_wp2_with fail
  refine (awake05 _).mono ?_
  rintro e w1 ⟨rfl, hb⟩
  have HW1 := Lib.hid hb
  clear hb
  go_wp2_with fail
  refine (HG.out _ (HR.out.below HW1.out)).mono ?_
  rintro e w2 ⟨a2, c2, rfl, hr2, hb⟩
  have HW2 := Lib.hid (HW1.out.step hb)
  have HX2 := Lib.hid hr2
  clear hb hr2 HW1
  go_upto_region 5 with fail
  generalize hw3 : w2.alloc (.cells _ _) = w3
  have hb23 : Below w2.heap.size w2 w3 := by rw [← hw3]; exact (Below.refl _ _).alloc (Nat.le_refl _) _
  obtain ⟨b4, hb4⟩ : ∃ b4, b4 = w2.heap.size := ⟨_, rfl⟩
  have HC4 := Lib.hid (show Cel w3 b4 23 [.int .i64 k, .string s, .string t, .int .i64 m] by rw [← hw3, hb4]; exact Cel.new w2 _ _)
  have HW3 := Lib.hid (HW2.out.step hb23)
  have HX3 := Lib.hid (HX2.out.below hb23)
  rw [← hb4]
  clear hw3 hb23 hb4 HX2 HW2
  go_wp2_with fail
  refine (HF.out _ (HR.out.below HW3.out)).mono ?_
  rintro e w4 ⟨a4, c4, rfl, hr4, hb⟩
  have HW4 := Lib.hid (HW3.out.step hb)
  have HC44 := Lib.hid (HC4.out.step hb)
  have HX4 := Lib.hid (HX3.out.below hb)
  have HY4 := Lib.hid hr4
  clear hb hr4 HC4 HX3 HW3
  go_upto_region 6 with fail
  generalize hw5 : w4.alloc (.cells _ _) = w5
  have hb45 : Below w4.heap.size w4 w5 := by rw [← hw5]; exact (Below.refl _ _).alloc (Nat.le_refl _) _
  obtain ⟨b7, hb7⟩ : ∃ b7, b7 = w4.heap.size := ⟨_, rfl⟩
  have HC7 := Lib.hid (show Cel w5 b7 23 [.int .i64 k, .string s, .string t, .int .i64 m] by rw [← hw5, hb7]; exact Cel.new w4 _ _)
  have HC45 := Lib.hid (HC44.out.step hb45)
  have HW5 := Lib.hid (HW4.out.step hb45)
  have x1 : (convert 26 9 (.slice a2 rl c2)).run Try.prog w5 = .ok (.string ⟨r.toArray⟩) w5 := str_drew (HX4.out.below hb45) 0
  have x2 : (convert 26 9 (.slice a4 rl c4)).run Try.prog w5 = .ok (.string ⟨r.toArray⟩) w5 := str_drew (HY4.out.below hb45) 0
  rw [← hb7]
  clear hw5 hb45 hb7 HC44
  have p0 : w5.cell? ⟨b4, 0, none⟩ = some (.int .i64 k) := HC45.out.at 0 _ rfl
  have p1 : w5.cell? ⟨b4, 1, none⟩ = some (.string s) := HC45.out.at 1 _ rfl
  have p2 : w5.cell? ⟨b4, 2, none⟩ = some (.string t) := HC45.out.at 2 _ rfl
  have p3 : w5.cell? ⟨b4, 3, none⟩ = some (.int .i64 m) := HC45.out.at 3 _ rfl
  have q0 : w5.cell? ⟨b7, 0, none⟩ = some (.int .i64 k) := HC7.out.at 0 _ rfl
  have q1 : w5.cell? ⟨b7, 1, none⟩ = some (.string s) := HC7.out.at 1 _ rfl
  have q2 : w5.cell? ⟨b7, 2, none⟩ = some (.string t) := HC7.out.at 2 _ rfl
  have q3 : w5.cell? ⟨b7, 3, none⟩ = some (.int .i64 m) := HC7.out.at 3 _ rfl
  go_wp2_with fail
  go_ret
  exact ⟨rfl, HW5.out⟩
end Go.Proofs.Ytfljpgcabkihlaa
