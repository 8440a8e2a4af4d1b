/- The chapter's example of the layer net, and Few. -/
import Derived.Test.YtmeieokembjabaaNetSpoil
import Derived.Lib.SlBytesConst
namespace Go.Proofs.Ytmeieokembjabaa
open Go.ChangeShapes Go.WideShapes Go.ChangeAt Go.RowKit
set_option linter.unusedVariables false

def pA : Pk := ⟨0, 1, [97]⟩
def pB : Pk := ⟨0, 1, [98]⟩
theorem aw_send : sendP [] pA = [pA] := by decide +kernel
theorem aw_twice : twiceP [pA] 0 = [pA, pA] ∧ hasP [pA] 0 = true := by decide +kernel
theorem aw_spoil : spoilP [pA] 0 0 3 = [pB] ∧ spoilIs [pA] 0 0 = true := by decide +kernel
theorem aw_pass : passP [pA] 0 = [] ∧ outP [pA] 0 = pA := by decide +kernel
theorem aw_may : okP pA = true := by decide +kernel
theorem aw_lens : ∀ i, i < 1 → (([pA] : List Pk).getD i noPk).by_.length ≤ 100000 := by
  intro i hi
  have h0 : i = 0 := by omega
  subst h0
  decide

set_option maxRecDepth 100000 in
set_option maxHeartbeats 4000000 in
theorem awake21 (w : World) : Calls Try.prog 8 #[] w fun e w' => e = .returned (.bool true) ∧ Below w.heap.size w w' := by
  have HS := Lib.hid (fun w' x cx (hr : Rd w' x 1 cx [97]) (hx : x = none → cx = 0) => show Calls Try.prog 12 #[.slice none 0 0, .agg #[.int .i64 0, .int .i64 1, .slice x 1 cx]] w' (PksR [pA] w') by
    have := send_any none 0 0 [] pA x cx w' ⟨rfl, Nat.le_refl _, by decide, fun _ => rfl, .inl rfl⟩ (by decide) (fun i hi => by omega) hr hx
    rw [aw_send] at this
    exact this)
  have HT := Lib.hid (fun w' a c (h : Pks w' a 1 c [pA]) => show Calls Try.prog 16 #[.slice a 1 c, .int .i64 0] w' (PksT [pA, pA] true w') by
    have := twice_any a 1 c [pA] 0 w' h (by decide) aw_lens
    rw [aw_twice.1, aw_twice.2] at this
    exact this)
  have HP := Lib.hid (fun w' a c (h : Pks w' a 1 c [pA]) => show Calls Try.prog 18 #[.slice a 1 c, .int .i64 0, .int .i64 0, .int .i64 3] w' (PksT [pB] true w') by
    have := spoil_any a 1 c [pA] 0 0 3 w' h (by decide) aw_lens
    rw [aw_spoil.1, aw_spoil.2] at this
    exact this)
  have HQ := Lib.hid (fun w' a c (h : Pks w' a 1 c [pA]) => show Calls Try.prog 14 #[.slice a 1 c, .int .i64 0] w' (fun e w'' => ∃ x cx a c, e = .returned (.tuple #[.agg #[.int .i64 0, .int .i64 1, .slice x 1 cx], .slice a 0 c, .bool true]) ∧ Below w'.heap.size w' w'') by
    have := pass_any a 1 c [pA] 0 w' h (by decide) aw_lens
    unfold PassP at this
    rw [aw_pass.1, aw_pass.2, aw_twice.2] at this
    refine this.mono ?_
    rintro e w'' ⟨x, cx, a, c, rfl, _, _, _, hb⟩
    exact ⟨x, cx, a, c, rfl, hb⟩)
  have HM := Lib.hid (fun w' x cx => show Calls Try.prog 20 #[.agg #[.int .i64 0, .int .i64 1, .slice x 1 cx]] w' (fun e w'' => e = .returned (.bool true) ∧ Below w'.heap.size w' w'') by
    have := netmay_any pA x cx w' (by decide)
    rw [aw_may] at this
    exact this)
  have HE := Lib.hid (fun w' a c a' c' (h : Pks w' a 1 c [pA]) (h' : Pks w' a' 1 c' [pB]) => show Calls Try.prog 21 #[.slice a 1 c, .slice a' 1 c'] w' (fun e w'' => e = .returned (.bool false) ∧ Below w'.heap.size w' w'') by
    have := same_any a a' 1 1 c c' [pA] [pB] w' h h'
    rw [show decide ([pA] = [pB]) = false by decide +kernel] at this
    exact this)
  unfold PksR at HS
  unfold PksT at HT HP
  go_enter Try.func8, Try.ntmps8
  have hcv := Lib.run_convert_bytes_const (P := Try.prog) w 23 5 #[.int .u8 97] 1 1 Try.underlying23 Try.underlying5
  have HR1 := Lib.hid (show Rd (w.alloc (.cells #[.int .u8 97] 5 (1, 2))) (some ⟨w.heap.size, 0, none⟩) 1 1 [97] by simpa using Rd.marked w [97] 5 (1, 2) (by simp))
  have HB1 := Lib.hid (show Below w.heap.size w (w.alloc (.cells #[.int .u8 97] 5 (1, 2))) from (Below.refl _ _).alloc (Nat.le_refl _) _)
  go_wp2_with fail
  refine (HS.out _ _ _ HR1.out (by intro h; cases h)).mono ?_
  rintro e w2 ⟨a1, c1, rfl, hk, hb⟩
  have HB2 := Lib.hid (HB1.out.step hb)
  have HK2 := Lib.hid hk
  clear hb hk HR1 HB1
  go_wp2_with fail
  refine (HT.out _ _ _ HK2.out).mono ?_
  rintro e w3 ⟨a2, c2, rfl, _, hb⟩
  have HB3 := Lib.hid (HB2.out.step hb)
  have HK3 := Lib.hid (HK2.out.below hb)
  clear hb HK2 HB2
  go_wp2_with fail
  refine (HP.out _ _ _ HK3.out).mono ?_
  rintro e w4 ⟨a4, c4, rfl, hk, hb⟩
  have HB4 := Lib.hid (HB3.out.step hb)
  have HK4 := Lib.hid (HK3.out.below hb)
  have HS4 := Lib.hid hk
  clear hb hk HK3 HB3
  go_wp2_with fail
  refine (HQ.out _ _ _ HK4.out).mono ?_
  rintro e w5 ⟨x, cx, a6, c6, rfl, hb⟩
  have HB5 := Lib.hid (HB4.out.step hb)
  have HK5 := Lib.hid (HK4.out.below hb)
  have HS5 := Lib.hid (HS4.out.below hb)
  clear hb HK4 HS4 HB4
  go_upto_region 5 with fail
  generalize hw6 : w5.alloc (.cells _ _) = w6
  obtain ⟨b6, hb6⟩ : ∃ b6, b6 = w5.heap.size := ⟨_, rfl⟩
  have hb56 : Below w5.heap.size w5 w6 := by rw [← hw6]; exact (Below.refl _ _).alloc (Nat.le_refl _) _
  have HC6 := Lib.hid (show Cel w6 b6 25 [.int .i64 0, .int .i64 1, .slice x 1 cx] by rw [← hw6, hb6]; exact Cel.new w5 _ _)
  have HB6 := Lib.hid (HB5.out.step hb56)
  have HK6 := Lib.hid (HK5.out.below hb56)
  have HS6 := Lib.hid (HS5.out.below hb56)
  rw [← hb6]
  clear hw6 hb6 hb56 HK5 HS5 HB5
  have p0 : w6.cell? ⟨b6, 0, none⟩ = some (.int .i64 0) := HC6.out.at 0 _ rfl
  have p1 : w6.cell? ⟨b6, 1, none⟩ = some (.int .i64 1) := HC6.out.at 1 _ rfl
  have p2 : w6.cell? ⟨b6, 2, none⟩ = some (.slice x 1 cx) := HC6.out.at 2 _ rfl
  obtain ⟨g, off, e4, f4⟩ := HS6.out.cells.resolve_left (by decide)
  subst e4
  obtain ⟨y, cy, _, _, g2, g3, _⟩ := f4 0 (by decide)
  have q2 : w6.cell? ⟨g, off + 2, none⟩ = some (.slice y 1 cy) := g2
  obtain ⟨gy, oy, e5, _, f5⟩ := g3.cells.resolve_left (by decide)
  subst e5
  have q3 : w6.cell? ⟨gy, oy, none⟩ = some (.int .u8 98) := f5 0 (by decide)
  clear f4 g2 g3 f5
  go_wp2_with fail
  refine (HM.out _ _ _).mono ?_
  rintro e w7 ⟨rfl, hb⟩
  have HB7 := Lib.hid (HB6.out.step hb)
  have HK7 := Lib.hid (HK6.out.below hb)
  have HS7 := Lib.hid (HS6.out.below hb)
  clear hb
  go_wp2_with fail
  refine (HE.out _ _ _ _ _ HK7.out HS7.out).mono ?_
  rintro e w8 ⟨rfl, hb⟩
  have HB8 := Lib.hid (HB7.out.step hb)
  clear hb
  go_wp2_with fail
  go_ret
  exact ⟨rfl, HB8.out⟩

def fewB (ps : List Pk) (m : Int) : Bool := decide ((ps.length : Int) ≤ m) && ps.all fun p => decide (p.by_.length ≤ 1500)
set_option maxRecDepth 100000 in
set_option maxHeartbeats 2000000 in
theorem few_any (a : Option Addr) (n c : Nat) (ps : List Pk) (m : Int) (w : World) (hr : Pks w a n c ps) : Calls Try.prog 9 #[.slice a n c, .int .i64 m] w fun e w' => e = .returned (.bool (fewB ps m)) ∧ w' = w := by
  have hn63 : n ≤ 9223372036854775807 := Nat.le_trans hr.le hr.cap
  have HR := Lib.hid hr
  clear hr
  by_cases hm : (n : Int) ≤ m
  case neg =>
    have HF := Lib.hid (show fewB ps m = false by unfold fewB; rw [HR.out.len, decide_eq_false hm]; rfl)
    have hm' : m < (n : Int) := by omega
    clear hm
    go_enter Try.func9, Try.ntmps9
    go_wp2_with fail
    go_ret
    exact ⟨retb HF.out.symm, rfl⟩
  have hm' : ¬ m < (n : Int) := by omega
  go_enter Try.func9, Try.ntmps9
  go_wp2_with fail
  go_loopw [5] (fun v5 wr => ∃ i : Nat, i ≤ n ∧ v5 = .int .i64 (i : Int) ∧ wr = w ∧ Hid (∀ j, j < i → (ps.getD j noPk).by_.length ≤ 1500)) (fun v5 _ => n - (intOf v5).toNat)
  case atStart => exact ⟨0, Nat.zero_le _, rfl, rfl, Lib.hid (fun j hj => by omega)⟩
  case round =>
    obtain ⟨i, hi, rfl, rfl, hA⟩ := hrel
    by_cases hin : i < n
    case neg =>
      obtain rfl : i = n := by omega
      have HF := Lib.hid (show fewB ps m = true by
        unfold fewB
        rw [HR.out.len, decide_eq_true hm, Bool.true_and, List.all_eq_true]
        intro p hp
        obtain ⟨j, hj, rfl⟩ := List.mem_iff_getElem.1 hp
        have := hA.out j (by rw [← HR.out.len]; exact hj)
        rw [List.getD_eq_getElem?_getD, List.getElem?_eq_getElem hj] at this
        exact decide_eq_true this)
      clear hA
      go_wp2_with fail
      go_ret
      exact ⟨retb HF.out.symm, rfl⟩
    obtain ⟨b, off, e1, f1⟩ := HR.out.cells.resolve_left (by omega)
    subst e1
    obtain ⟨x, cx, _, _, g2, g3, _⟩ := f1 i hin
    obtain ⟨L, hL⟩ : ∃ L, L = (ps.getD i noPk).by_.length := ⟨_, rfl⟩
    rw [← hL] at g2 g3
    have hL63 : L ≤ 9223372036854775807 := Nat.le_trans g3.le g3.cap
    have HL := Lib.hid hL
    clear f1 g3 hL
    by_cases hl : (L : Int) ≤ 1500
    · have hl' : ¬ 1500 < (L : Int) := by omega
      have HA := Lib.hid (show ∀ j, j < i + 1 → (ps.getD j noPk).by_.length ≤ 1500 from fun j hj => by
        by_cases e : j = i
        · subst e; rw [← HL.out]; omega
        · exact hA.out j (by omega))
      clear hl
      go_wp2_with fail
      refine ⟨⟨i + 1, by omega, rfl, by first | rfl | trivial, HA⟩, ?_⟩
      simp [intOf]; omega
    · have hl' : 1500 < (L : Int) := by omega
      have HF := Lib.hid (show fewB ps m = false by
        unfold fewB
        rw [Bool.and_eq_false_iff]
        right
        rw [List.all_eq_false]
        have hlen := HR.out.len
        have hL1 := HL.out
        refine ⟨ps.getD i noPk, ?_, by rw [← hL1]; exact fun h => absurd (of_decide_eq_true h) (by omega)⟩
        rw [List.getD_eq_getElem?_getD, List.getElem?_eq_getElem (by omega)]
        exact List.getElem_mem _)
      clear hl
      go_wp2_with fail
      go_ret
      exact ⟨retb HF.out.symm, rfl⟩
end Go.Proofs.Ytmeieokembjabaa
