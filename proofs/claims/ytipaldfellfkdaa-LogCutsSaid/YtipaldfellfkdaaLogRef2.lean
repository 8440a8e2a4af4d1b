/- The walks of log.Write where there is no room, and of the reference's Write. -/
import Derived.Test.YtipaldfellfkdaaLogRef
namespace Go.Proofs.Ytipaldfellfkdaa
open Go.ChangeShapes Go.WideShapes Go.ChangeAt Go.RowKit
set_option linter.unusedVariables false

set_option maxRecDepth 100000 in
set_option maxHeartbeats 1000000 in
theorem write_full (a : Option Addr) (n c : Nat) (l : List UInt8) (room : Int) (a2 : Option Addr) (n2 c2 : Nat) (lx : List UInt8) (w : World) (hr : Rd w a n c l) (hn : n ≤ 20000) (hr2 : Rd w a2 n2 c2 lx) (hac2 : a2 = none → c2 = 0) (hn2 : n2 ≤ 4000)
    (hroom : room < (n : Int) + ((frameL lx).length : Int)) :
    Calls Try.prog 13 #[.slice a n c, .int .i64 room, .slice a2 n2 c2] w fun e w' => e = .returned (.tuple #[.slice none 0 0, .int .i64 4]) ∧ Below w.heap.size w w' := by
  have hlx := hr2.len
  have hF : (frameL lx).length ≤ 4014 := by rw [frameL_length, hlx]; have := numL_le10 n2 (by omega); omega
  obtain ⟨F, hFF⟩ : ∃ F, F = (frameL lx).length := ⟨_, rfl⟩
  rw [← hFF] at hroom hF
  have HFF := Lib.hid hFF
  clear hr hFF
  go_enter Try.func13, Try.ntmps13
  go_wp2_with fail
  refine (frame_any a2 n2 c2 lx w hr2 hac2 hn2).mono ?_
  rintro e w1 ⟨v1, rfl, hown1, hb1⟩
  rw [← HFF.out] at hown1
  obtain ⟨a8, c8, rfl, hr8⟩ := Rd.of_own hown1
  have HB := Lib.hid hb1
  clear hown1 hr8 hb1
  go_wp2_with fail
  go_ret2
  exact ⟨rfl, HB.out⟩

set_option maxRecDepth 100000 in
set_option maxHeartbeats 1000000 in
theorem write_ref_full (a : Option Addr) (n c : Nat) (l : List UInt8) (room : Int) (a2 : Option Addr) (n2 c2 : Nat) (lx : List UInt8) (w : World) (hr : Rd w a n c l) (hn : n ≤ 20000) (hr2 : Rd w a2 n2 c2 lx) (hac2 : a2 = none → c2 = 0) (hn2 : n2 ≤ 4000)
    (hroom : room < (n : Int) + ((frameL lx).length : Int)) :
    Calls Try.prog 14 #[.slice a n c, .int .i64 room, .slice a2 n2 c2] w fun e w' => e = .returned (.tuple #[.slice none 0 0, .int .i64 4]) ∧ Below w.heap.size w w' := by
  have hlx := hr2.len
  have hF : (frameL lx).length ≤ 4014 := by rw [frameL_length, hlx]; have := numL_le10 n2 (by omega); omega
  obtain ⟨F, hFF⟩ : ∃ F, F = (frameL lx).length := ⟨_, rfl⟩
  rw [← hFF] at hroom hF
  have HFF := Lib.hid hFF
  clear hr hFF
  go_enter Try.func14, Try.ntmps14
  go_wp2_with fail
  refine (frame_ref a2 n2 c2 lx w hr2 hac2 hn2).mono ?_
  rintro e w1 ⟨v1, rfl, hown1, hb1⟩
  rw [← HFF.out] at hown1
  obtain ⟨a8, c8, rfl, hr8⟩ := Rd.of_own hown1
  have HB := Lib.hid hb1
  clear hown1 hr8 hb1
  go_wp2_with fail
  go_ret2
  exact ⟨rfl, HB.out⟩

/-- Two appends in a row: a copy, and what stands behind it. -/
theorem run_copy2 {i : TypeInfo} (hi : Try.prog.info? 5 = some i) (hz : i.zero = some (.int .u8 0)) (hs : i.size = 1) (hby : i.bytes = 1)
    {w : World} {a : Option Addr} {n c : Nat} {l : List UInt8} (hr : Rd w a n c l) (hac : a = none → c = 0) (hn : n ≤ 20000) : ∃ v1 w1, (Builtin.append_ #[22, 22] 22 #[.slice none 0 0, .slice a n c]).run Try.prog w = .ok v1 w1 ∧ w1.ownsRow w.heap.size 5 1 v1 n (l.map B) ∧ Below w.heap.size w w1 := by
  have h0 : w.ownsRow w.heap.size 5 1 (.slice none 0 0) 0 (([] : List UInt8).map B) := ⟨rfl, .inl ⟨rfl, rfl⟩⟩
  obtain ⟨v1, w1, h1, h2, h3⟩ := run_app (P := Try.prog) (ty := 22) Try.underlying22 hi hz hs hby rfl h0 hr hac (by omega) (Nat.le_refl _)
  refine ⟨v1, w1, h1, by simpa using h2, below_own (Below.refl _ _) h0 h3 (Nat.le_refl _)⟩

set_option maxRecDepth 100000 in
set_option maxHeartbeats 1000000 in
theorem write_ref_ok (a : Option Addr) (n c : Nat) (l : List UInt8) (room : Int) (a2 : Option Addr) (n2 c2 : Nat) (lx : List UInt8) (w : World) (hr : Rd w a n c l) (hac : a = none → c = 0) (hn : n ≤ 20000) (hr2 : Rd w a2 n2 c2 lx) (hac2 : a2 = none → c2 = 0) (hn2 : n2 ≤ 4000)
    (hroom : (n : Int) + ((frameL lx).length : Int) ≤ room) :
    Calls Try.prog 14 #[.slice a n c, .int .i64 room, .slice a2 n2 c2] w fun e w' => ∃ v, e = .returned (.tuple #[v, .int .i64 0]) ∧ w'.ownsRow w.heap.size 5 1 v (l ++ frameL lx).length ((l ++ frameL lx).map B) ∧ Below w.heap.size w w' := by
  obtain ⟨i0, hi, hz0, hz1, hz2⟩ := info_parts info_u8
  have hlen := hr.len
  have hlx := hr2.len
  have hF : (frameL lx).length ≤ 4014 := by rw [frameL_length, hlx]; have := numL_le10 n2 (by omega); omega
  obtain ⟨F, hFF⟩ : ∃ F, F = (frameL lx).length := ⟨_, rfl⟩
  rw [← hFF] at hroom hF
  have HR := Lib.hid hr
  have HI := Lib.hid (show Try.prog.info? 5 = some i0 ∧ i0.zero = some (.int .u8 0) ∧ i0.size = 1 ∧ i0.bytes = 1 from ⟨hi, hz0, hz1, hz2⟩)
  have HL := Lib.hid hlen
  have HFF := Lib.hid hFF
  have hrm : ¬ room < (n : Int) + (F : Int) := by omega
  clear hr hi hz0 hz1 hz2 hlen hFF hroom
  go_enter Try.func14, Try.ntmps14
  go_wp2_with fail
  refine (frame_ref a2 n2 c2 lx w hr2 hac2 hn2).mono ?_
  rintro e w1 ⟨v1, rfl, hown1, hb1⟩
  rw [← HFF.out] at hown1
  obtain ⟨a8, c8, rfl, hr8⟩ := Rd.of_own hown1
  have hac8 := own_none hown1
  have H8 := Lib.hid hr8
  clear hown1 hr8
  obtain ⟨v2, w2, hrun2, hown2, hb2⟩ := run_copy2 HI.out.1 HI.out.2.1 HI.out.2.2.1 HI.out.2.2.2 (HR.out.below hb1) hac (by omega)
  obtain ⟨v3, w3, hrun3, hown3, hg3⟩ := run_app (P := Try.prog) (ty := 22) Try.underlying22 HI.out.1 HI.out.2.1 HI.out.2.2.1 HI.out.2.2.2 rfl (ownsRow_mono hown2 hb1.size) (H8.out.below hb2) hac8 (by omega) (Nat.le_trans hb1.size hb2.size)
  have hb3 := below_own (hb1.step hb2) (ownsRow_mono hown2 hb1.size) hg3 (Nat.le_trans hb1.size hb2.size)
  have HRUN2 := Lib.hid hrun2
  have HRUN := Lib.hid hrun3
  have HE := Lib.hid (show w3.ownsRow w.heap.size 5 1 v3 (l ++ frameL lx).length ((l ++ frameL lx).map B) ∧ Below w.heap.size w w3 from ⟨by rw [List.length_append, ← HFF.out, List.map_append, HL.out]; exact hown3, hb3⟩)
  clear hrun2 hrun3 hown3 hg3 hb3 hown2 hb2
  have tok1 : True := trivial
  go_wp2_with (first
    | (at_builtin; have _t := tok1; refine Lib.wpList_append_run _ rfl _ _ _ _ rfl _ _ rfl rfl _ _ HRUN2.out ?_; clear tok1)
    | (at_builtin; refine Lib.wpList_append_run _ rfl _ _ _ _ rfl _ _ rfl rfl _ _ HRUN.out ?_))
  go_ret2
  exact ⟨v3, rfl, HE.out.1, HE.out.2⟩
end Go.Proofs.Ytipaldfellfkdaa
