/- The walks of log.Mend and log.Write, and the chapter's example. -/
import Derived.Test.YtipaldfellfkdaaLogRead
import Derived.Lib.SlBytesConst
namespace Go.Proofs.Ytipaldfellfkdaa
open Go.ChangeShapes Go.WideShapes Go.ChangeAt Go.RowKit
set_option linter.unusedVariables false

theorem slice_h (w : World) (a : Option Addr) (n c j : Nat) (hj : j ≤ c) : (Instr.slice 22 (.slice a n c) none (some (.int .i64 (j : Int))) none).run Try.prog w = .ok (sliced a 0 j c 1) w := by
  rw [run_slice_h (P := Try.prog) (w := w) 22 a n c (by kernel_rfl) .i64 (j : Int) (by omega) (by omega), size_u8]; rfl
/-- The first bytes of a slice. -/
theorem Rd.fr {w : World} {a : Option Addr} {n c : Nat} {l : List UInt8} (hr : Rd w a n c l) (hac : a = none → c = 0) (u : Nat) (hu : u ≤ n) : ∃ a', (∀ w', (Instr.sliceAt 22 (.slice a n c) none (some (.int .i64 (u : Int))) none).run Try.prog w' = .ok (.slice a' u c) w') ∧
    (∀ w', (Instr.slice 22 (.slice a n c) none (some (.int .i64 (u : Int))) none).run Try.prog w' = .ok (.slice a' u c) w') ∧ (∀ w', Rd w' a n c l → Rd w' a' u c (l.take u)) ∧ (a' = none → c = 0) := by
  have hle := hr.le
  obtain ⟨a', hs, hR, hac'⟩ := hr.sl hac 0 (Nat.zero_le _)
  have h2 : ∀ w', (Instr.slice 22 (.slice a n c) none (some (.int .i64 (u : Int))) none).run Try.prog w' = .ok (.slice a' u c) w' := fun w' => by rw [slice_h w' a n c u (by omega), hs]; rfl
  exact ⟨a', fun w' => by rw [slice_at]; exact h2 w', h2, fun w' h => hR u (Nat.zero_le _) hu w' h, hac'⟩

set_option maxRecDepth 100000 in
set_option maxHeartbeats 1000000 in
theorem mend_any (a : Option Addr) (n c : Nat) (l : List UInt8) (w : World) (hr : Rd w a n c l) (hac : a = none → c = 0) (hn : n ≤ 20000) : Calls Try.prog 15 #[.slice a n c] w (OwnB (l.take (readL l).2) w) := by
  have hlen := hr.len
  obtain ⟨u, hu⟩ : ∃ u, u = (readL l).2 := ⟨_, rfl⟩
  have hun : u ≤ n := by rw [hu, ← hlen]; exact readL_le l
  obtain ⟨a', h1, h2, hR, hac'⟩ := hr.fr hac u hun
  have HU := Lib.hid hu
  have HN := Lib.hid (show u ≤ n ∧ l.length = n from ⟨hun, hlen⟩)
  have HR := Lib.hid hr
  clear hu hun hlen hr
  go_enter Try.func15, Try.ntmps15
  go_wp2_with fail
  refine (read_any a n c l w HR.out hac hn).mono ?_
  rintro e w1 ⟨v, xs, rfl, hown, hrec, hb1⟩
  rw [← HU.out]
  clear hown hrec
  go_wp2_with fail
  refine (clone_any a' u c (l.take u) w1 (hR w1 (HR.out.below hb1)) hac' (by have := HN.out; omega)).mono ?_
  rintro e w2 ⟨v2, rfl, hown2, hb2⟩
  go_wp2_with fail
  go_ret
  exact ⟨v2, rfl, ownsRow_mono (by rw [← HU.out]; exact hown2) hb1.size, hb1.step hb2⟩

set_option maxRecDepth 100000 in
set_option maxHeartbeats 1000000 in
theorem write_ok (a : Option Addr) (n c : Nat) (l : List UInt8) (room : Int) (a2 : Option Addr) (n2 c2 : Nat) (lx : List UInt8) (w : World) (hr : Rd w a n c l) (hac : a = none → c = 0) (hn : n ≤ 20000) (hr2 : Rd w a2 n2 c2 lx) (hac2 : a2 = none → c2 = 0) (hn2 : n2 ≤ 4000)
    (hroom : (n : Int) + ((frameL lx).length : Int) ≤ room) :
    Calls Try.prog 13 #[.slice a n c, .int .i64 room, .slice a2 n2 c2] w fun e w' => ∃ v, e = .returned (.tuple #[v, .int .i64 0]) ∧ w'.ownsRow w.heap.size 5 1 v (l ++ frameL lx).length ((l ++ frameL lx).map B) ∧ Below w.heap.size w w' := by
  obtain ⟨i0, hi, hz0, hz1, hz2⟩ := info_parts info_u8
  have hlen := hr.len
  have hlx := hr2.len
  have hF : (frameL lx).length ≤ 4014 := by rw [frameL_length, hlx]; have := numL_le10 n2 (by omega); omega
  obtain ⟨F, hFF⟩ : ∃ F, F = (frameL lx).length := ⟨_, rfl⟩
  rw [← hFF] at hroom hF
  have HR := Lib.hid hr
  have HI := Lib.hid (show Try.prog.info? 5 = some i0 ∧ i0.zero = some (.int .u8 0) ∧ i0.size = 1 ∧ i0.bytes = 1 from ⟨hi, hz0, hz1, hz2⟩)
  have HL := Lib.hid hlen
  have HFF := Lib.hid hFF
  have hrm : ¬ room < (n : Int) + (F : Int) := by omega
  clear hr hi hz0 hz1 hz2 hlen hFF hroom
  go_enter Try.func13, Try.ntmps13
  go_wp2_with fail
  refine (frame_any a2 n2 c2 lx w hr2 hac2 hn2).mono ?_
  rintro e w1 ⟨v1, rfl, hown1, hb1⟩
  rw [← HFF.out] at hown1
  obtain ⟨a8, c8, rfl, hr8⟩ := Rd.of_own hown1
  have hac8 := own_none hown1
  have H8 := Lib.hid hr8
  clear hown1 hr8
  go_wp2_with fail
  refine (clone_any a n c l w1 (HR.out.below hb1) hac (by omega)).mono ?_
  rintro e w2 ⟨v2, rfl, hown2, hb2⟩
  obtain ⟨v3, w3, hrun3, hown3, hg3⟩ := run_app (P := Try.prog) (ty := 22) Try.underlying22 HI.out.1 HI.out.2.1 HI.out.2.2.1 HI.out.2.2.2 rfl (ownsRow_mono hown2 hb1.size) (H8.out.below hb2) hac8 (by rw [HL.out]; omega) (Nat.le_trans hb1.size hb2.size)
  have hb3 := below_own (hb1.step hb2) (ownsRow_mono hown2 hb1.size) hg3 (Nat.le_trans hb1.size hb2.size)
  have HRUN := Lib.hid hrun3
  have HE := Lib.hid (show w3.ownsRow w.heap.size 5 1 v3 (l ++ frameL lx).length ((l ++ frameL lx).map B) ∧ Below w.heap.size w w3 from ⟨by rw [List.length_append, ← HFF.out, List.map_append]; exact hown3, hb3⟩)
  clear hrun3 hown3 hg3 hb3 hown2
  go_wp2_with (at_builtin; refine Lib.wpList_append_run _ rfl _ _ _ _ rfl _ _ rfl rfl _ _ HRUN.out ?_)
  go_ret2
  exact ⟨v3, rfl, HE.out.1, HE.out.2⟩
end Go.Proofs.Ytipaldfellfkdaa
