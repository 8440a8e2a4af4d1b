/- The walk of sha.Pad. -/
import Derived.Test.YtofadpodlaakbaaGreatShaWalks
import Derived.Test.YtofadpodlaakbaaGreatJ1
import Derived.Laws.MakeOwn
import Derived.Laws.CopyOwn
import Derived.OwnWalk
namespace Go.Proofs.YtofadpodlaakbaaGreat
open Go.ChangeShapes Go.WideShapes Go.ChangeAt Go.RowKit
set_option linter.unusedVariables false

/-- 'make([]byte, n, C)' and 'copy' of n bytes into it. -/
theorem made_copied {P : Program} (t e ty : TypeId) (hu : P.underlying t = some (.slice e)) (hs : (P.info? e).map (·.size) = some 1) (w : World) (n c C : Nat) (a : Option Addr) (l : List UInt8) (hnC : n ≤ C) (hC : C ≤ maxLen) (z : Array Value) (hr : Rd w a n c l) :
    ∃ w', (Builtin.copy_ #[t, t] ty #[.slice (some ⟨w.heap.size, 0, none⟩) n C, .slice a n c]).run P (w.alloc (.cells (madeCells z C) e)) = .ok (goInt (n : Int)) w' ∧
      w'.ownsRow w.heap.size e 1 (.slice (some ⟨w.heap.size, 0, none⟩) n C) n (l.map B) ∧ Below w.heap.size w w' := by
  have hb1 : Below w.heap.size w (w.alloc (.cells (madeCells z C) e)) := (Below.refl _ _).alloc (Nat.le_refl _) _
  have hnew := heap_alloc_new w (.cells (madeCells z C) e)
  have hl := hr.len
  rcases hr.cells with h0 | ⟨b, off, rfl, hlt, hc⟩
  · subst h0
    obtain rfl : l = [] := List.eq_nil_of_length_eq_zero hl
    exact ⟨_, run_copy_none _ t t ty e _ _ 0 C 0 c hu hs rfl, ⟨rfl, .inr ⟨w.heap.size, C, madeCells z C, rfl, Nat.le_refl _, hnew, hnC, hC, by rw [size_madeCells, Nat.mul_one], by simp⟩⟩, hb1⟩
  · have hrun := run_copy_row (P := P) (w.alloc (.cells (madeCells z C) e)) t t ty e w.heap.size 0 n C ⟨b, off, none⟩ n c (madeCells z C) e (l.map B) hu hs hnew (by simp [hl]) (by
      intro j v hv
      have hj : j < n := by have := (List.getElem?_eq_some_iff.1 hv).1; simpa [hl] using this
      have hadd : (⟨b, off, none⟩ : Addr).add j = ⟨b, off + j, none⟩ := by unfold Addr.add; split <;> simp_all
      rw [hadd, World.cell?_alloc_lt w _ _ hlt, hc j hj]
      have hjl : j < l.length := by omega
      rw [List.getElem?_map, List.getElem?_eq_getElem hjl] at hv
      simp only [Option.map_some, Option.some.injEq] at hv
      rw [← hv, List.getD_eq_getElem?_getD, List.getElem?_eq_getElem hjl]; rfl) (by rw [size_madeCells]; simp; omega) (by intro v hv; obtain ⟨x, _, rfl⟩ := List.mem_map.1 hv; rfl)
    rw [List.length_map, hl] at hrun
    have hcur : ((List.take 0 (madeCells z C).toList ++ l.map B ++ List.drop (0 + n) (madeCells z C).toList).toArray : Array Value).size = C := by
      have := size_madeCells z C
      simp [hl, this]; omega
    refine ⟨_, hrun, ⟨by simp [hl], .inr ⟨w.heap.size, C, _, rfl, Nat.le_refl _, setRow_heap _ _ _ _ _ _ hnew, hnC, hC, by rw [Nat.mul_one]; exact hcur, ?_⟩⟩, below_setRow hb1 (Nat.le_refl _) _⟩
    simp [hl]
theorem long_cells (x : Nat) (h : x < 18446744073709551616) : (longL x).map B = [.int .u8 ((x : Int) / 72057594037927936), .int .u8 ((x : Int) / 281474976710656 % 256), .int .u8 ((x : Int) / 1099511627776 % 256), .int .u8 ((x : Int) / 4294967296 % 256), .int .u8 ((x : Int) / 16777216 % 256), .int .u8 ((x : Int) / 65536 % 256), .int .u8 ((x : Int) / 256 % 256), .int .u8 ((x : Int) % 256)] := by
  simp only [longL, List.map_cons, List.map_nil, B, UInt8.toNat_ofNat']
  simp only [List.cons.injEq, Value.int.injEq, true_and, and_true]
  omega

set_option maxRecDepth 100000 in
set_option maxHeartbeats 2000000 in
theorem pad_any (a : Option Addr) (n c : Nat) (l : List UInt8) (w : World) (hr : Rd w a n c l) (hn : n ≤ 5000) : Calls Tryz.prog 73 #[.slice a n c] w (OwnB (padL l) w) := by
  obtain ⟨i0, hi, hz0, hz1, hz2⟩ := info_parts info_u8
  have hmk : ∀ w : World, (Instr.makeSlice 28 (.int .i64 (n : Int)) (.int .i64 ((n : Int) + 128))).run Tryz.prog w = .ok (.slice (some ⟨w.heap.size, 0, none⟩) n (n + 128)) (w.alloc (.cells (madeCells #[.int .u8 0] (n + 128)) 5)) := fun w => by
    have := run_make w 28 5 i0 (.int .u8 0) Tryz.underlying28 hi hz0 .i64 .i64 (n : Int) ((n + 128 : Nat) : Int) (by omega) (by omega) (by rw [hz2]; omega) (by omega)
    rw [hz1, show ((n : Int)).toNat = n by omega, show (((n + 128 : Nat) : Int)).toNat = n + 128 by omega, Nat.mul_one, show (((n + 128 : Nat) : Int)) = (n : Int) + 128 by omega] at this
    exact this
  have HI := Lib.hid (show True ∧ i0.size = 1 ∧ i0.bytes = 1 from ⟨trivial, hz1, hz2⟩)
  have hl := hr.len
  obtain ⟨w2, hcp, hown, hb⟩ := made_copied (P := Tryz.prog) 28 5 3 Tryz.underlying28 (by kernel_rfl) w n c (n + 128) a l (by omega) (by unfold maxLen; omega) #[.int .u8 0] hr
  have hb2a : Below w2.heap.size w2 (w2.alloc (.cells #[.int .u8 128] 5)) := (Below.refl _ _).alloc (Nat.le_refl _) _
  have hr3 : Rd (w2.alloc (.cells #[.int .u8 128] 5)) (some ⟨w2.heap.size, 0, none⟩) 1 1 [128] := Rd.made w2 [128] 5 (by decide)
  obtain ⟨v3, w3, hrun3, hown3, hg3⟩ := run_app (P := Tryz.prog) (ty := 28) Tryz.underlying28 hi hz0 hz1 hz2 rfl (ownsRow_below hown hb2a) hr3 (by intro h; cases h) (by omega) (Nat.le_trans hb.size hb2a.size)
  have hb3 := below_own (Below.step hb hb2a) (ownsRow_below hown hb2a) hg3 (Nat.le_trans hb.size hb2a.size)
  have HRUN := Lib.hid hrun3
  have HB3 := Lib.hid hb3
  have HR := Lib.hid hr
  have HOWN3 := Lib.hid hown3
  have HN := Lib.hid hn
  clear hr hown hb hb2a hr3 hrun3 hg3 hb3
  go_enter Tryz.func73, Tryz.ntmps73
  go_wp2_with (at_builtin; refine Lib.wpList_append_run _ rfl _ _ _ _ rfl _ _ rfl rfl _ _ HRUN.out ?_)
  clear hcp hmk HRUN
  go_loopw [3] (fun vv wr => ∃ j : Nat, j ≤ padN n ∧ Hid (wr.ownsRow w.heap.size 5 1 vv (n + 1 + j) ((l ++ [128] ++ List.replicate j 0).map B)) ∧ Hid (Below w.heap.size w wr))
    (fun vv _ => match vv with | .slice _ m _ => 8000 - m | _ => 0)
  case atStart => exact ⟨0, Nat.zero_le _, Lib.hid (by have := HOWN3.out; simpa using this), HB3.out⟩
  case round =>
    obtain ⟨j, hj, hO, hB⟩ := hrel
    obtain ⟨a3, c3, rfl, hr3⟩ := Rd.of_own hO.out
    by_cases hlt : j < padN n
    · have hm := padN_min n j hlt
      obtain ⟨m, hmm⟩ : ∃ m, m = n + 1 + j := ⟨_, rfl⟩
      rw [← hmm] at hm hO hr3 ⊢
      have hm' : ¬ (m : Int) % 64 = 56 := by omega
      have hbr : Below wr.heap.size wr (wr.alloc (.cells #[.int .u8 0] 5)) := (Below.refl _ _).alloc (Nat.le_refl _) _
      have hr4 : Rd (wr.alloc (.cells #[.int .u8 0] 5)) (some ⟨wr.heap.size, 0, none⟩) 1 1 [0] := Rd.made wr [0] 5 (by decide)
      obtain ⟨v4, w4, hrun4, hown4, hg4⟩ := run_app (P := Tryz.prog) (ty := 28) Tryz.underlying28 hi hz0 hz1 hz2 rfl (ownsRow_below hO.out hbr) hr4 (by intro h; cases h) (by have := HN.out; unfold padN at hj; omega) (Nat.le_trans hB.out.size hbr.size)
      have hb4 := below_own (Below.step hB.out hbr) (ownsRow_below hO.out hbr) hg4 (Nat.le_trans hB.out.size hbr.size)
      obtain ⟨a4, c4, rfl, _⟩ := Rd.of_own (l := l ++ [128] ++ List.replicate j 0 ++ [0]) (by rw [List.map_append]; exact hown4)
      have HRUN := Lib.hid hrun4
      have HO4 := Lib.hid hown4
      have HB4 := Lib.hid hb4
      have HMM := Lib.hid hmm
      clear hrun4 hown4 hb4 hg4 hr4 hbr hr3 hm hmm
      go_wp2_with (at_builtin; refine Lib.wpList_append_run _ rfl _ _ _ _ rfl _ _ rfl rfl _ _ HRUN.out ?_)
      have hn' := HN.out
      have hp' : padN n < 64 := by unfold padN; omega
      refine ⟨⟨j + 1, by omega, Lib.hid ?_, HB4.out⟩, ?_⟩
      · have := HO4.out
        rw [show n + 1 + (j + 1) = m + 1 by have := HMM.out; omega, List.replicate_succ', ← List.append_assoc, List.map_append]
        exact this
      · have := HMM.out
        show 8000 - (m + 1) < 8000 - m
        omega
    · obtain rfl : j = padN n := by omega
      have hm := padN_spec n
      obtain ⟨m, hmm⟩ : ∃ m, m = n + 1 + padN n := ⟨_, rfl⟩
      rw [← hmm] at hm hO hr3 ⊢
      have hm' : (m : Int) % 64 = 56 := by omega
      have hn' : (n : Int) ≤ 5000 := by have := HN.out; omega
      have HMM := Lib.hid hmm
      clear hr3 hm hmm
      go_wp2_with fail
      refine (long_any ((n : Int) * 8) wr (by omega) (by omega)).mono ?_
      rintro e w5 ⟨rfl, hb5⟩
      have hlc := long_cells (8 * n) (by have := HN.out; omega)
      rw [show (((8 * n : Nat)) : Int) = (n : Int) * 8 by omega] at hlc
      have hr6 : Rd (w5.alloc (.cells ((longL (8 * n)).map B).toArray 117)) (some ⟨w5.heap.size, 0, none⟩) 8 8 (longL (8 * n)) := Rd.made w5 (longL (8 * n)) 117 (by simp [longL])
      rw [hlc] at hr6
      have hO5 := ownsRow_below hO.out hb5
      have hb6 : Below w5.heap.size w5 (w5.alloc (.cells ([.int .u8 ((n : Int) * 8 / 72057594037927936), .int .u8 ((n : Int) * 8 / 281474976710656 % 256), .int .u8 ((n : Int) * 8 / 1099511627776 % 256), .int .u8 ((n : Int) * 8 / 4294967296 % 256), .int .u8 ((n : Int) * 8 / 16777216 % 256), .int .u8 ((n : Int) * 8 / 65536 % 256), .int .u8 ((n : Int) * 8 / 256 % 256), .int .u8 ((n : Int) * 8 % 256)] : List Value).toArray 117)) := (Below.refl _ _).alloc (Nat.le_refl _) _
      have hb56 := Below.step hb5 hb6
      obtain ⟨v7, w7, hrun7, hown7, hg7⟩ := run_app (P := Tryz.prog) (ty := 28) Tryz.underlying28 hi hz0 hz1 hz2 rfl (ownsRow_below hO5 hb6) hr6 (by intro h; cases h) (by have := HN.out; have := HMM.out; unfold padN at this; omega) (Nat.le_trans hB.out.size hb56.size)
      have hb7 := below_own (Below.step hB.out hb56) (ownsRow_below hO5 hb6) hg7 (Nat.le_trans hB.out.size hb56.size)
      have HRUN := Lib.hid hrun7
      have HO7 := Lib.hid hown7
      have HB7 := Lib.hid hb7
      clear hrun7 hown7 hg7 hb7 hr6 hlc hO5 hb6 hb56 hb5
      go_wp2_with (at_builtin; refine Lib.wpList_append_run _ rfl _ _ _ _ rfl _ _ rfl rfl _ _ HRUN.out ?_)
      go_ret
      refine ⟨v7, rfl, ?_, HB7.out⟩
      have h7 := HO7.out
      rw [padL_length, hl, show n + 9 + padN n = m + 8 by have := HMM.out; omega]
      unfold padL
      rw [hl, List.map_append]
      exact h7
end Go.Proofs.YtofadpodlaakbaaGreat
