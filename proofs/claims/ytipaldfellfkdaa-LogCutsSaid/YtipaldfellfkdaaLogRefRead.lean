/- The walk of the reference's Read. -/
import Derived.Test.YtipaldfellfkdaaLogRef2
import Derived.BigQuiet
namespace Go.Proofs.Ytipaldfellfkdaa
open Go.ChangeShapes Go.WideShapes Go.ChangeAt Go.RowKit
set_option linter.unusedVariables false

theorem recF_length {b : List UInt8} (h : lenF b ≤ b.length) : (recF b).length = numF b := by
  unfold lenF at h
  unfold recF
  rw [List.length_take, List.length_drop]; omega
/-- What is framed again is what was read just if the sum is right. -/
theorem frame_again {b : List UInt8} (h1 : atF b ≠ 0) (h3 : lenF b ≤ b.length) : (frameL (recF b)).length = lenF b ∧ (frameL (recF b) = b.take (lenF b) ↔ sum4 (recF b) = tailF b) := by
  obtain ⟨g1, g2, g3, _⟩ := getL_got (l := b) (m := numF b) (k := atF b) rfl h1
  have hl := recF_length h3
  have e : b.take (lenF b) = numL (numF b) ++ recF b ++ tailF b := by
    unfold lenF recF tailF
    rw [List.take_add, List.take_add, g1]
  refine ⟨by rw [frameL_length, hl, ← g2]; rfl, ?_⟩
  rw [e]
  unfold frameL
  rw [hl]
  constructor
  · intro h; exact List.append_cancel_left h
  · intro h; rw [h]

set_option maxRecDepth 100000 in
set_option maxHeartbeats 4000000 in
theorem read_ref (a : Option Addr) (n c : Nat) (l : List UInt8) (w : World) (hr : Rd w a n c l) (hac : a = none → c = 0) (hn : n ≤ 20000) : Calls Try.prog 11 #[.slice a n c] w fun e w' =>
    ∃ v xs, e = .returned (.tuple #[v, .int .i64 ((readL l).2 : Int)]) ∧ w'.ownsRow w.heap.size 22 1 v (readL l).1.length xs ∧ Recs w' w.heap.size xs (readL l).1 ∧ Below w.heap.size w w' := by
  obtain ⟨i0, hi, hz0, hz1, hz2⟩ := info_parts info_bs
  obtain ⟨i1, ji, jz0, jz1, jz2⟩ := info_parts info_u8
  have HIB := Lib.hid (show Try.prog.info? 22 = some i0 ∧ i0.zero = some (.slice none 0 0) ∧ i0.size = 1 ∧ i0.bytes = 24 from ⟨hi, hz0, hz1, hz2⟩)
  have HIU := Lib.hid (show Try.prog.info? 5 = some i1 ∧ i1.zero = some (.int .u8 0) ∧ i1.size = 1 ∧ i1.bytes = 1 from ⟨ji, jz0, jz1, jz2⟩)
  have hlen := hr.len
  clear hi hz0 hz1 hz2 ji jz0 jz1 jz2
  go_enter Try.func11, Try.ntmps11
  go_wp2_with fail
  go_loopw [4, 5, 6, 7, 8, 9, 10] (fun v4 v5 v6 v7 v8 v9 v10 wr => ∃ (p : Nat) (xs : List Value) (done : List (List UInt8)), v5 = .int .i64 (p : Int) ∧ p ≤ n ∧ Hid (done ++ (readL (l.drop p)).1 = (readL l).1) ∧ Hid (p + (readL (l.drop p)).2 = (readL l).2) ∧ Hid (wr.ownsRow w.heap.size 22 1 v4 done.length xs) ∧ Hid (done.length ≤ p) ∧ Hid (Recs wr w.heap.size xs done) ∧ Hid (Below w.heap.size w wr))
    (fun _ v5 _ _ _ _ _ _ => n - (intOf v5).toNat)
  case atStart => exact ⟨0, [], [], rfl, by omega, Lib.hid rfl, Lib.hid (Nat.zero_add _), Lib.hid ⟨rfl, .inl ⟨rfl, rfl⟩⟩, Lib.hid (Nat.le_refl _), Lib.hid ⟨rfl, fun i hi => absurd hi (by simp)⟩, Lib.hid (Below.refl _ _)⟩
  case round =>
    obtain ⟨p, xs, done, rfl, hp, hR, hU, hO, HDL, hX, hB⟩ := hrel
    obtain ⟨a6, hs6, hR6, hac6⟩ := hr.sl hac p hp
    obtain ⟨b, hb⟩ : ∃ b, b = l.drop p := ⟨_, rfl⟩
    have hrb : Rd wr a6 (n - p) (c - p) b := by
      have := hR6 n hp (Nat.le_refl _) wr (hr.below hB.out)
      rwa [List.take_of_length_le (by omega), ← hb] at this
    have hblen : b.length = n - p := hrb.len
    rw [← hb] at hR hU
    have HNO := Lib.hid (show ¬ okF b → (readL l).1 = done ∧ (readL l).2 = p from fun h => by
      have h1 := hR.out; have h2 := hU.out
      rw [readL_no h] at h1 h2
      exact ⟨by simpa using h1.symm, by simpa using h2.symm⟩)
    by_cases hpn : p < n
    case neg =>
      have hno := HNO.out (fun h => by have := h.2.2.1; unfold lenF at this; omega)
      have hpi : ¬ (p : Int) < (n : Int) := by omega
      have H0 := Lib.hid hno
      clear hno hs6 hR6 hac6 hrb hr hac
      go_wp2_with fail
      go_ret2
      exact ⟨u4, by rw [H0.out.2]; rfl, xs, by rw [H0.out.1]; exact hO.out, by rw [H0.out.1]; exact hX.out, hB.out⟩
    have hpi : (p : Int) < (n : Int) := by omega
    have hsl1 : ∀ w', (Instr.sliceAt 22 (.slice a n c) (some (.int .i64 (p : Int))) none none).run Try.prog w' = .ok (.slice a6 (n - p) (c - p)) w' := fun w' => by rw [slice_at, slice_l w' a n c p hp, hs6]
    have hsl2 : ∀ w', (Instr.slice 22 (.slice a n c) (some (.int .i64 (p : Int))) none none).run Try.prog w' = .ok (.slice a6 (n - p) (c - p)) w' := fun w' => by rw [slice_l w' a n c p hp, hs6]
    obtain ⟨m, hm⟩ : ∃ m, m = n - p := ⟨_, rfl⟩
    obtain ⟨c6, hc6⟩ : ∃ c6, c6 = c - p := ⟨_, rfl⟩
    rw [← hm] at hrb hblen hsl1 hsl2
    rw [← hc6] at hrb hsl1 hsl2 hac6
    have HP := Lib.hid (show p ≤ n ∧ m = n - p ∧ b = l.drop p ∧ l.length = n ∧ n ≤ 20000 from ⟨hp, hm, hb, hlen, hn⟩)
    have HA := Lib.hid (show (a = none → c = 0) ∧ (a6 = none → c6 = 0) from ⟨hac, hac6⟩)
    have HRL := Lib.hid hr
    have HRB := Lib.hid hrb
    have hp20 : (p : Int) ≤ 20000 := by omega
    have hn20 : n ≤ 20000 := by omega
    have hm20 : m ≤ 20000 := by omega
    clear hm hc6 hb hp hac hac6 hs6 hR6 hr hlen hpn hn
    have HG := Lib.hid (show (getL b).1 = numF b ∧ (getL b).2 = atF b from ⟨rfl, rfl⟩)
    obtain ⟨N, hN⟩ : ∃ N, N = numF b := ⟨_, rfl⟩
    obtain ⟨k, hk⟩ : ∃ k, k = atF b := ⟨_, rfl⟩
    have hk10 : k ≤ 10 := by rw [hk]; exact getL_le10 b
    have hkm : k ≤ m := by rw [hk, ← hblen]; exact getL_le b
    have HNK := Lib.hid (show N = numF b ∧ k = atF b from ⟨hN, hk⟩)
    clear hN hk hrb
    go_wp2_with fail
    clear hsl1 hsl2
    refine (get_ref a6 m c6 b _ HRB.out (by omega)).mono ?_
    rintro e w1 ⟨rfl, hb1⟩
    rw [HG.out.1, HG.out.2, ← HNK.out.1, ← HNK.out.2]
    have HRB1 := Lib.hid (HRB.out.below hb1)
    have HRL1 := Lib.hid ((HRL.out.below hB.out).below hb1)
    have HO1 := Lib.hid (ownsRow_below hO.out hb1)
    have HX1 := Lib.hid (recs_below hX.out hb1)
    have HB1 := Lib.hid (hB.out.step hb1)
    clear hb1 hO hX hB HRB HRL
    by_cases hk0 : k = 0
    · have hno := HNO.out (fun h => h.1 (by rw [← HNK.out.2]; exact hk0))
      have hki : (k : Int) = 0 := by omega
      have H0 := Lib.hid hno
      clear hno
      go_wp2_with fail
      go_ret2
      exact ⟨u4, xs, by rw [H0.out.2]; rfl, by rw [H0.out.1]; exact HO1.out, by rw [H0.out.1]; exact HX1.out, HB1.out⟩
    have hki : ¬ (k : Int) = 0 := by omega
    by_cases hbig : 4000 < N
    · have hno := HNO.out (fun h => by have := h.2.1; rw [← HNK.out.1] at this; omega)
      have hbi : (4000 : Int) < (N : Int) := by omega
      have H0 := Lib.hid hno
      clear hno
      go_wp2_with fail
      go_ret2
      exact ⟨u4, xs, by rw [H0.out.2]; rfl, by rw [H0.out.1]; exact HO1.out, by rw [H0.out.1]; exact HX1.out, HB1.out⟩
    have hbi : ¬ (4000 : Int) < (N : Int) := by omega
    have hN4 : (N : Int) ≤ 4000 := by omega
    by_cases hsh : m < k + N + 4
    · have hno := HNO.out (fun h => by have := h.2.2.1; unfold lenF at this; rw [← HNK.out.1, ← HNK.out.2] at this; omega)
      have hsi : (n : Int) < (p : Int) + (k : Int) + (N : Int) + 4 := by have := HP.out; omega
      have H0 := Lib.hid hno
      clear hno
      go_wp2_with fail
      go_ret2
      exact ⟨u4, xs, by rw [H0.out.2]; rfl, by rw [H0.out.1]; exact HO1.out, by rw [H0.out.1]; exact HX1.out, HB1.out⟩
    have hsi : ¬ (n : Int) < (p : Int) + (k : Int) + (N : Int) + 4 := by have := HP.out; omega
    have HE0 := Lib.hid (frame_again (b := b) (by rw [← HNK.out.2]; exact hk0) (by unfold lenF; rw [← HNK.out.1, ← HNK.out.2, hblen]; omega))
    have hlF : lenF b = k + N + 4 := by unfold lenF; rw [← HNK.out.1, ← HNK.out.2]
    rw [hlF] at HE0
    obtain ⟨a6, hs6, hR6, hac6⟩ := HRL1.out.sl HA.out.1 p HP.out.1
    obtain ⟨a9, hs9, hR9, hac9⟩ := HRL1.out.sl HA.out.1 (p + k) (by have := HP.out; omega)
    have hr9 : Rd w1 a9 N (c - (p + k)) (recF b) := by
      have := hR9 (p + k + N) (by omega) (by have := HP.out; omega) w1 HRL1.out
      rw [Nat.add_sub_cancel_left] at this
      have e : (List.take (p + k + N) l).drop (p + k) = recF b := by unfold recF; rw [← HNK.out.1, ← HNK.out.2, HP.out.2.2.1, List.drop_take, Nat.add_sub_cancel_left, List.drop_drop]
      rwa [e] at this
    obtain ⟨F, hF⟩ : ∃ F, F = k + N + 4 := ⟨_, rfl⟩
    rw [← hF] at HE0
    have hr6 : ∀ w', Rd w' a n c l → Rd w' a6 F (c - p) (b.take F) := fun w' h => by
      have := hR6 (p + F) (by omega) (by have := HP.out; omega) w' h
      rw [Nat.add_sub_cancel_left] at this
      have e : (List.take (p + F) l).drop p = b.take F := by rw [HP.out.2.2.1, List.drop_take, Nat.add_sub_cancel_left]
      rwa [e] at this
    have hnc : n ≤ c := HRL1.out.le
    have e9 : ∀ w', (Instr.sliceAt 22 (.slice a n c) (some (.int .i64 ((p + k : Nat) : Int))) (some (.int .i64 ((p + k + N : Nat) : Int))) none).run Try.prog w' = .ok (.slice a9 N (c - (p + k))) w' := fun w' => by rw [slice_at, slice_lh w' a n c (p + k) (p + k + N) (by omega) (by have := HP.out; omega), hs9, Nat.add_sub_cancel_left]
    have e9' : ∀ w', (Instr.slice 22 (.slice a n c) (some (.int .i64 ((p + k : Nat) : Int))) (some (.int .i64 ((p + k + N : Nat) : Int))) none).run Try.prog w' = .ok (.slice a9 N (c - (p + k))) w' := fun w' => by rw [slice_lh w' a n c (p + k) (p + k + N) (by omega) (by have := HP.out; omega), hs9, Nat.add_sub_cancel_left]
    have e6 : ∀ w', (Instr.sliceAt 22 (.slice a n c) (some (.int .i64 (p : Int))) (some (.int .i64 ((p + F : Nat) : Int))) none).run Try.prog w' = .ok (.slice a6 F (c - p)) w' := fun w' => by rw [slice_at, slice_lh w' a n c p (p + F) (by omega) (by have := HP.out; omega), hs6, Nat.add_sub_cancel_left]
    have e6' : ∀ w', (Instr.slice 22 (.slice a n c) (some (.int .i64 (p : Int))) (some (.int .i64 ((p + F : Nat) : Int))) none).run Try.prog w' = .ok (.slice a6 F (c - p)) w' := fun w' => by rw [slice_lh w' a n c p (p + F) (by omega) (by have := HP.out; omega), hs6, Nat.add_sub_cancel_left]
    obtain ⟨pk, hpk⟩ : ∃ x, x = p + k := ⟨_, rfl⟩
    obtain ⟨pkN, hpkN⟩ : ∃ x, x = pk + N := ⟨_, rfl⟩
    obtain ⟨pF, hpF⟩ : ∃ x, x = p + F := ⟨_, rfl⟩
    rw [← hpk, ← hpkN] at e9 e9'
    rw [← hpk] at hr9 hac9
    rw [← hpF] at e6 e6'
    have q1 : IntKind.i64.wrap ((p : Int) + (k : Int)) = (pk : Int) := by rw [IntWalk.i64_in _ ⟨by omega, by omega⟩]; omega
    have q2 : IntKind.i64.wrap ((pk : Int) + (N : Int)) = (pkN : Int) := by rw [IntWalk.i64_in _ ⟨by omega, by omega⟩]; omega
    have q3 : IntKind.i64.wrap ((p : Int) + (F : Int)) = (pF : Int) := by rw [IntWalk.i64_in _ ⟨by omega, by omega⟩]; omega
    have hg1 : ((k : Int) == 0) = false := by simp; omega
    have hg2 : decide ((4000 : Int) < (N : Int)) = false := by simp; omega
    have hg3 : decide ((n : Int) < (pkN : Int) + 4) = false := by simp; omega
    have HRL2 := Lib.hid (show Recs w1 w.heap.size xs done from HX1.out)
    obtain ⟨v8, w8, hrun8, hown8, hb8⟩ := run_copy2 HIU.out.1 HIU.out.2.1 HIU.out.2.2.1 HIU.out.2.2.2 hr9 hac9 (by omega)
    obtain ⟨a8, c8, rfl, hr8⟩ := Rd.of_own hown8
    have hac8 := own_none hown8
    have H8 := Lib.hid (show w8.ownsRow w1.heap.size 5 1 (.slice a8 N c8) N ((recF b).map B) ∧ Rd w8 a8 N c8 (recF b) ∧ (a8 = none → c8 = 0) from ⟨hown8, hr8, hac8⟩)
    have HB8 := Lib.hid hb8
    have HRUN8 := Lib.hid hrun8
    have H6 := Lib.hid hr6
    have HF := Lib.hid (show F = k + N + 4 ∧ pk = p + k ∧ pkN = pk + N ∧ pF = p + F ∧ k ≠ 0 ∧ N ≤ 4000 from ⟨hF, hpk, hpkN, hpF, hk0, by omega⟩)
    have hpkN5 : (pkN : Int) ≤ 25000 := by have := HP.out; omega
    have hpF5 : pF ≤ n := by have := HP.out; omega
    clear hs6 hR6 hac6 hs9 hR9 hac9 hr9 hr6 hrun8 hown8 hb8 hr8 hac8 hsi hpkN hpk hpF hF hlF hblen
    go_wp2_with (at_builtin; refine Lib.wpList_append_run _ rfl _ _ _ _ rfl _ _ rfl rfl _ _ HRUN8.out ?_)
    clear e9 e9' q1 q2 hg1 hg2 hg3 HRUN8
    refine (frame_ref a8 N c8 (recF b) w8 H8.out.2.1 H8.out.2.2 (by omega)).mono ?_
    rintro e w3 ⟨v9, rfl, hown9, hb9⟩
    rw [HE0.out.1] at hown9
    obtain ⟨aF, cF, rfl, hrF⟩ := Rd.of_own hown9
    have HSF := Lib.hid (fun q => str_drew hrF q)
    have hb13 := HB8.out.step hb9
    have HS6 := Lib.hid (fun q => str_drew (H6.out w3 (HRL1.out.below hb13)) q)
    have HO3 := Lib.hid (ownsRow_below HO1.out hb13)
    have HX3 := Lib.hid (recs_below HX1.out hb13)
    have HB3 := Lib.hid (HB1.out.step hb13)
    have HW8 := Lib.hid (ownsRow_mono (ownsRow_below H8.out.1 hb9) HB1.out.size)
    clear hown9 hrF hb9 hb13 HO1 HX1 HB8 HRL1 HRL2 HRB1 H6 H8
    obtain ⟨X, hX⟩ : ∃ X, X = frameL (recF b) := ⟨_, rfl⟩
    obtain ⟨Y, hY⟩ : ∃ Y, Y = b.take F := ⟨_, rfl⟩
    rw [← hX] at HSF
    rw [← hY] at HS6
    rw [← hX, ← hY] at HE0
    clear hX hY
    have hsF := HSF.out
    have hs6 := HS6.out
    clear HSF HS6
    by_cases hXY : X = Y
    · subst hXY
      have hok : okF b := ⟨by rw [← HNK.out.2]; exact HF.out.2.2.2.2.1, by rw [← HNK.out.1]; exact HF.out.2.2.2.2.2, by have := HF.out; have := HP.out; unfold lenF; rw [← HNK.out.1, ← HNK.out.2, this.2.2.1, List.length_drop]; omega, HE0.out.2.1 rfl⟩
      have HOK := Lib.hid hok
      clear hok HE0 HNO
      go_wp2_with fail
      go_quiet (fail)
      rename_i K8 hK8
      refine hK8 _ _ ?_
      clear hK8 K8
      obtain ⟨wd, hwd⟩ : ∃ wd, wd = w3.drewN nq := ⟨_, rfl⟩
      rw [← hwd]
      have hbw : Below w3.heap.size w3 wd := by rw [hwd]; exact below_drewNw w3 nq
      clear hwd hsF hs6
      obtain ⟨R, hR'⟩ : ∃ R, R = (recF b).length := ⟨_, rfl⟩
      have hRN : (recF b).length = N := by have := HF.out; have := HP.out; rw [recF_length (by unfold lenF; rw [← HNK.out.1, ← HNK.out.2, this.2.2.1, List.length_drop]; omega), ← HNK.out.1]
      obtain ⟨v7, w7, hrun7, hown7, hrec7, hbel7⟩ := app_rec (a11 := a8) (c11 := c8) HIB.out.1 HIB.out.2.1 HIB.out.2.2.1 HIB.out.2.2.2 (HB3.out.step hbw) (ownsRow_below HO3.out hbw) (recs_below HX3.out hbw) (r := recF b) (by rw [hRN]; exact ownsRow_below HW8.out hbw) (by have := HDL.out; omega)
      rw [hRN] at hrun7 hown7 hrec7
      have HRUN := Lib.hid hrun7
      have HE := Lib.hid (show w7.ownsRow w.heap.size 22 1 v7 (done ++ [recF b]).length (xs ++ [.slice a8 N c8]) ∧ Recs w7 w.heap.size (xs ++ [.slice a8 N c8]) (done ++ [recF b]) ∧ Below w.heap.size w w7 from ⟨by rw [List.length_append]; exact hown7, hrec7, hbel7⟩)
      clear hrun7 hown7 hrec7 hbel7 hbw hRN hR'
      go_wp2_with (at_builtin; refine Lib.wpList_append_run _ rfl _ _ _ _ rfl _ _ rfl rfl _ _ HRUN.out ?_)
      have hlF : lenF b = F := by have := HF.out.1; unfold lenF; rw [← HNK.out.1, ← HNK.out.2]; exact this.symm
      have hbd : b.drop (lenF b) = l.drop (p + F) := by rw [hlF, HP.out.2.2.1, List.drop_drop]
      have hRO := readL_ok HOK.out
      rw [hbd, hlF] at hRO
      have h1 := hR.out
      have h2 := hU.out
      rw [hRO] at h1 h2
      have hF4 := HF.out
      refine ⟨⟨pF, xs ++ [.slice a8 N c8], done ++ [recF b], rfl, hpF5, Lib.hid ?_, Lib.hid ?_, Lib.hid HE.out.1, Lib.hid ?_, Lib.hid HE.out.2.1, Lib.hid HE.out.2.2⟩, ?_⟩
      · rw [List.append_assoc, hF4.2.2.2.1]; exact h1
      · rw [hF4.2.2.2.1, Nat.add_assoc]; exact h2
      · have := HDL.out; simp; omega
      · simp [intOf]; omega
    · have hno := HNO.out (fun h => hXY (HE0.out.2.2 h.2.2.2))
      have H0 := Lib.hid hno
      clear hno HE0 HNO
      have hXY2 : (X == Y) = false := by simpa using hXY
      go_wp2_with fail
      go_quiet (fail)
      rename_i K8 hK8
      refine hK8 _ _ ?_
      clear hK8 K8
      obtain ⟨wd, hwd⟩ : ∃ wd, wd = w3.drewN nq := ⟨_, rfl⟩
      rw [← hwd]
      have hbw : Below w3.heap.size w3 wd := by rw [hwd]; exact below_drewNw w3 nq
      clear hwd hsF hs6
      go_wp2_with fail
      go_ret2
      exact ⟨u4, xs, by rw [H0.out.2]; rfl, by rw [H0.out.1]; exact ownsRow_below HO3.out hbw, by rw [H0.out.1]; exact recs_below HX3.out hbw, HB3.out.step hbw⟩
end Go.Proofs.Ytipaldfellfkdaa
