/- The walk of log.Read. -/
import Derived.Test.YtipaldfellfkdaaLogSl
namespace Go.Proofs.Ytipaldfellfkdaa
open Go.ChangeShapes Go.WideShapes Go.ChangeAt Go.RowKit
set_option linter.unusedVariables false

set_option maxRecDepth 100000 in
set_option maxHeartbeats 4000000 in
theorem read_any (a : Option Addr) (n c : Nat) (l : List UInt8) (w : World) (hr : Rd w a n c l) (hac : a = none → c = 0) (hn : n ≤ 20000) : Calls Try.prog 10 #[.slice a n c] w fun e w' =>
    ∃ v xs, e = .returned (.tuple #[v, .int .i64 ((readL l).2 : Int)]) ∧ w'.ownsRow w.heap.size 22 1 v (readL l).1.length xs ∧ Recs w' w.heap.size xs (readL l).1 ∧ Below w.heap.size w w' := by
  obtain ⟨i0, hi, hz0, hz1, hz2⟩ := info_parts info_bs
  have hlen := hr.len
  go_enter Try.func10, Try.ntmps10
  go_upto_region 3 with fail
  refine wp_scope_once (a0 := ⟨#[.slice a n c, undef, .slice none 0 0, .int .i64 0, .slice none 0 0, .int .i64 0, undef, undef, undef, undef, undef, undef, undef, undef, undef, undef, undef, undef, undef, undef, undef, undef, undef, undef, undef, undef, undef, undef, undef, undef, undef, undef, undef, undef, undef, undef, undef, undef, undef, undef, undef, undef, undef, undef, undef, undef, undef, undef, undef, undef, undef, undef, undef, undef, undef, undef, undef, undef, undef, undef, undef, undef, undef, undef, undef, undef, undef, undef, undef, undef, undef], []⟩) (w0 := w) 0 (fun a' w' => ∃ (p : Nat) (v4 : Value) (xs : List Value) (done : List (List UInt8)) (u6 u7 u8 u9 u10 u11 u12 u13 u14 u15 u16 u17 u18 u19 u20 u21 u22 u23 u24 u25 u26 u27 u28 u29 u30 u31 u32 u33 u34 u35 u36 u37 u38 u39 u40 u41 u42 u43 u44 u45 u46 u47 u48 u49 u50 u51 u52 u53 u54 u55 u56 u57 u58 u59 u60 u61 u62 u63 u64 u65 u66 u67 u68 u69 u70 : Value), a' = ⟨#[.slice a n c, undef, .slice none 0 0, .int .i64 0, v4, .int .i64 (p : Int), u6, u7, u8, u9, u10, u11, u12, u13, u14, u15, u16, u17, u18, u19, u20, u21, u22, u23, u24, u25, u26, u27, u28, u29, u30, u31, u32, u33, u34, u35, u36, u37, u38, u39, u40, u41, u42, u43, u44, u45, u46, u47, u48, u49, u50, u51, u52, u53, u54, u55, u56, u57, u58, u59, u60, u61, u62, u63, u64, u65, u66, u67, u68, u69, u70], []⟩ ∧ p ≤ n ∧ Hid (done ++ (readL (l.drop p)).1 = (readL l).1) ∧ Hid (p + (readL (l.drop p)).2 = (readL l).2) ∧ Hid (w'.ownsRow w.heap.size 22 1 v4 done.length xs) ∧ Hid (done.length ≤ p) ∧ Hid (Recs w' w.heap.size xs done) ∧ Hid (Below w.heap.size w w'))
    (fun a' _ => n - (intOf (a'.tmps.getD 5 undef)).toNat) rfl ?_ ?_ ?_
  · intro Q' hrest
    go_wp2_with fail
    go_step3
    rename_i K hK
    exact hK _ _ hrest
  · exact ⟨0, .slice none 0 0, [], [], _, _, _, _, _, _, _, _, _, _, _, _, _, _, _, _, _, _, _, _, _, _, _, _, _, _, _, _, _, _, _, _, _, _, _, _, _, _, _, _, _, _, _, _, _, _, _, _, _, _, _, _, _, _, _, _, _, _, _, _, _, _, _, _, _, rfl, by omega, rfl, Nat.zero_add _, ⟨rfl, .inl ⟨rfl, rfl⟩⟩, Nat.le_refl _, ⟨rfl, fun i hi => absurd hi (by simp)⟩, Below.refl _ _⟩
  · rintro a' w' ⟨p, v4, xs, done, u6, u7, u8, u9, u10, u11, u12, u13, u14, u15, u16, u17, u18, u19, u20, u21, u22, u23, u24, u25, u26, u27, u28, u29, u30, u31, u32, u33, u34, u35, u36, u37, u38, u39, u40, u41, u42, u43, u44, u45, u46, u47, u48, u49, u50, u51, u52, u53, u54, u55, u56, u57, u58, u59, u60, u61, u62, u63, u64, u65, u66, u67, u68, u69, u70, rfl, hp, hR, hU, hO, HDL, hX, hB⟩
    obtain ⟨a6, hs6, hR6, hac6⟩ := hr.sl hac p hp
    obtain ⟨b, hb⟩ : ∃ b, b = l.drop p := ⟨_, rfl⟩
    have hrb : Rd w' a6 (n - p) (c - p) b := by
      have := hR6 n hp (Nat.le_refl _) w' (hr.below hB.out)
      rwa [List.take_of_length_le (by omega), ← hb] at this
    have hblen : b.length = n - p := hrb.len
    have hsl1 : ∀ w', (Instr.sliceAt 22 (.slice a n c) (some (.int .i64 (p : Int))) none none).run Try.prog w' = .ok (.slice a6 (n - p) (c - p)) w' := fun w' => by rw [slice_at, slice_l w' a n c p hp, hs6]
    have hsl2 : ∀ w', (Instr.slice 22 (.slice a n c) (some (.int .i64 (p : Int))) none none).run Try.prog w' = .ok (.slice a6 (n - p) (c - p)) w' := fun w' => by rw [slice_l w' a n c p hp, hs6]
    rw [← hb] at hR hU
    obtain ⟨m, hm⟩ : ∃ m, m = n - p := ⟨_, rfl⟩
    obtain ⟨c6, hc6⟩ : ∃ c6, c6 = c - p := ⟨_, rfl⟩
    rw [← hm] at hrb hblen hsl1 hsl2
    rw [← hc6] at hrb hsl1 hsl2 hac6
    have HP := Lib.hid (show p ≤ n ∧ m = n - p ∧ b = l.drop p ∧ l.length = n from ⟨hp, hm, hb, hlen⟩)
    have HA := Lib.hid (show (a = none → c = 0) ∧ (a6 = none → c6 = 0) from ⟨hac, hac6⟩)
    have HRL := Lib.hid hr
    have hp20 : (p : Int) ≤ 20000 := by omega
    have hm20 : m ≤ 20000 := by omega
    clear hm hc6 hb hp hac hac6 hs6 hR6 hr hlen
    have HG := Lib.hid (show (getL b).1 = numF b ∧ (getL b).2 = atF b from ⟨rfl, rfl⟩)
    obtain ⟨N, hN⟩ : ∃ N, N = numF b := ⟨_, rfl⟩
    obtain ⟨k, hk⟩ : ∃ k, k = atF b := ⟨_, rfl⟩
    have hk10 : k ≤ 10 := by rw [hk]; exact getL_le10 b
    have hkm : k ≤ m := by rw [hk, ← hblen]; exact getL_le b
    have HNK := Lib.hid (show N = numF b ∧ k = atF b from ⟨hN, hk⟩)
    clear hN hk
    go_wp2_with fail
    clear hsl1 hsl2
    refine (get_any a6 m c6 b w' hrb (by omega)).mono ?_
    rintro e w1 ⟨rfl, rfl⟩
    rw [HG.out.1, HG.out.2, ← HNK.out.1, ← HNK.out.2]
    have HNO := Lib.hid (show ¬ okF b → (readL l).1 = done ∧ (readL l).2 = p from fun h => by
      have h1 := hR.out; have h2 := hU.out
      rw [readL_no h] at h1 h2
      exact ⟨by simpa using h1.symm, by simpa using h2.symm⟩)
    by_cases hk0 : k = 0
    · have hno := HNO.out (fun h => h.1 (by rw [← HNK.out.2]; exact hk0))
      have hki : (k : Int) = 0 := by omega
      have H0 := Lib.hid hno
      clear hno
      go_wp2_with fail
      simp only [Exit.jump]
      go_ret2
      exact ⟨v4, xs, by rw [H0.out.2]; rfl, by rw [H0.out.1]; exact hO.out, by rw [H0.out.1]; exact hX.out, hB.out⟩
    have hki : ¬ (k : Int) = 0 := by omega
    by_cases hbig : 4000 < N
    · have hno := HNO.out (fun h => by have := h.2.1; rw [← HNK.out.1] at this; omega)
      have hbi : (4000 : Int) < (N : Int) := by omega
      have H0 := Lib.hid hno
      clear hno
      go_wp2_with fail
      simp only [Exit.jump]
      go_ret2
      exact ⟨v4, xs, by rw [H0.out.2]; rfl, by rw [H0.out.1]; exact hO.out, by rw [H0.out.1]; exact hX.out, hB.out⟩
    have hbi : ¬ (4000 : Int) < (N : Int) := by omega
    have hN4 : (N : Int) ≤ 4000 := by omega
    by_cases hsh : m < k + N + 4
    · have hno := HNO.out (fun h => by have := h.2.2.1; unfold lenF at this; rw [← HNK.out.1, ← HNK.out.2] at this; omega)
      have hsi : (m : Int) < (k : Int) + (N : Int) + 4 := by omega
      have H0 := Lib.hid hno
      clear hno
      go_wp2_with fail
      simp only [Exit.jump]
      go_ret2
      exact ⟨v4, xs, by rw [H0.out.2]; rfl, by rw [H0.out.1]; exact hO.out, by rw [H0.out.1]; exact hX.out, hB.out⟩
    have hsi : ¬ (m : Int) < (k : Int) + (N : Int) + 4 := by omega
    obtain ⟨a9, hs9, hR9, hac9⟩ := hrb.sl HA.out.2 k (by omega)
    obtain ⟨a10, hs10, hR10, hac10⟩ := hrb.sl HA.out.2 (k + N) (by omega)
    have hr9 : Rd w' a9 N (c6 - k) (recF b) := by
      have := hR9 (k + N) (by omega) (by omega) w' hrb
      rw [Nat.add_sub_cancel_left] at this
      have e : (List.take (k + N) b).drop k = recF b := by unfold recF; rw [← HNK.out.1, ← HNK.out.2, List.drop_take, Nat.add_sub_cancel_left]
      rwa [e] at this
    have hr10 : Rd w' a10 (m - (k + N)) (c6 - (k + N)) (b.drop (k + N)) := by
      have := hR10 m (by omega) (Nat.le_refl _) w' hrb
      rwa [List.take_of_length_le (by omega)] at this
    have hc6 : m ≤ c6 := hrb.le
    have e9 : ∀ w', (Instr.sliceAt 22 (.slice a6 m c6) (some (.int .i64 (k : Int))) (some (.int .i64 ((k + N : Nat) : Int))) none).run Try.prog w' = .ok (.slice a9 N (c6 - k)) w' := fun w' => by rw [slice_at, slice_lh w' a6 m c6 k (k + N) (by omega) (by omega), hs9, Nat.add_sub_cancel_left]
    have e9' : ∀ w', (Instr.slice 22 (.slice a6 m c6) (some (.int .i64 (k : Int))) (some (.int .i64 ((k + N : Nat) : Int))) none).run Try.prog w' = .ok (.slice a9 N (c6 - k)) w' := fun w' => by rw [slice_lh w' a6 m c6 k (k + N) (by omega) (by omega), hs9, Nat.add_sub_cancel_left]
    have e10 : ∀ w', (Instr.sliceAt 22 (.slice a6 m c6) (some (.int .i64 ((k + N : Nat) : Int))) none none).run Try.prog w' = .ok (.slice a10 (m - (k + N)) (c6 - (k + N))) w' := fun w' => by rw [slice_at, slice_l w' a6 m c6 (k + N) (by omega), hs10]
    have e10' : ∀ w', (Instr.slice 22 (.slice a6 m c6) (some (.int .i64 ((k + N : Nat) : Int))) none none).run Try.prog w' = .ok (.slice a10 (m - (k + N)) (c6 - (k + N))) w' := fun w' => by rw [slice_l w' a6 m c6 (k + N) (by omega), hs10]
    obtain ⟨kN, hkN⟩ : ∃ x, x = k + N := ⟨_, rfl⟩
    rw [← hkN] at e9 e9' e10 e10' hr10
    have qk : IntKind.i64.wrap ((k : Int) + (N : Int)) = (kN : Int) := by rw [IntWalk.i64_in _ ⟨by omega, by omega⟩]; omega
    have qN : IntKind.i64.wrap (N : Int) = (N : Int) := IntWalk.i64_in _ ⟨by omega, by omega⟩
    have HF := Lib.hid (show kN = k + N ∧ k + N + 4 ≤ m ∧ k ≠ 0 ∧ N ≤ 4000 from ⟨hkN, by omega, hk0, by omega⟩)
    have HR9 := Lib.hid hr9
    have HR10 := Lib.hid hr10
    have HA9 := Lib.hid (show (a9 = none → c6 - k = 0) from hac9)
    have hkN5 : (kN : Int) ≤ 5000 := by omega
    have hg1 : ((k : Int) == 0) = false := by simp; omega
    have hg2 : decide ((4000 : Int) < (N : Int)) = false := by simp; omega
    have hg3 : decide ((m : Int) < (kN : Int) + 4) = false := by simp; omega
    clear hr9 hr10 hac9 hac10 hR9 hR10 hs9 hs10 hkN hsi
    go_wp2_with fail
    go_quiet (fail)
    rename_i K8 hK8
    refine hK8 _ _ ?_
    clear hK8 K8
    clear e9 e9' e10 e10' qk
    obtain ⟨wr, hwr⟩ : ∃ wr, wr = w'.drewN nq := ⟨_, rfl⟩
    rw [← hwr]
    have hbw : Below w'.heap.size w' wr := by rw [hwr]; exact below_drewNw w' nq
    have hr10 := HR10.out.below hbw
    have HR9' := Lib.hid (HR9.out.below hbw)
    have HB' := Lib.hid (hB.out.step hbw)
    have HO' := Lib.hid (ownsRow_below hO.out hbw)
    have HX' := Lib.hid (recs_below hX.out hbw)
    clear hwr hbw HR9 HR10 hB hO hX hrb
    obtain ⟨C9, hC9⟩ : ∃ x, x = c6 - k := ⟨_, rfl⟩
    rw [← hC9] at HR9' HA9 ⊢
    obtain ⟨M, hM⟩ : ∃ x, x = m - kN := ⟨_, rfl⟩
    obtain ⟨C, hC⟩ : ∃ x, x = c6 - kN := ⟨_, rfl⟩
    rw [← hM, ← hC] at hr10 ⊢
    have hM4 : 4 ≤ M := by have := HF.out.1; have := HF.out.2.1; omega
    have hCM : M ≤ C := hr10.le
    have HMM := Lib.hid (show M = m - kN from hM)
    clear hM hC hC9
    rcases hr10.cells with h0 | ⟨b10, o10, rfl, hlt10, hc10⟩
    · omega
    obtain ⟨t0, ht0⟩ : ∃ t : Int, t = ((b.drop kN).getD 0 0).toNat := ⟨_, rfl⟩
    obtain ⟨t1, ht1⟩ : ∃ t : Int, t = ((b.drop kN).getD 1 0).toNat := ⟨_, rfl⟩
    obtain ⟨t2, ht2⟩ : ∃ t : Int, t = ((b.drop kN).getD 2 0).toNat := ⟨_, rfl⟩
    obtain ⟨t3, ht3⟩ : ∃ t : Int, t = ((b.drop kN).getD 3 0).toNat := ⟨_, rfl⟩
    have HB10 := Lib.hid hlt10
    have HT := Lib.hid (show wr.cell? ⟨b10, o10 + 0, none⟩ = some (.int .u8 t0) ∧ wr.cell? ⟨b10, o10 + 1, none⟩ = some (.int .u8 t1) ∧ wr.cell? ⟨b10, o10 + 2, none⟩ = some (.int .u8 t2) ∧ wr.cell? ⟨b10, o10 + 3, none⟩ = some (.int .u8 t3) from
      ⟨by rw [ht0]; exact hc10 0 (by omega), by rw [ht1]; exact hc10 1 (by omega), by rw [ht2]; exact hc10 2 (by omega), by rw [ht3]; exact hc10 3 (by omega)⟩)
    obtain ⟨x, hx⟩ : ∃ x, x = (sumQ (recF b)).a := ⟨_, rfl⟩
    have HSM := Lib.hid (fun (wx : World) (hbx : Below wr.heap.size wr wx) => logsum_any a9 N C9 (recF b) wx (HR9'.out.below hbx) (by have := HF.out; omega))
    rw [show sumV (recF b) = .agg #[.int .u8 (x / 16777216), .int .u8 (x / 65536 % 256), .int .u8 (x / 256 % 256), .int .u8 (x % 256)] by unfold sumV; rw [← hx]; rfl] at HSM
    obtain ⟨eqb, heqb⟩ : ∃ e : Bool, e = ([x / 16777216, x / 65536 % 256, x / 256 % 256, x % 256] == [t0, t1, t2, t3]) := ⟨_, rfl⟩
    have HEQ := Lib.hid (show ∀ w : World, (Op.equalIn 10000 37 (.agg #[.int .u8 (x / 16777216), .int .u8 (x / 65536 % 256), .int .u8 (x / 256 % 256), .int .u8 (x % 256)]) (.agg #[.int .u8 t0, .int .u8 t1, .int .u8 t2, .int .u8 t3])).run Try.prog w = .ok eqb w from fun w => by
      have := run_equalIn_arr_int (P := Try.prog) w 9998 [x / 16777216, x / 65536 % 256, x / 256 % 256, x % 256] [t0, t1, t2, t3] Try.underlying37 Try.underlying5 (by kernel_rfl) rfl rfl
      rw [← heqb] at this
      exact this)
    have HQ := Lib.hid (show eqb = true ↔ sum4 (recF b) = tailF b from eq_tail heqb hx ht0 ht1 ht2 ht3 HNK.out HF.out.1 (by rw [hblen]; exact HF.out.2.1))
    clear heqb hx ht0 ht1 ht2 ht3 hc10 hlt10 hr10
    go_upto_region 8 with fail
    refine region_inv (by kernel_rfl) (by kernel_rfl) (fun f act wx => ∃ v50 v51 v52 v53 v54 v55 v56, act = ⟨#[.slice a n c, undef, .slice none 0 0, .int .i64 0, v4, .int .i64 (p : Int), .slice a6 m c6, .int .u64 (N : Int), .int .i64 (k : Int), .slice a9 N C9, .slice (some ⟨b10, o10, none⟩) M C, .slice a n c, .int .i64 (p : Int), .slice a6 m c6, .tuple #[.int .u64 (N : Int), .int .i64 (k : Int)], .slice a6 m c6, .tuple #[.int .u64 (N : Int), .int .i64 (k : Int)], .int .u64 (N : Int), .int .i64 (k : Int), .int .i64 (k : Int), .bool false, .bool false, .int .u64 (N : Int), .bool false, .bool false, .bool false, .slice a6 m c6, .int .i64 (m : Int), .int .i64 (k : Int), .int .u64 (N : Int), .int .i64 (N : Int), .int .i64 (kN : Int), .int .i64 ((kN : Int) + 4), .bool false, .bool false, u35, u36, .slice a6 m c6, .int .i64 (k : Int), .int .i64 (k : Int), .int .u64 (N : Int), .int .i64 (N : Int), .int .i64 (kN : Int), .slice a9 N C9, .slice a6 m c6, .int .i64 (k : Int), .int .u64 (N : Int), .int .i64 (N : Int), .int .i64 (kN : Int), .slice (some ⟨b10, o10, none⟩) M C, v50, v51, v52, v53, v54, v55, v56, u57, u58, u59, u60, u61, u62, u63, u64, u65, u66, u67, u68, u69, u70], []⟩ ∧ (On f 0 → v50 = .slice a9 N C9) ∧ (On f 1 → v51 = .agg #[.int .u8 (x / 16777216), .int .u8 (x / 65536 % 256), .int .u8 (x / 256 % 256), .int .u8 (x % 256)]) ∧ (On f 2 → v52 = .slice (some ⟨b10, o10, none⟩) M C) ∧ (On f 3 → v53 = .slice (some ⟨b10, o10, none⟩) 4 C) ∧ (On f 4 → v54 = .pointer (some ⟨b10, o10, none⟩)) ∧ (On f 5 → v55 = .agg #[.int .u8 t0, .int .u8 t1, .int .u8 t2, .int .u8 t3]) ∧ (On f 6 → v56 = .bool (!eqb)) ∧ Below wr.heap.size wr wx) ?_ ?_ ?_
    · have hoff : ∀ j, ¬ On (Array.replicate 7 false) j := by
        intro j hj; simp only [On, Array.getD_eq_getD_getElem?, Array.getElem?_replicate] at hj; split at hj <;> simp at hj
      exact ⟨_, _, _, _, _, _, _, rfl, fun x => absurd x (hoff _), fun x => absurd x (hoff _), fun x => absurd x (hoff _), fun x => absurd x (hoff _), fun x => absurd x (hoff _), fun x => absurd x (hoff _), fun x => absurd x (hoff _), (Below.refl _ _).drew⟩
    · rintro i' o f act wm hio hs hn' he hI K hK
      have hi' : i' < 7 := (Array.getElem?_eq_some_iff.1 hio).1
      replace hs : f.size = 7 := hs
      obtain ⟨v50, v51, v52, v53, v54, v55, v56, rfl, p0, p1, p2, p3, p4, p5, p6, hBx⟩ := hI
      match i', hi' with
      | 0, _ =>
        cases hio
        have k : ∀ j, j ≠ 0 → On (f.setIfInBounds 0 true) j → On f j := fun j hj x => on_back (by omega) x hj
        go_simp
        exact hK _ _ ⟨_, _, _, _, _, _, _, rfl, fun _ => rfl, fun x => p1 (k _ (by decide) x), fun x => p2 (k _ (by decide) x), fun x => p3 (k _ (by decide) x), fun x => p4 (k _ (by decide) x), fun x => p5 (k _ (by decide) x), fun x => p6 (k _ (by decide) x), hBx⟩
      | 1, _ =>
        cases hio
        have k : ∀ j, j ≠ 1 → On (f.setIfInBounds 1 true) j → On f j := fun j hj x => on_back (by omega) x hj
        have h0 : On f 0 := he ⟨0, .data⟩ (by simp) rfl
        obtain rfl := p0 h0
        go_simp
        refine (HSM.out _ hBx).mono ?_
        rintro e w6 ⟨rfl, hb⟩
        exact hK _ _ ⟨_, _, _, _, _, _, _, rfl, fun x => p0 (k _ (by decide) x), fun _ => rfl, fun x => p2 (k _ (by decide) x), fun x => p3 (k _ (by decide) x), fun x => p4 (k _ (by decide) x), fun x => p5 (k _ (by decide) x), fun x => p6 (k _ (by decide) x), hBx.step hb⟩
      | 2, _ =>
        cases hio
        have k : ∀ j, j ≠ 2 → On (f.setIfInBounds 2 true) j → On f j := fun j hj x => on_back (by omega) x hj
        go_simp
        exact hK _ _ ⟨_, _, _, _, _, _, _, rfl, fun x => p0 (k _ (by decide) x), fun x => p1 (k _ (by decide) x), fun _ => rfl, fun x => p3 (k _ (by decide) x), fun x => p4 (k _ (by decide) x), fun x => p5 (k _ (by decide) x), fun x => p6 (k _ (by decide) x), hBx⟩
      | 3, _ =>
        cases hio
        have k : ∀ j, j ≠ 3 → On (f.setIfInBounds 3 true) j → On f j := fun j hj x => on_back (by omega) x hj
        have h2 : On f 2 := he ⟨2, .data⟩ (by simp) rfl
        obtain rfl := p2 h2
        go_simp
        rw [if_pos (by omega)]
        go_simp
        exact hK _ _ ⟨_, _, _, _, _, _, _, rfl, fun x => p0 (k _ (by decide) x), fun x => p1 (k _ (by decide) x), fun x => p2 (k _ (by decide) x), fun _ => rfl, fun x => p4 (k _ (by decide) x), fun x => p5 (k _ (by decide) x), fun x => p6 (k _ (by decide) x), hBx⟩
      | 4, _ =>
        cases hio
        have k : ∀ j, j ≠ 4 → On (f.setIfInBounds 4 true) j → On f j := fun j hj x => on_back (by omega) x hj
        have h3 : On f 3 := he ⟨3, .data⟩ (by simp) rfl
        obtain rfl := p3 h3
        have haa := run_arrayAt (P := Try.prog) (w := wm) 37 5 4 (some ⟨b10, o10, none⟩) 4 C under_4 (Nat.le_refl _)
        go_simp
        exact hK _ _ ⟨_, _, _, _, _, _, _, rfl, fun x => p0 (k _ (by decide) x), fun x => p1 (k _ (by decide) x), fun x => p2 (k _ (by decide) x), fun x => p3 (k _ (by decide) x), fun _ => rfl, fun x => p5 (k _ (by decide) x), fun x => p6 (k _ (by decide) x), hBx⟩
      | 5, _ =>
        cases hio
        have k : ∀ j, j ≠ 5 → On (f.setIfInBounds 5 true) j → On f j := fun j hj x => on_back (by omega) x hj
        have h4 : On f 4 := he ⟨4, .data⟩ (by simp) rfl
        obtain rfl := p4 h4
        have d0 := (hBx.cell (p := ⟨b10, o10 + 0, none⟩) HB10.out).trans HT.out.1
        have d1 := (hBx.cell (p := ⟨b10, o10 + 1, none⟩) HB10.out).trans HT.out.2.1
        have d2 := (hBx.cell (p := ⟨b10, o10 + 2, none⟩) HB10.out).trans HT.out.2.2.1
        have d3 := (hBx.cell (p := ⟨b10, o10 + 3, none⟩) HB10.out).trans HT.out.2.2.2
        rw [Nat.add_zero] at d0
        go_simp
        exact hK _ _ ⟨_, _, _, _, _, _, _, rfl, fun x => p0 (k _ (by decide) x), fun x => p1 (k _ (by decide) x), fun x => p2 (k _ (by decide) x), fun x => p3 (k _ (by decide) x), fun x => p4 (k _ (by decide) x), fun _ => rfl, fun x => p6 (k _ (by decide) x), hBx⟩
      | 6, _ =>
        cases hio
        have k : ∀ j, j ≠ 6 → On (f.setIfInBounds 6 true) j → On f j := fun j hj x => on_back (by omega) x hj
        have h1 : On f 1 := he ⟨1, .data⟩ (by simp) rfl
        have h5 : On f 5 := he ⟨5, .data⟩ (by simp) rfl
        obtain rfl := p1 h1
        obtain rfl := p5 h5
        have heq := HEQ.out
        go_simp
        exact hK _ _ ⟨_, _, _, _, _, _, _, rfl, fun x => p0 (k _ (by decide) x), fun x => p1 (k _ (by decide) x), fun x => p2 (k _ (by decide) x), fun x => p3 (k _ (by decide) x), fun x => p4 (k _ (by decide) x), fun x => p5 (k _ (by decide) x), fun _ => rfl, hBx⟩

    · rintro f act w5 hall hs ⟨v50, v51, v52, v53, v54, v55, v56, rfl, p0, p1, p2, p3, p4, p5, p6, hBx⟩
      replace hs : f.size = 7 := hs
      obtain rfl := p6 (on_all hall hs 6 (by decide))
      have BX := Lib.hid hBx
      clear p0 p1 p2 p3 p4 p5 p6 hBx hall hs HSM HEQ HT HB10
      cases eqb with
      | false =>
        have hno := HNO.out (fun h => absurd (HQ.out.2 h.2.2.2) (by decide))
        have H0 := Lib.hid hno
        clear hno
        go_wp2_with fail
        simp only [Exit.jump]
        go_ret2
        exact ⟨v4, xs, by rw [H0.out.2]; rfl, by rw [H0.out.1]; exact ownsRow_below HO'.out BX.out, by rw [H0.out.1]; exact recs_below HX'.out BX.out, HB'.out.step BX.out⟩
      | true =>
        have hok : okF b := ⟨by rw [← HNK.out.2]; exact HF.out.2.2.1, by rw [← HNK.out.1]; exact HF.out.2.2.2, by unfold lenF; rw [← HNK.out.1, ← HNK.out.2, hblen]; exact HF.out.2.1, HQ.out.1 rfl⟩
        have HOK := Lib.hid hok
        clear hok
        go_wp2_with fail
        refine (clone_any a9 N C9 (recF b) w5 (HR9'.out.below BX.out) HA9.out (by have := HF.out; omega)).mono ?_
        rintro e w6 ⟨v6, rfl, hown6, hb6⟩
        obtain ⟨a11, c11, rfl, _⟩ := Rd.of_own hown6
        obtain ⟨R, hR'⟩ : ∃ R, R = (recF b).length := ⟨_, rfl⟩
        have hbX : Below w6.heap.size w6 (w6.alloc (.cells #[.slice a11 (recF b).length c11] 22)) := (Below.refl _ _).alloc (Nat.le_refl _) _
        obtain ⟨v7, w7, hrun7, hown7, hrec7, hbel7⟩ := app_rec hi hz0 hz1 hz2 (HB'.out.step (BX.out.step hb6)) (ownsRow_below (ownsRow_below HO'.out BX.out) hb6) (recs_below (recs_below HX'.out BX.out) hb6) (ownsRow_mono hown6 (HB'.out.step BX.out).size) (by have := HDL.out; omega)
        have HRUN := Lib.hid hrun7
        have HE := Lib.hid (show w7.ownsRow w.heap.size 22 1 v7 (done ++ [recF b]).length (xs ++ [.slice a11 (recF b).length c11]) ∧ Recs w7 w.heap.size (xs ++ [.slice a11 (recF b).length c11]) (done ++ [recF b]) ∧ Below w.heap.size w w7 from ⟨by rw [List.length_append]; exact hown7, hrec7, hbel7⟩)
        clear hrun7 hown7 hrec7 hbel7 hbX hown6 hb6
        go_wp2_with (at_builtin; refine Lib.wpList_append_run _ rfl _ _ _ _ rfl _ _ rfl rfl _ _ HRUN.out ?_)
        go_step3
        have hlF : lenF b = k + N + 4 := by unfold lenF; rw [← HNK.out.1, ← HNK.out.2]
        have hbd : b.drop (lenF b) = l.drop (p + (k + N + 4)) := by rw [hlF, HP.out.2.2.1, List.drop_drop]
        have hRO := readL_ok HOK.out
        rw [hbd, hlF] at hRO
        have h1 := hR.out
        have h2 := hU.out
        rw [hRO] at h1 h2
        refine ⟨rfl, ⟨p + (k + N + 4), v7, _, done ++ [recF b], _, _, _, _, _, _, _, _, _, _, _, _, _, _, _, _, _, _, _, _, _, _, _, _, _, _, _, _, _, _, _, _, _, _, _, _, _, _, _, _, _, _, _, _, _, _, _, _, _, _, _, _, _, _, _, _, _, _, _, _, _, _, _, _, _, rfl, ?_, Lib.hid ?_, Lib.hid ?_, Lib.hid HE.out.1, Lib.hid ?_, Lib.hid HE.out.2.1, Lib.hid HE.out.2.2⟩, ?_⟩
        · have := HF.out; have := HP.out; omega
        · rw [List.append_assoc]; exact h1
        · rw [Nat.add_assoc]; exact h2
        · have := HDL.out; simp; omega
        · have := HF.out; have := HP.out
          simp [intOf]; omega
end Go.Proofs.Ytipaldfellfkdaa
