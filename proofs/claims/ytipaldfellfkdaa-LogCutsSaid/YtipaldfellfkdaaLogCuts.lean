/- The statement LogCuts, walked out of the contracts of what it calls. -/
import Derived.Test.YtipaldfellfkdaaLogTexts
import Derived.Test.YtipaldfellfkdaaLogCutPlain
import Derived.Test.YtipaldfellfkdaaLogAgain
import Derived.Test.YtipaldfellfkdaaRgFun
namespace Go.Proofs.Ytipaldfellfkdaa
open Go.ChangeShapes Go.WideShapes Go.ChangeAt Go.RowKit
set_option linter.unusedVariables false

theorem slice_ts (w : World) (a : Option Addr) (n c k : Nat) (hk : k ≤ c) : (Instr.slice 27 (.slice a n c) none (some (.int .i64 (k : Int))) none).run Try.prog w = .ok (.slice a k c) w := by
  have hs : (sizeOf (Try.prog.elem 27)).run Try.prog w = .ok 1 w := by kernel_rfl
  rw [run_slice_h (P := Try.prog) (w := w) 27 a n c (by kernel_rfl) .i64 (k : Int) (by omega) (by omega), hs]
  show Result.ok (sliced a 0 ((k : Int).toNat) c 1) w = _
  unfold sliced
  simp only [Int.toNat_natCast, Nat.sub_zero, Nat.zero_mul]
  cases a with
  | none => simp
  | some x => simp [Addr.add]
theorem slice_ts_at (w : World) (a : Option Addr) (n c k : Nat) (hk : k ≤ c) : (Instr.sliceAt 27 (.slice a n c) none (some (.int .i64 (k : Int))) none).run Try.prog w = .ok (.slice a k c) w := by
  rw [run_sliceAt_slice (P := Try.prog) (w := w) _ _ none _ none (by kernel_rfl)]; exact slice_ts w a n c k hk
theorem frame_le (x : List UInt8) (h : x.length ≤ 200) : (frameL x).length ≤ 214 := by
  rw [frameL_length]; have := numL_le10 x.length (by omega); omega
theorem frames_le (ls : List (List UInt8)) : ∀ i, i ≤ ls.length → (∀ j, j < i → (ls.getD j []).length ≤ 200) → (framesL (ls.take i)).length ≤ i * 214 := by
  intro i
  induction i with
  | zero => intro _ _; simp [framesL]
  | succ i ih =>
    intro hi h
    rw [framesL_snoc ls i hi, List.length_append]
    have := ih (by omega) (fun j hj => h j (by omega))
    have := frame_le _ (h i (Nat.lt_succ_self i))
    omega

set_option maxRecDepth 100000 in
set_option maxHeartbeats 4000000 in
theorem logCuts_walk (a : Option Addr) (n c : Nat) (ls : List (List UInt8)) (m : Int) (w : World) (hr : Txs w a n c ls) :
    Calls Try.prog 4 #[.slice a n c, .int .i64 m] w fun e w' => e = .returned (.bool true) ∧ Below w.heap.size w w' := by
  have hl3 : n ≤ 9223372036854775807 := Nat.le_trans hr.le hr.cap
  by_cases hl : n ≤ 10
  case neg =>
    have hl2 : 10 < (n : Int) := by omega
    clear hr
    go_enter Try.func4, Try.ntmps4
    go_wp2_with fail
    refine (awake_any _).mono ?_
    rintro e v1 ⟨rfl, hb1⟩
    go_wp2_with fail
    go_ret
    exact ⟨rfl, hb1⟩
  have hl2 : ¬ 10 < (n : Int) := by omega
  obtain ⟨i1, ji, jz0, jz1, jz2⟩ := info_parts info_u8
  have HIU := Lib.hid (show Try.prog.info? 5 = some i1 ∧ i1.zero = some (.int .u8 0) ∧ i1.size = 1 ∧ i1.bytes = 1 from ⟨ji, jz0, jz1, jz2⟩)
  have HR := Lib.hid hr
  clear hr ji jz0 jz1 jz2
  go_enter Try.func4, Try.ntmps4
  go_wp2_with fail
  refine (awake_any _).mono ?_
  rintro e v1 ⟨rfl, hb1⟩
  have HB1 := Lib.hid hb1
  clear hb1
  go_wp2_with fail
  go_loopw [6, 7, 8, 9, 10, 11] (fun v6 v7 v8 v9 v10 v11 wr => ∃ i : Nat, i ≤ n ∧ v7 = .int .i64 (wantN ls m i : Int) ∧ v8 = .int .i64 ((framesL (ls.take (wantN ls m i))).length : Int) ∧ v9 = .int .i64 (i : Int) ∧ Hid (wr.ownsRow w.heap.size 5 1 v6 (framesL (ls.take i)).length ((framesL (ls.take i)).map B)) ∧ Hid (∀ j, j < i → (ls.getD j []).length ≤ 200) ∧ Hid (Below w.heap.size w wr))
    (fun _ _ _ v9 _ _ _ => n - (intOf v9).toNat)
  case atStart => exact ⟨0, Nat.zero_le _, rfl, rfl, rfl, Lib.hid ⟨rfl, .inl ⟨rfl, rfl⟩⟩, Lib.hid (fun j hj => absurd hj (by omega)), HB1⟩
  case round =>
    obtain ⟨i, hi, rfl, rfl, rfl, hO, hS, hB⟩ := hrel
    by_cases hin : i < n
    case neg =>
      obtain rfl : i = n := by omega
      have hii : ¬ (i : Int) < (i : Int) := by omega
      by_cases hm : m < 0
      case pos =>
        go_wp2_with fail
        go_ret
        exact ⟨rfl, hB.out⟩
      obtain ⟨M, rfl⟩ : ∃ M : Nat, m = (M : Int) := ⟨m.toNat, by omega⟩
      have hlen := HR.out.len
      rw [List.take_of_length_le (by omega)] at hO
      obtain ⟨k, hk⟩ : ∃ k, k = wantN ls (M : Int) i := ⟨_, rfl⟩
      obtain ⟨U, hU⟩ : ∃ U, U = (framesL (ls.take k)).length := ⟨_, rfl⟩
      obtain ⟨F, hF⟩ : ∃ F, F = framesL ls := ⟨_, rfl⟩
      obtain ⟨N, hN⟩ : ∃ N, N = F.length := ⟨_, rfl⟩
      have hspec := wantN_spec ls (M : Int) (by omega) i (by omega)
      have hNle : N ≤ 2140 := by
        have := frames_le ls i (by omega) hS.out
        rw [List.take_of_length_le (by omega)] at this
        rw [hN, hF]; omega
      have hki : k ≤ i := by rw [hk]; exact wantN_le ls _ i
      rw [← hk] at hspec ⊢
      rw [← hU] at hspec ⊢
      rw [← hF, ← hN] at hO
      have hUN : U ≤ N := by rw [hU, hN, hF]; exact framesL_take ls k (by omega)
      have hUM : U ≤ M := by have := hspec.1; omega
      obtain ⟨a6, c6, rfl, hr6⟩ := Rd.of_own hO.out
      have hac6 := own_none hO.out
      by_cases hm2 : (N : Int) < (M : Int)
      case pos =>
        clear hspec hr6 hac6 hk hU hF hN hNle hUN hUM hki hlen
        go_wp2_with fail
        go_ret
        exact ⟨rfl, hB.out⟩
      have hMN : M ≤ N := by omega
      have hread : readL (F.take M) = (ls.take k, U) := by
        rw [hF, hU]
        refine readL_cuts ls M k (fun x hx => ?_) (by omega) (by rw [← hU]; exact hUM) (fun j h1 h2 => by have := hspec.2 j h1 (by omega); omega)
        obtain ⟨j, hj, rfl⟩ := List.mem_iff_getElem.1 hx
        have := hS.out j (by omega)
        rw [List.getD_eq_getElem?_getD, List.getElem?_eq_getElem hj] at this
        exact Nat.le_trans this (by decide)
      obtain ⟨X, hX⟩ : ∃ X, X = F.take M := ⟨_, rfl⟩
      obtain ⟨Z, hZ⟩ : ∃ Z, Z = F.take U := ⟨_, rfl⟩
      have hXZ : X.take U = Z := by rw [hX, hZ, List.take_take, Nat.min_eq_left hUM]
      have hZl : Z.length = U := by rw [hZ, List.length_take]; omega
      obtain ⟨T, hT⟩ : ∃ T, T = ls.take k := ⟨_, rfl⟩
      have hTl : T.length = k := by rw [hT, List.length_take]; omega
      rw [← hX, ← hT] at hread
      obtain ⟨a7, e7, e7', hR7, hac7⟩ := hr6.fr hac6 M hMN
      obtain ⟨a8, e8, e8', hR8, hac8⟩ := hr6.fr hac6 U hUN
      have H7 := Lib.hid (fun (w' : World) (h : Rd w' a6 N c6 F) => show Rd w' a7 M c6 X by rw [hX]; exact hR7 w' h)
      have H8 := Lib.hid (fun (w' : World) (h : Rd w' a6 N c6 F) => show Rd w' a8 U c6 Z by rw [hZ]; exact hR8 w' h)
      have HRD := Lib.hid (fun (w' : World) (h : Rd w' a7 M c6 X) => read_any a7 M c6 X w' h hac7 (by omega))
      have HM := Lib.hid (fun (w' : World) (h : Rd w' a7 M c6 X) => mend_any a7 M c6 X w' h hac7 (by omega))
      rw [hread] at HRD HM
      have HM2 := Lib.hid (fun (w' : World) (h : Rd w' a7 M c6 X) => show Calls Try.prog 15 #[.slice a7 M c6] w' (OwnB Z w') by rw [← hXZ]; exact HM.out w' h)
      have HT := Lib.hid (fun (w' : World) (h : Below w.heap.size w w') => show Txs w' a k c T by rw [hT]; exact (HR.out.below h).front k hki)
      have et : ∀ w', (Instr.sliceAt 27 (.slice a i c) none (some (.int .i64 (k : Int))) none).run Try.prog w' = .ok (.slice a k c) w' := fun w' => slice_ts_at w' a i c k (Nat.le_trans hki HR.out.le)
      have et' : ∀ w', (Instr.slice 27 (.slice a i c) none (some (.int .i64 (k : Int))) none).run Try.prog w' = .ok (.slice a k c) w' := fun w' => slice_ts w' a i c k (Nat.le_trans hki HR.out.le)
      have H6 := Lib.hid hr6
      have HK := Lib.hid (show k ≤ 10 ∧ T.length = k ∧ Z.length = U from ⟨by omega, hTl, hZl⟩)
      have HSz := Lib.hid hB.out.size
      clear hk hU hF hN hspec hNle hki hUN hUM hac6 hread hX hZ hXZ hZl hT hTl hR7 hR8 hac7 hac8 HM hr6 hlen hS hO HR
      go_wp2_with fail
      refine (HRD.out _ (H7.out _ H6.out)).mono ?_
      rintro e w2 ⟨x12, xs, rfl, ho, hx, hb⟩
      obtain ⟨a12, c12, rfl, ht⟩ := Txs.of_own ho hx
      rw [HK.out.2.1] at ht ⊢
      have HB2 := Lib.hid (hB.out.step hb)
      have H62 := Lib.hid (H6.out.below hb)
      have HT12 := Lib.hid ht
      clear ho hx hb ht HRD
      go_wp2_with fail
      refine (same_txs k a12 a c12 c T _ HT12.out (HT.out _ HB2.out) (Nat.le_trans HK.out.1 (by decide))).mono ?_
      rintro e w3 ⟨rfl, hb⟩
      have HB3 := Lib.hid (HB2.out.step hb)
      have H63 := Lib.hid (H62.out.below hb)
      clear hb HB2 HT12 HT H62
      obtain ⟨ZL, hZL⟩ : ∃ ZL, ZL = Z.length := ⟨_, rfl⟩
      go_upto_region 23 with fail
      have hD : ∀ j, j < 19 → ∀ n, n < 19 → j ≠ n → dkN [77, 78, 79, 80, 81, 82, 83, 84, 85, 86, 87, 88, 89, 90, 91, 92, 93, 94, 4] j ≠ dkN [77, 78, 79, 80, 81, 82, 83, 84, 85, 86, 87, 88, 89, 90, 91, 92, 93, 94, 4] n := by decide +kernel
      refine region_fun (by kernel_rfl) (by kernel_rfl) (fun gv => #[.slice a i c, .int .i64 (M : Int), undef, undef, gv 4, .bool true, .slice a6 N c6, .int .i64 (k : Int), .int .i64 (U : Int), .int .i64 (i : Int), gv 10, gv 11, .slice a12 k c12, .int .i64 (U : Int), .bool true, gv 15, gv 16, gv 17, gv 18, gv 19, gv 20, gv 21, gv 22, gv 23, gv 24, gv 25, gv 26, gv 27, gv 28, gv 29, gv 30, gv 31, gv 32, gv 33, gv 34, gv 35, gv 36, gv 37, gv 38, gv 39, gv 40, gv 41, gv 42, gv 43, gv 44, gv 45, gv 46, gv 47, gv 48, gv 49, gv 50, gv 51, gv 52, gv 53, gv 54, gv 55, gv 56, gv 57, gv 58, gv 59, gv 60, gv 61, gv 62, gv 63, gv 64, gv 65, gv 66, gv 67, gv 68, gv 69, gv 70, gv 71, gv 72, gv 73, gv 74, gv 75, gv 76, gv 77, gv 78, gv 79, gv 80, gv 81, gv 82, gv 83, gv 84, gv 85, gv 86, gv 87, gv 88, gv 89, gv 90, gv 91, gv 92, gv 93, gv 94]) rfl (fun f gv wx => Below w3.heap.size w3 wx ∧ (∀ j, j < 19 → (fun j => Nat.beq j 10) j = false → On f j → gv (dkN [77, 78, 79, 80, 81, 82, 83, 84, 85, 86, 87, 88, 89, 90, 91, 92, 93, 94, 4] j) = vkN [.bool true, .bool true, .int .i64 (U : Int), .int .i64 (U : Int), .bool true, .bool true, .bool true, .slice a6 N c6, .int .i64 (M : Int), .slice a7 M c6, undef, .string ⟨Z.toArray⟩, .slice a6 N c6, .int .i64 (U : Int), .slice a8 U c6, .string ⟨Z.toArray⟩, .bool true, .bool true, .bool true] j) ∧ (On f 10 → ∃ a9 c9, gv 87 = .slice a9 U c9 ∧ Rd wx a9 U c9 Z)) ?_ ?_ ?_
      · have hoff : ∀ j, ¬ On (Array.replicate 19 false) j := by
          intro j hj; simp only [On, Array.getD_eq_getD_getElem?, Array.getElem?_replicate] at hj; split at hj <;> simp at hj
        exact ⟨(Below.refl _ _).drew, fun j _ _ x => absurd x (hoff _), fun x => absurd x (hoff _)⟩
      · rintro i' o f gv wm hio hs' hn he ⟨hBx, P, Q10⟩ K hK
        have hi' : i' < 19 := (Array.getElem?_eq_some_iff.1 hio).1
        replace hs' : f.size = 19 := hs'
        match i', hi' with
        | 0, _ =>
          cases hio
          have HQ := Lib.hid (And.intro P Q10)
          clear P Q10
          go_simp
          exact hK (upd gv 77 (.bool true)) _ (by exact ⟨hBx, vals_step (n := 0) (v := .bool true) hD (by decide) (by omega) HQ.out.1 (fun _ => rfl), fun x => HQ.out.2 (on_back (by omega) x (by decide))⟩)
        | 1, _ =>
          cases hio
          have h0 : On f 0 := he ⟨0, .data⟩ (by simp) rfl
          have e0 : gv 77 = .bool true := P 0 (by decide) rfl h0
          rw [e0]
          have HQ := Lib.hid (And.intro P Q10)
          clear P Q10
          go_simp
          exact hK (upd (upd gv 77 (.bool true)) 78 (.bool true)) _ (by rw [upd_same e0]; exact ⟨hBx, vals_step (n := 1) (v := .bool true) hD (by decide) (by omega) HQ.out.1 (fun _ => rfl), fun x => HQ.out.2 (on_back (by omega) x (by decide))⟩)
        | 2, _ =>
          cases hio
          have h1 : On f 1 := he ⟨1, .guard⟩ (by simp) rfl
          have e1 : gv 78 = .bool true := P 1 (by decide) rfl h1
          rw [e1]
          rw [if_pos (by rfl)]
          have HQ := Lib.hid (And.intro P Q10)
          clear P Q10
          go_simp
          exact hK (upd (upd gv 78 (.bool true)) 79 (.int .i64 (U : Int))) _ (by rw [upd_same e1]; exact ⟨hBx, vals_step (n := 2) (v := .int .i64 (U : Int)) hD (by decide) (by omega) HQ.out.1 (fun _ => rfl), fun x => HQ.out.2 (on_back (by omega) x (by decide))⟩)
        | 3, _ =>
          cases hio
          have h1 : On f 1 := he ⟨1, .guard⟩ (by simp) rfl
          have e1 : gv 78 = .bool true := P 1 (by decide) rfl h1
          rw [e1]
          rw [if_pos (by rfl)]
          have HQ := Lib.hid (And.intro P Q10)
          clear P Q10
          go_simp
          exact hK (upd (upd gv 78 (.bool true)) 80 (.int .i64 (U : Int))) _ (by rw [upd_same e1]; exact ⟨hBx, vals_step (n := 3) (v := .int .i64 (U : Int)) hD (by decide) (by omega) HQ.out.1 (fun _ => rfl), fun x => HQ.out.2 (on_back (by omega) x (by decide))⟩)
        | 4, _ =>
          cases hio
          have h1 : On f 1 := he ⟨1, .guard⟩ (by simp) rfl
          have e1 : gv 78 = .bool true := P 1 (by decide) rfl h1
          have h2 : On f 2 := he ⟨2, .data⟩ (by simp) rfl
          have e2 : gv 79 = .int .i64 (U : Int) := P 2 (by decide) rfl h2
          have h3 : On f 3 := he ⟨3, .data⟩ (by simp) rfl
          have e3 : gv 80 = .int .i64 (U : Int) := P 3 (by decide) rfl h3
          rw [e1, e2, e3]
          rw [if_pos (by rfl)]
          have HQ := Lib.hid (And.intro P Q10)
          clear P Q10
          go_simp
          exact hK (upd (upd (upd (upd gv 78 (.bool true)) 79 (.int .i64 (U : Int))) 80 (.int .i64 (U : Int))) 81 (.bool true)) _ (by rw [upd_same e1]; rw [upd_same e2]; rw [upd_same e3]; exact ⟨hBx, vals_step (n := 4) (v := .bool true) hD (by decide) (by omega) HQ.out.1 (fun _ => rfl), fun x => HQ.out.2 (on_back (by omega) x (by decide))⟩)
        | 5, _ =>
          cases hio
          have h1 : On f 1 := he ⟨1, .data⟩ (by simp) rfl
          have e1 : gv 78 = .bool true := P 1 (by decide) rfl h1
          have h4 : On f 4 := he ⟨4, .data⟩ (by simp) rfl
          have e4 : gv 81 = .bool true := P 4 (by decide) rfl h4
          rw [e1, e4]
          have HQ := Lib.hid (And.intro P Q10)
          clear P Q10
          go_simp
          exact hK (upd (upd (upd gv 78 (.bool true)) 81 (.bool true)) 82 (.bool true)) _ (by rw [upd_same e1]; rw [upd_same e4]; exact ⟨hBx, vals_step (n := 5) (v := .bool true) hD (by decide) (by omega) HQ.out.1 (fun _ => rfl), fun x => HQ.out.2 (on_back (by omega) x (by decide))⟩)
        | 6, _ =>
          cases hio
          have h5 : On f 5 := he ⟨5, .data⟩ (by simp) rfl
          have e5 : gv 82 = .bool true := P 5 (by decide) rfl h5
          rw [e5]
          have HQ := Lib.hid (And.intro P Q10)
          clear P Q10
          go_simp
          exact hK (upd (upd gv 82 (.bool true)) 83 (.bool true)) _ (by rw [upd_same e5]; exact ⟨hBx, vals_step (n := 6) (v := .bool true) hD (by decide) (by omega) HQ.out.1 (fun _ => rfl), fun x => HQ.out.2 (on_back (by omega) x (by decide))⟩)
        | 7, _ =>
          cases hio
          have h6 : On f 6 := he ⟨6, .guard⟩ (by simp) rfl
          have e6 : gv 83 = .bool true := P 6 (by decide) rfl h6
          rw [e6]
          rw [if_pos (by rfl)]
          have HQ := Lib.hid (And.intro P Q10)
          clear P Q10
          go_simp
          exact hK (upd (upd gv 83 (.bool true)) 84 (.slice a6 N c6)) _ (by rw [upd_same e6]; exact ⟨hBx, vals_step (n := 7) (v := .slice a6 N c6) hD (by decide) (by omega) HQ.out.1 (fun _ => rfl), fun x => HQ.out.2 (on_back (by omega) x (by decide))⟩)
        | 8, _ =>
          cases hio
          have h6 : On f 6 := he ⟨6, .guard⟩ (by simp) rfl
          have e6 : gv 83 = .bool true := P 6 (by decide) rfl h6
          rw [e6]
          rw [if_pos (by rfl)]
          have HQ := Lib.hid (And.intro P Q10)
          clear P Q10
          go_simp
          exact hK (upd (upd gv 83 (.bool true)) 85 (.int .i64 (M : Int))) _ (by rw [upd_same e6]; exact ⟨hBx, vals_step (n := 8) (v := .int .i64 (M : Int)) hD (by decide) (by omega) HQ.out.1 (fun _ => rfl), fun x => HQ.out.2 (on_back (by omega) x (by decide))⟩)
        | 9, _ =>
          cases hio
          have h6 : On f 6 := he ⟨6, .guard⟩ (by simp) rfl
          have e6 : gv 83 = .bool true := P 6 (by decide) rfl h6
          have h7 : On f 7 := he ⟨7, .data⟩ (by simp) rfl
          have e7 : gv 84 = .slice a6 N c6 := P 7 (by decide) rfl h7
          have h8 : On f 8 := he ⟨8, .data⟩ (by simp) rfl
          have e8 : gv 85 = .int .i64 (M : Int) := P 8 (by decide) rfl h8
          rw [e6, e7, e8]
          rw [if_pos (by rfl)]
          have HQ := Lib.hid (And.intro P Q10)
          clear P Q10
          go_simp
          exact hK (upd (upd (upd (upd gv 83 (.bool true)) 84 (.slice a6 N c6)) 85 (.int .i64 (M : Int))) 86 (.slice a7 M c6)) _ (by rw [upd_same e6]; rw [upd_same e7]; rw [upd_same e8]; exact ⟨hBx, vals_step (n := 9) (v := .slice a7 M c6) hD (by decide) (by omega) HQ.out.1 (fun _ => rfl), fun x => HQ.out.2 (on_back (by omega) x (by decide))⟩)
        | 10, _ =>
          cases hio
          have h6 : On f 6 := he ⟨6, .guard⟩ (by simp) rfl
          have e6 : gv 83 = .bool true := P 6 (by decide) rfl h6
          have h9 : On f 9 := he ⟨9, .data⟩ (by simp) rfl
          have e9 : gv 86 = .slice a7 M c6 := P 9 (by decide) rfl h9
          rw [e6, e9]
          rw [if_pos (by rfl)]
          have HQ := Lib.hid (And.intro P Q10)
          clear P Q10
          go_simp
          refine (HM2.out _ (H7.out _ (H63.out.below hBx))).mono ?_
          rintro e w6 ⟨v6, rfl, ho, hb⟩
          rw [HK.out.2.2] at ho
          obtain ⟨a9, c9, rfl, hr9⟩ := Rd.of_own ho
          exact hK (upd (upd (upd gv 83 (.bool true)) 86 (.slice a7 M c6)) 87 (.slice a9 U c9)) _ (by rw [upd_same e6]; rw [upd_same e9]; exact ⟨hBx.step hb, vals_step (n := 10) (v := .slice a9 U c9) hD (by decide) (by omega) HQ.out.1 (fun h => nomatch (show true = false from h)), fun _ => ⟨a9, c9, rfl, hr9⟩⟩)
        | 11, _ =>
          cases hio
          have h6 : On f 6 := he ⟨6, .guard⟩ (by simp) rfl
          have e6 : gv 83 = .bool true := P 6 (by decide) rfl h6
          have h10 : On f 10 := he ⟨10, .data⟩ (by simp) rfl
          obtain ⟨a9, c9, e10, hr9⟩ := Q10 h10
          have hs : (convert 22 9 (.slice a9 U c9)).run Try.prog wm = .ok (.string ⟨Z.toArray⟩) wm := str_drew (hr9) 0
          rw [e6, e10]
          rw [if_pos (by rfl)]
          have HQ := Lib.hid (And.intro P Q10)
          clear P Q10
          go_simp
          exact hK (upd (upd (upd gv 83 (.bool true)) 87 (.slice a9 U c9)) 88 (.string ⟨Z.toArray⟩)) _ (by rw [upd_same e6]; rw [upd_same e10]; exact ⟨hBx, vals_step (n := 11) (v := .string ⟨Z.toArray⟩) hD (by decide) (by omega) HQ.out.1 (fun _ => rfl), fun x => HQ.out.2 (on_back (by omega) x (by decide))⟩)
        | 12, _ =>
          cases hio
          have h6 : On f 6 := he ⟨6, .guard⟩ (by simp) rfl
          have e6 : gv 83 = .bool true := P 6 (by decide) rfl h6
          rw [e6]
          rw [if_pos (by rfl)]
          have HQ := Lib.hid (And.intro P Q10)
          clear P Q10
          go_simp
          exact hK (upd (upd gv 83 (.bool true)) 89 (.slice a6 N c6)) _ (by rw [upd_same e6]; exact ⟨hBx, vals_step (n := 12) (v := .slice a6 N c6) hD (by decide) (by omega) HQ.out.1 (fun _ => rfl), fun x => HQ.out.2 (on_back (by omega) x (by decide))⟩)
        | 13, _ =>
          cases hio
          have h6 : On f 6 := he ⟨6, .guard⟩ (by simp) rfl
          have e6 : gv 83 = .bool true := P 6 (by decide) rfl h6
          rw [e6]
          rw [if_pos (by rfl)]
          have HQ := Lib.hid (And.intro P Q10)
          clear P Q10
          go_simp
          exact hK (upd (upd gv 83 (.bool true)) 90 (.int .i64 (U : Int))) _ (by rw [upd_same e6]; exact ⟨hBx, vals_step (n := 13) (v := .int .i64 (U : Int)) hD (by decide) (by omega) HQ.out.1 (fun _ => rfl), fun x => HQ.out.2 (on_back (by omega) x (by decide))⟩)
        | 14, _ =>
          cases hio
          have h6 : On f 6 := he ⟨6, .guard⟩ (by simp) rfl
          have e6 : gv 83 = .bool true := P 6 (by decide) rfl h6
          have h12 : On f 12 := he ⟨12, .data⟩ (by simp) rfl
          have e12 : gv 89 = .slice a6 N c6 := P 12 (by decide) rfl h12
          have h13 : On f 13 := he ⟨13, .data⟩ (by simp) rfl
          have e13 : gv 90 = .int .i64 (U : Int) := P 13 (by decide) rfl h13
          rw [e6, e12, e13]
          rw [if_pos (by rfl)]
          have HQ := Lib.hid (And.intro P Q10)
          clear P Q10
          go_simp
          exact hK (upd (upd (upd (upd gv 83 (.bool true)) 89 (.slice a6 N c6)) 90 (.int .i64 (U : Int))) 91 (.slice a8 U c6)) _ (by rw [upd_same e6]; rw [upd_same e12]; rw [upd_same e13]; exact ⟨hBx, vals_step (n := 14) (v := .slice a8 U c6) hD (by decide) (by omega) HQ.out.1 (fun _ => rfl), fun x => HQ.out.2 (on_back (by omega) x (by decide))⟩)
        | 15, _ =>
          cases hio
          have h6 : On f 6 := he ⟨6, .guard⟩ (by simp) rfl
          have e6 : gv 83 = .bool true := P 6 (by decide) rfl h6
          have h14 : On f 14 := he ⟨14, .data⟩ (by simp) rfl
          have e14 : gv 91 = .slice a8 U c6 := P 14 (by decide) rfl h14
          have hs : (convert 22 9 (.slice a8 U c6)).run Try.prog wm = .ok (.string ⟨Z.toArray⟩) wm := str_drew (H8.out _ (H63.out.below hBx)) 0
          rw [e6, e14]
          rw [if_pos (by rfl)]
          have HQ := Lib.hid (And.intro P Q10)
          clear P Q10
          go_simp
          exact hK (upd (upd (upd gv 83 (.bool true)) 91 (.slice a8 U c6)) 92 (.string ⟨Z.toArray⟩)) _ (by rw [upd_same e6]; rw [upd_same e14]; exact ⟨hBx, vals_step (n := 15) (v := .string ⟨Z.toArray⟩) hD (by decide) (by omega) HQ.out.1 (fun _ => rfl), fun x => HQ.out.2 (on_back (by omega) x (by decide))⟩)
        | 16, _ =>
          cases hio
          have h6 : On f 6 := he ⟨6, .guard⟩ (by simp) rfl
          have e6 : gv 83 = .bool true := P 6 (by decide) rfl h6
          have h11 : On f 11 := he ⟨11, .data⟩ (by simp) rfl
          have e11 : gv 88 = .string ⟨Z.toArray⟩ := P 11 (by decide) rfl h11
          have h15 : On f 15 := he ⟨15, .data⟩ (by simp) rfl
          have e15 : gv 92 = .string ⟨Z.toArray⟩ := P 15 (by decide) rfl h15
          rw [e6, e11, e15]
          rw [if_pos (by rfl)]
          have HQ := Lib.hid (And.intro P Q10)
          clear P Q10
          go_simp
          exact hK (upd (upd (upd (upd gv 83 (.bool true)) 88 (.string ⟨Z.toArray⟩)) 92 (.string ⟨Z.toArray⟩)) 93 (.bool true)) _ (by rw [upd_same e6]; rw [upd_same e11]; rw [upd_same e15]; exact ⟨hBx, vals_step (n := 16) (v := .bool true) hD (by decide) (by omega) HQ.out.1 (fun _ => rfl), fun x => HQ.out.2 (on_back (by omega) x (by decide))⟩)
        | 17, _ =>
          cases hio
          have h6 : On f 6 := he ⟨6, .data⟩ (by simp) rfl
          have e6 : gv 83 = .bool true := P 6 (by decide) rfl h6
          have h16 : On f 16 := he ⟨16, .data⟩ (by simp) rfl
          have e16 : gv 93 = .bool true := P 16 (by decide) rfl h16
          rw [e6, e16]
          have HQ := Lib.hid (And.intro P Q10)
          clear P Q10
          go_simp
          exact hK (upd (upd (upd gv 83 (.bool true)) 93 (.bool true)) 94 (.bool true)) _ (by rw [upd_same e6]; rw [upd_same e16]; exact ⟨hBx, vals_step (n := 17) (v := .bool true) hD (by decide) (by omega) HQ.out.1 (fun _ => rfl), fun x => HQ.out.2 (on_back (by omega) x (by decide))⟩)
        | 18, _ =>
          cases hio
          have h17 : On f 17 := he ⟨17, .data⟩ (by simp) rfl
          have e17 : gv 94 = .bool true := P 17 (by decide) rfl h17
          rw [e17]
          have HQ := Lib.hid (And.intro P Q10)
          clear P Q10
          go_simp
          exact hK (upd (upd gv 94 (.bool true)) 4 (.bool true)) _ (by rw [upd_same e17]; exact ⟨hBx, vals_step (n := 18) (v := .bool true) hD (by decide) (by omega) HQ.out.1 (fun _ => rfl), fun x => HQ.out.2 (on_back (by omega) x (by decide))⟩)
      · rintro f gv w5 hall hs' ⟨hBx, P, Q10⟩
        replace hs' : f.size = 19 := hs'
        have on : ∀ j, j < 19 → On f j := fun j hj => on_all hall hs' j hj
        have e6 : gv 4 = .bool true := P 18 (by decide) rfl (on 18 (by decide))
        have BX := Lib.hid hBx
        clear P Q10 hBx hall hs' on
        rw [e6]
        go_wp2_with fail
        go_ret
        exact ⟨rfl, HB3.out.step BX.out⟩
    have hii : (i : Int) < (n : Int) := by omega
    obtain ⟨b1, o1, e1, f1⟩ := ((HR.out.below hB.out).cells).resolve_left (by omega)
    subst e1
    obtain ⟨p1, q1, s1, r1, hp1⟩ := f1 i hin
    clear f1
    have hlen := HR.out.len
    obtain ⟨X, hX⟩ : ∃ X, X = ls.getD i [] := ⟨_, rfl⟩
    obtain ⟨mx, hm⟩ : ∃ mx, mx = X.length := ⟨_, rfl⟩
    have hsn := framesL_snoc ls i (by omega)
    obtain ⟨K, hK⟩ : ∃ K, K = wantN ls m i := ⟨_, rfl⟩
    obtain ⟨V, hV⟩ : ∃ V, V = (framesL (ls.take K)).length := ⟨_, rfl⟩
    obtain ⟨A0, hA0⟩ : ∃ A0, A0 = framesL (ls.take i) := ⟨_, rfl⟩
    obtain ⟨A1, hA1⟩ : ∃ A1, A1 = framesL (ls.take (i + 1)) := ⟨_, rfl⟩
    obtain ⟨L1, hL1⟩ : ∃ L1, L1 = A1.length := ⟨_, rfl⟩
    have hA0l := frames_le ls i (by omega) hS.out
    rw [← hA0] at hO hsn hA0l
    rw [← hX] at hsn
    rw [← hX, ← hm] at s1 r1
    rw [← hA1] at hsn
    rw [← hK, ← hV]
    have HK := Lib.hid (show wantN ls m (i + 1) = (if (L1 : Int) ≤ m then i + 1 else K) from by rw [hK, hL1, hA1]; rfl)
    have HV := Lib.hid hV
    have HX := Lib.hid hX
    have HM := Lib.hid hm
    have HA := Lib.hid (show A1 = A0 ++ frameL X ∧ A0.length ≤ i * 214 ∧ i < 10 from ⟨hsn, hA0l, by omega⟩)
    have HL1 := Lib.hid (show L1 = A1.length ∧ A1 = framesL (ls.take (i + 1)) from ⟨hL1, hA1⟩)
    have H1 := Lib.hid r1
    clear hX hm hsn hK hV hA0 hA1 hL1 hA0l r1 hlen
    by_cases hmx : mx ≤ 200
    case neg =>
      have hmx2 : 200 < (mx : Int) := by omega
      have hr3 := (H1.out).le
      have hr4 := (H1.out).cap
      have hmx3 : mx ≤ 9223372036854775807 := by omega
      clear hr3 hr4
      go_wp2_with fail
      go_ret
      exact ⟨rfl, hB.out⟩
    have hmx2 : ¬ 200 < (mx : Int) := by omega
    go_wp2_with fail
    refine (frame_any p1 mx q1 X _ H1.out hp1 (by omega)).mono ?_
    rintro e w2 ⟨v2, rfl, ho2, hb2⟩
    obtain ⟨a2, c2, rfl, hr2⟩ := Rd.of_own ho2
    have hFL := frame_le X (by rw [← HM.out]; exact hmx)
    obtain ⟨v3, w3, hrun3, hown3, hg3⟩ := run_app (P := Try.prog) (ty := 22) Try.underlying22 HIU.out.1 HIU.out.2.1 HIU.out.2.2.1 HIU.out.2.2.2 rfl (ownsRow_below hO.out hb2) hr2 (own_none ho2) (by have := HA.out; omega) (Nat.le_trans hB.out.size hb2.size)
    have hb3 := below_own (hB.out.step hb2) (ownsRow_below hO.out hb2) hg3 (Nat.le_trans hB.out.size hb2.size)
    have hown4 : w3.ownsRow w.heap.size 5 1 v3 L1 (A1.map B) := by
      rw [HL1.out.1, HA.out.1, List.length_append, List.map_append]; exact hown3
    obtain ⟨a3, c3, rfl, hr3⟩ := Rd.of_own hown4
    have HRUN := Lib.hid hrun3
    have HO4 := Lib.hid hown4
    have HB3 := Lib.hid hb3
    have hL63 : L1 ≤ 9223372036854775807 := Nat.le_trans hr3.le hr3.cap
    clear hrun3 hown3 hg3 hb3 hown4 hr3 hr2 ho2 hb2 hFL
    have HS := Lib.hid (show ∀ j, j < i + 1 → (ls.getD j []).length ≤ 200 from fun j hj => by
      by_cases e : j = i
      · subst e; rw [← HX.out, ← HM.out]; exact hmx
      · exact hS.out j (by omega))
    by_cases ht : (L1 : Int) ≤ m
    case neg =>
      go_wp2_with (at_builtin; refine Lib.wpList_append_run _ rfl _ _ _ _ rfl _ _ rfl rfl _ _ HRUN.out ?_)
      have hw := HK.out
      rw [if_neg (by omega)] at hw
      refine ⟨⟨i + 1, by omega, by rw [hw], by rw [hw, HV.out], rfl, Lib.hid (by rw [← HL1.out.2, ← HL1.out.1]; exact HO4.out), HS, HB3⟩, ?_⟩
      simp [intOf]; omega
    go_wp2_with (at_builtin; refine Lib.wpList_append_run _ rfl _ _ _ _ rfl _ _ rfl rfl _ _ HRUN.out ?_)
    have hw := HK.out
    rw [if_pos (by omega)] at hw
    refine ⟨⟨i + 1, by omega, by rw [hw]; rfl, by rw [hw, ← HL1.out.2, ← HL1.out.1], rfl, Lib.hid (by rw [← HL1.out.2, ← HL1.out.1]; exact HO4.out), HS, HB3⟩, ?_⟩
    simp [intOf]; omega
end Go.Proofs.Ytipaldfellfkdaa
