/- The reference's May and Same of the layer net. -/
import Derived.Test.YtmeieokembjabaaNetSl
namespace Go.Proofs.Ytmeieokembjabaa
open Go.ChangeShapes Go.WideShapes Go.ChangeAt Go.RowKit
set_option linter.unusedVariables false
set_option linter.unusedSimpArgs false

theorem lists_eq {a b : Array UInt8} {l m : List UInt8} (ha : a = l.toArray) (hb : b = m.toArray) : ((ByteArray.toList ⟨a⟩) == (ByteArray.toList ⟨b⟩)) = decide (a = b) := by
  subst ha hb
  rw [toList_bytes, toList_bytes, Bool.eq_iff_iff]
  simp
theorem skip_if {c : Prop} [Decidable c] {A B : Prop} (h : ¬ c) (hB : B) : if c then A else B := by rw [if_neg h]; exact hB

set_option maxRecDepth 100000 in
set_option maxHeartbeats 2000000 in
theorem may_ref (p : Pk) (a : Option Addr) (c : Nat) (w : World) (hl : p.by_.length ≤ 9223372036854775807) : Calls Try.prog 10 #[.agg #[.int .i64 p.fr, .int .i64 p.to, .slice a p.by_.length c]] w fun e w' => e = .returned (.bool (okP p)) ∧ Below w.heap.size w w' := by
  obtain ⟨L, hLL⟩ : ∃ L, L = p.by_.length := ⟨_, rfl⟩
  rw [← hLL] at hl ⊢
  have HL := Lib.hid hLL
  clear hLL
  go_enter Try.func10, Try.ntmps10
  go_upto_region 1 with fail
  obtain ⟨b0, hb0⟩ : ∃ b0, b0 = w.heap.size := ⟨_, rfl⟩
  have hC0 := Cel.new w 25 [.int .i64 p.fr, .int .i64 p.to, .slice a L c]
  rw [← hb0] at hC0 ⊢
  generalize hw1 : w.alloc (.cells _ _) = w1
  have hC : Cel w1 b0 25 [.int .i64 p.fr, .int .i64 p.to, .slice a L c] := by rw [← hw1]; exact hC0
  have HB := Lib.hid (show Below w.heap.size w w1 by rw [← hw1]; exact (Below.refl _ _).alloc (Nat.le_refl _) _)
  have d0 : w1.cell? ⟨b0, 0, none⟩ = some (.int .i64 p.fr) := hC.at 0 _ rfl
  have d1 : w1.cell? ⟨b0, 1, none⟩ = some (.int .i64 p.to) := hC.at 1 _ rfl
  have d2 : w1.cell? ⟨b0, 2, none⟩ = some (.slice a L c) := hC.at 2 _ rfl
  clear hb0 hC0 hw1 hC
  by_cases c0 : 0 ≤ p.fr
  · by_cases c1 : p.fr < 8
    · by_cases c2 : 0 ≤ p.to
      · by_cases c3 : p.to < 8
        · by_cases c4 : (L : Int) ≤ 4000
          · have HO := Lib.hid (show okP p = true by unfold okP; rw [← HL.out]; simp only [decide_eq_true_eq, Bool.and_eq_true, Bool.and_eq_false_iff, decide_eq_false_iff_not]; omega)
            go_wp2_with fail
            go_ret
            exact ⟨retb HO.out.symm, HB.out⟩
          · have HO := Lib.hid (show okP p = false by unfold okP; rw [← HL.out]; simp only [decide_eq_true_eq, Bool.and_eq_true, Bool.and_eq_false_iff, decide_eq_false_iff_not]; omega)
            go_wp2_with fail
            go_ret
            exact ⟨retb HO.out.symm, HB.out⟩
        · have HO := Lib.hid (show okP p = false by unfold okP; rw [← HL.out]; simp only [decide_eq_true_eq, Bool.and_eq_true, Bool.and_eq_false_iff, decide_eq_false_iff_not]; omega)
          go_wp2_with fail
          go_ret
          exact ⟨retb HO.out.symm, HB.out⟩
      · have HO := Lib.hid (show okP p = false by unfold okP; rw [← HL.out]; simp only [decide_eq_true_eq, Bool.and_eq_true, Bool.and_eq_false_iff, decide_eq_false_iff_not]; omega)
        go_wp2_with fail
        go_ret
        exact ⟨retb HO.out.symm, HB.out⟩
    · have HO := Lib.hid (show okP p = false by unfold okP; rw [← HL.out]; simp only [decide_eq_true_eq, Bool.and_eq_true, Bool.and_eq_false_iff, decide_eq_false_iff_not]; omega)
      go_wp2_with fail
      go_ret
      exact ⟨retb HO.out.symm, HB.out⟩
  · have HO := Lib.hid (show okP p = false by unfold okP; rw [← HL.out]; simp only [decide_eq_true_eq, Bool.and_eq_true, Bool.and_eq_false_iff, decide_eq_false_iff_not]; omega)
    go_wp2_with fail
    go_ret
    exact ⟨retb HO.out.symm, HB.out⟩

set_option maxRecDepth 100000 in
set_option maxHeartbeats 20000000 in
theorem same_ref (a1 a2 : Option Addr) (n1 n2 c1 c2 : Nat) (ps qs : List Pk) (w : World) (h1 : Pks w a1 n1 c1 ps) (h2 : Pks w a2 n2 c2 qs) : Calls Try.prog 11 #[.slice a1 n1 c1, .slice a2 n2 c2] w fun e w' => e = .returned (.bool (decide (ps = qs))) ∧ Below w.heap.size w w' := by
  have hm1 : n1 ≤ 9223372036854775807 := Nat.le_trans h1.le h1.cap
  have hm2 : n2 ≤ 9223372036854775807 := Nat.le_trans h2.le h2.cap
  have H1 := Lib.hid h1
  have H2 := Lib.hid h2
  clear h1 h2
  by_cases hn : n1 = n2
  case neg =>
    have HNO := Lib.hid (show decide (ps = qs) = false from decide_eq_false (fun h => hn (by rw [← H1.out.len, ← H2.out.len, h])))
    have hn' : ((n1 : Int) == (n2 : Int)) = false := by simp; omega
    clear hn
    go_enter Try.func11, Try.ntmps11
    go_wp2_with fail
    go_ret
    exact ⟨retb HNO.out.symm, Below.refl _ _⟩
  subst hn
  go_enter Try.func11, Try.ntmps11
  go_wp2_with fail
  go_loopw [5] (fun v5 wr => ∃ i : Nat, i ≤ n1 ∧ v5 = .int .i64 (i : Int) ∧ Hid (ps.take i = qs.take i) ∧ Hid (Below w.heap.size w wr)) (fun v5 _ => n1 - (intOf v5).toNat)
  case atStart => exact ⟨0, Nat.zero_le _, rfl, Lib.hid rfl, Lib.hid (Below.refl _ _)⟩
  case round =>
    obtain ⟨i, hi, rfl, hE, hB⟩ := hrel
    by_cases hin : i < n1
    case neg =>
      obtain rfl : i = n1 := by omega
      have HY := Lib.hid (show decide (ps = qs) = true from decide_eq_true (by
        have := hE.out
        rwa [List.take_of_length_le (Nat.le_of_eq H1.out.len), List.take_of_length_le (Nat.le_of_eq H2.out.len)] at this))
      clear hE
      go_wp2_with fail
      go_ret
      exact ⟨retb HY.out.symm, hB.out⟩
    obtain ⟨b, fo, e1, f1⟩ := ((H1.out.below hB.out).cells).resolve_left (by omega)
    obtain ⟨b', fo', e2, f2⟩ := ((H2.out.below hB.out).cells).resolve_left (by omega)
    subst e1 e2
    obtain ⟨x, cx, g0, g1, g2, g3, _⟩ := f1 i hin
    obtain ⟨y, cy, k0, k1, k2, k3, _⟩ := f2 i hin
    obtain ⟨p, hp⟩ : ∃ p, p = ps.getD i noPk := ⟨_, rfl⟩
    obtain ⟨q, hq⟩ : ∃ q, q = qs.getD i noPk := ⟨_, rfl⟩
    rw [← hp] at g0 g1 g2 g3
    rw [← hq] at k0 k1 k2 k3
    have hl1 := H1.out.len
    have hl2 := H2.out.len
    have ht1 : ps.take (i + 1) = ps.take i ++ [p] := by rw [List.take_add_one, hp, List.getD_eq_getElem?_getD, List.getElem?_eq_getElem (by omega)]; rfl
    have ht2 : qs.take (i + 1) = qs.take i ++ [q] := by rw [List.take_add_one, hq, List.getD_eq_getElem?_getD, List.getElem?_eq_getElem (by omega)]; rfl
    have HT := Lib.hid (show p = q → ps.take (i + 1) = qs.take (i + 1) from fun h => by rw [ht1, ht2, hE.out, h])
    have HN := Lib.hid (show p ≠ q → decide (ps = qs) = false from fun h => decide_eq_false (fun h2 => h (by rw [hp, hq, h2])))
    obtain ⟨pl, hpl⟩ : ∃ pl, pl = p.by_.length := ⟨_, rfl⟩
    obtain ⟨ql, hql⟩ : ∃ ql, ql = q.by_.length := ⟨_, rfl⟩
    rw [← hpl] at g2 g3
    rw [← hql] at k2 k3
    obtain ⟨B1, hB1⟩ : ∃ B1, B1 = p.by_.toArray := ⟨_, rfl⟩
    obtain ⟨B2, hB2⟩ : ∃ B2, B2 = q.by_.toArray := ⟨_, rfl⟩
    have HX1 := Lib.hid (fun w' (h : Below wr.heap.size wr w') => show (convert 23 9 (.slice x pl cx)).run Try.prog w' = .ok (.string ⟨B1⟩) w' by rw [hB1]; exact str_drew (g3.below h) 0)
    have HX2 := Lib.hid (fun w' (h : Below wr.heap.size wr w') => show (convert 23 9 (.slice y ql cy)).run Try.prog w' = .ok (.string ⟨B2⟩) w' by rw [hB2]; exact str_drew (k3.below h) 0)
    have HBB := Lib.hid (And.intro hB1 hB2)
    have HG := Lib.hid (And.intro g0 (And.intro g1 g2))
    have HK := Lib.hid (And.intro k0 (And.intro k1 k2))
    clear f1 f2 hp hq ht1 ht2 hpl hql hl1 hl2 g3 k3 hE hB1 hB2 g0 g1 g2 k0 k1 k2
    have hin' : (i : Int) < (n1 : Int) := by omega
    have hi0 : 0 ≤ (i : Int) := by omega
    by_cases e0 : p.fr = q.fr
    case neg =>
      have HNO := Lib.hid (HN.out (fun h => e0 (by rw [h])))
      have HD := Lib.hid (show (p.fr != q.fr) = true by simpa using e0)
      clear e0
      go_upto_region 6 with fail
      have hD : ∀ j, j < 39 → ∀ n, n < 39 → j ≠ n → dkN [17, 18, 19, 20, 21, 22, 23, 24, 25, 26, 27, 28, 29, 30, 31, 32, 33, 34, 35, 36, 37, 38, 39, 40, 41, 42, 43, 44, 45, 46, 47, 48, 49, 50, 51, 52, 53, 54, 55] j ≠ dkN [17, 18, 19, 20, 21, 22, 23, 24, 25, 26, 27, 28, 29, 30, 31, 32, 33, 34, 35, 36, 37, 38, 39, 40, 41, 42, 43, 44, 45, 46, 47, 48, 49, 50, 51, 52, 53, 54, 55] n := by decide +kernel
      refine region_fun (by kernel_rfl) (by kernel_rfl) (fun gv => #[.slice (some ⟨b, fo, none⟩) n1 c1, .slice (some ⟨b', fo', none⟩) n1 c2, undef, undef, gv 4, .int .i64 (i : Int), .slice (some ⟨b, fo, none⟩) n1 c1, .int .i64 (n1 : Int), .slice (some ⟨b', fo', none⟩) n1 c2, .int .i64 (n1 : Int), .bool false, .int .i64 (i : Int), .slice (some ⟨b, fo, none⟩) n1 c1, .int .i64 (n1 : Int), .bool true, gv 15, gv 16, gv 17, gv 18, gv 19, gv 20, gv 21, gv 22, gv 23, gv 24, gv 25, gv 26, gv 27, gv 28, gv 29, gv 30, gv 31, gv 32, gv 33, gv 34, gv 35, gv 36, gv 37, gv 38, gv 39, gv 40, gv 41, gv 42, gv 43, gv 44, gv 45, gv 46, gv 47, gv 48, gv 49, gv 50, gv 51, gv 52, gv 53, gv 54, gv 55]) rfl (fun f gv wx => Below wr.heap.size wr wx ∧ (∀ j, j < 39 → (fun j => false) j = false → On f j → gv (dkN [17, 18, 19, 20, 21, 22, 23, 24, 25, 26, 27, 28, 29, 30, 31, 32, 33, 34, 35, 36, 37, 38, 39, 40, 41, 42, 43, 44, 45, 46, 47, 48, 49, 50, 51, 52, 53, 54, 55] j) = vkN [.slice (some ⟨b, fo, none⟩) n1 c1, .int .i64 (i : Int), .pointer (some ⟨b, fo + i * 3, none⟩), .pointer (some ⟨b, fo + i * 3, none⟩), .int .i64 p.fr, .slice (some ⟨b', fo', none⟩) n1 c2, .int .i64 (i : Int), .pointer (some ⟨b', fo' + i * 3, none⟩), .pointer (some ⟨b', fo' + i * 3, none⟩), .int .i64 q.fr, .bool true, .bool true, undef, undef, undef, undef, undef, undef, undef, undef, undef, undef, undef, .bool true, .bool true, undef, undef, undef, undef, undef, undef, undef, undef, undef, undef, undef, undef, undef, .bool true] j)) ?_ ?_ ?_
      · have hoff : ∀ j, ¬ On (Array.replicate 39 false) j := by
          intro j hj; simp only [On, Array.getD_eq_getD_getElem?, Array.getElem?_replicate] at hj; split at hj <;> simp at hj
        exact ⟨(Below.refl _ _).drew, fun j _ _ x => absurd x (hoff _)⟩
      · rintro i' o' f gv wm hio hs' hn he ⟨hBx, P⟩ KK hKK
        have hi' : i' < 39 := (Array.getElem?_eq_some_iff.1 hio).1
        replace hs' : f.size = 39 := hs'
        match i', hi' with
        | 0, _ =>
          cases hio
          have off : ¬ On f 0 := on_off (by omega) hn
          have HQ := Lib.hid P
          clear P
          go_simp
          have P := HQ.out
          have bk : ∀ j, j ≠ 0 → On (f.setIfInBounds 0 true) j → On f j := fun j hj x => on_back (by omega) x hj
          have fw : ∀ j, On f j → On (f.setIfInBounds 0 true) j := fun j x => (on_put (by omega)).2 (.inr x)
          have fn : On (f.setIfInBounds 0 true) 0 := (on_put (by omega)).2 (.inl rfl)
          exact hKK (upd gv 17 (.slice (some ⟨b, fo, none⟩) n1 c1)) _ (by exact ⟨hBx, vals_step (n := 0) (v := .slice (some ⟨b, fo, none⟩) n1 c1) hD (by decide) (by omega) P (fun _ => rfl)⟩)
        | 1, _ =>
          cases hio
          have off : ¬ On f 1 := on_off (by omega) hn
          have HQ := Lib.hid P
          clear P
          go_simp
          have P := HQ.out
          have bk : ∀ j, j ≠ 1 → On (f.setIfInBounds 1 true) j → On f j := fun j hj x => on_back (by omega) x hj
          have fw : ∀ j, On f j → On (f.setIfInBounds 1 true) j := fun j x => (on_put (by omega)).2 (.inr x)
          have fn : On (f.setIfInBounds 1 true) 1 := (on_put (by omega)).2 (.inl rfl)
          exact hKK (upd gv 18 (.int .i64 (i : Int))) _ (by exact ⟨hBx, vals_step (n := 1) (v := .int .i64 (i : Int)) hD (by decide) (by omega) P (fun _ => rfl)⟩)
        | 2, _ =>
          cases hio
          have off : ¬ On f 2 := on_off (by omega) hn
          have h0 : On f 0 := he ⟨0, .data⟩ (by simp) rfl
          have e0 : gv 17 = .slice (some ⟨b, fo, none⟩) n1 c1 := P 0 (by decide) rfl h0
          have h1 : On f 1 := he ⟨1, .data⟩ (by simp) rfl
          have e1 : gv 18 = .int .i64 (i : Int) := P 1 (by decide) rfl h1
          rw [e0, e1]
          have HQ := Lib.hid P
          clear P
          go_simp
          have P := HQ.out
          have bk : ∀ j, j ≠ 2 → On (f.setIfInBounds 2 true) j → On f j := fun j hj x => on_back (by omega) x hj
          have fw : ∀ j, On f j → On (f.setIfInBounds 2 true) j := fun j x => (on_put (by omega)).2 (.inr x)
          have fn : On (f.setIfInBounds 2 true) 2 := (on_put (by omega)).2 (.inl rfl)
          exact hKK (upd (upd (upd gv 17 (.slice (some ⟨b, fo, none⟩) n1 c1)) 18 (.int .i64 (i : Int))) 19 (.pointer (some ⟨b, fo + i * 3, none⟩))) _ (by rw [upd_same e0]; rw [upd_same e1]; exact ⟨hBx, vals_step (n := 2) (v := .pointer (some ⟨b, fo + i * 3, none⟩)) hD (by decide) (by omega) P (fun _ => rfl)⟩)
        | 3, _ =>
          cases hio
          have off : ¬ On f 3 := on_off (by omega) hn
          have h2 : On f 2 := he ⟨2, .data⟩ (by simp) rfl
          have e2 : gv 19 = .pointer (some ⟨b, fo + i * 3, none⟩) := P 2 (by decide) rfl h2
          rw [e2]
          have HQ := Lib.hid P
          clear P
          go_simp
          have P := HQ.out
          have bk : ∀ j, j ≠ 3 → On (f.setIfInBounds 3 true) j → On f j := fun j hj x => on_back (by omega) x hj
          have fw : ∀ j, On f j → On (f.setIfInBounds 3 true) j := fun j x => (on_put (by omega)).2 (.inr x)
          have fn : On (f.setIfInBounds 3 true) 3 := (on_put (by omega)).2 (.inl rfl)
          exact hKK (upd (upd gv 19 (.pointer (some ⟨b, fo + i * 3, none⟩))) 20 (.pointer (some ⟨b, fo + i * 3, none⟩))) _ (by rw [upd_same e2]; exact ⟨hBx, vals_step (n := 3) (v := .pointer (some ⟨b, fo + i * 3, none⟩)) hD (by decide) (by omega) P (fun _ => rfl)⟩)
        | 4, _ =>
          cases hio
          have off : ¬ On f 4 := on_off (by omega) hn
          have h3 : On f 3 := he ⟨3, .data⟩ (by simp) rfl
          have e3 : gv 20 = .pointer (some ⟨b, fo + i * 3, none⟩) := P 3 (by decide) rfl h3
          have d0 := carry_cell HG.out.1 hBx
          rw [e3]
          have HQ := Lib.hid P
          clear P
          go_simp
          have P := HQ.out
          have bk : ∀ j, j ≠ 4 → On (f.setIfInBounds 4 true) j → On f j := fun j hj x => on_back (by omega) x hj
          have fw : ∀ j, On f j → On (f.setIfInBounds 4 true) j := fun j x => (on_put (by omega)).2 (.inr x)
          have fn : On (f.setIfInBounds 4 true) 4 := (on_put (by omega)).2 (.inl rfl)
          exact hKK (upd (upd gv 20 (.pointer (some ⟨b, fo + i * 3, none⟩))) 21 (.int .i64 p.fr)) _ (by rw [upd_same e3]; exact ⟨hBx, vals_step (n := 4) (v := .int .i64 p.fr) hD (by decide) (by omega) P (fun _ => rfl)⟩)
        | 5, _ =>
          cases hio
          have off : ¬ On f 5 := on_off (by omega) hn
          have HQ := Lib.hid P
          clear P
          go_simp
          have P := HQ.out
          have bk : ∀ j, j ≠ 5 → On (f.setIfInBounds 5 true) j → On f j := fun j hj x => on_back (by omega) x hj
          have fw : ∀ j, On f j → On (f.setIfInBounds 5 true) j := fun j x => (on_put (by omega)).2 (.inr x)
          have fn : On (f.setIfInBounds 5 true) 5 := (on_put (by omega)).2 (.inl rfl)
          exact hKK (upd gv 22 (.slice (some ⟨b', fo', none⟩) n1 c2)) _ (by exact ⟨hBx, vals_step (n := 5) (v := .slice (some ⟨b', fo', none⟩) n1 c2) hD (by decide) (by omega) P (fun _ => rfl)⟩)
        | 6, _ =>
          cases hio
          have off : ¬ On f 6 := on_off (by omega) hn
          have HQ := Lib.hid P
          clear P
          go_simp
          have P := HQ.out
          have bk : ∀ j, j ≠ 6 → On (f.setIfInBounds 6 true) j → On f j := fun j hj x => on_back (by omega) x hj
          have fw : ∀ j, On f j → On (f.setIfInBounds 6 true) j := fun j x => (on_put (by omega)).2 (.inr x)
          have fn : On (f.setIfInBounds 6 true) 6 := (on_put (by omega)).2 (.inl rfl)
          exact hKK (upd gv 23 (.int .i64 (i : Int))) _ (by exact ⟨hBx, vals_step (n := 6) (v := .int .i64 (i : Int)) hD (by decide) (by omega) P (fun _ => rfl)⟩)
        | 7, _ =>
          cases hio
          have off : ¬ On f 7 := on_off (by omega) hn
          have h5 : On f 5 := he ⟨5, .data⟩ (by simp) rfl
          have e5 : gv 22 = .slice (some ⟨b', fo', none⟩) n1 c2 := P 5 (by decide) rfl h5
          have h6 : On f 6 := he ⟨6, .data⟩ (by simp) rfl
          have e6 : gv 23 = .int .i64 (i : Int) := P 6 (by decide) rfl h6
          rw [e5, e6]
          have HQ := Lib.hid P
          clear P
          go_simp
          have P := HQ.out
          have bk : ∀ j, j ≠ 7 → On (f.setIfInBounds 7 true) j → On f j := fun j hj x => on_back (by omega) x hj
          have fw : ∀ j, On f j → On (f.setIfInBounds 7 true) j := fun j x => (on_put (by omega)).2 (.inr x)
          have fn : On (f.setIfInBounds 7 true) 7 := (on_put (by omega)).2 (.inl rfl)
          exact hKK (upd (upd (upd gv 22 (.slice (some ⟨b', fo', none⟩) n1 c2)) 23 (.int .i64 (i : Int))) 24 (.pointer (some ⟨b', fo' + i * 3, none⟩))) _ (by rw [upd_same e5]; rw [upd_same e6]; exact ⟨hBx, vals_step (n := 7) (v := .pointer (some ⟨b', fo' + i * 3, none⟩)) hD (by decide) (by omega) P (fun _ => rfl)⟩)
        | 8, _ =>
          cases hio
          have off : ¬ On f 8 := on_off (by omega) hn
          have h7 : On f 7 := he ⟨7, .data⟩ (by simp) rfl
          have e7 : gv 24 = .pointer (some ⟨b', fo' + i * 3, none⟩) := P 7 (by decide) rfl h7
          rw [e7]
          have HQ := Lib.hid P
          clear P
          go_simp
          have P := HQ.out
          have bk : ∀ j, j ≠ 8 → On (f.setIfInBounds 8 true) j → On f j := fun j hj x => on_back (by omega) x hj
          have fw : ∀ j, On f j → On (f.setIfInBounds 8 true) j := fun j x => (on_put (by omega)).2 (.inr x)
          have fn : On (f.setIfInBounds 8 true) 8 := (on_put (by omega)).2 (.inl rfl)
          exact hKK (upd (upd gv 24 (.pointer (some ⟨b', fo' + i * 3, none⟩))) 25 (.pointer (some ⟨b', fo' + i * 3, none⟩))) _ (by rw [upd_same e7]; exact ⟨hBx, vals_step (n := 8) (v := .pointer (some ⟨b', fo' + i * 3, none⟩)) hD (by decide) (by omega) P (fun _ => rfl)⟩)
        | 9, _ =>
          cases hio
          have off : ¬ On f 9 := on_off (by omega) hn
          have h8 : On f 8 := he ⟨8, .data⟩ (by simp) rfl
          have e8 : gv 25 = .pointer (some ⟨b', fo' + i * 3, none⟩) := P 8 (by decide) rfl h8
          have d0 := carry_cell HK.out.1 hBx
          rw [e8]
          have HQ := Lib.hid P
          clear P
          go_simp
          have P := HQ.out
          have bk : ∀ j, j ≠ 9 → On (f.setIfInBounds 9 true) j → On f j := fun j hj x => on_back (by omega) x hj
          have fw : ∀ j, On f j → On (f.setIfInBounds 9 true) j := fun j x => (on_put (by omega)).2 (.inr x)
          have fn : On (f.setIfInBounds 9 true) 9 := (on_put (by omega)).2 (.inl rfl)
          exact hKK (upd (upd gv 25 (.pointer (some ⟨b', fo' + i * 3, none⟩))) 26 (.int .i64 q.fr)) _ (by rw [upd_same e8]; exact ⟨hBx, vals_step (n := 9) (v := .int .i64 q.fr) hD (by decide) (by omega) P (fun _ => rfl)⟩)
        | 10, _ =>
          cases hio
          have off : ¬ On f 10 := on_off (by omega) hn
          have h4 : On f 4 := he ⟨4, .data⟩ (by simp) rfl
          have e4 : gv 21 = .int .i64 p.fr := P 4 (by decide) rfl h4
          have h9 : On f 9 := he ⟨9, .data⟩ (by simp) rfl
          have e9 : gv 26 = .int .i64 q.fr := P 9 (by decide) rfl h9
          have d0 := HD.out
          rw [e4, e9]
          have HQ := Lib.hid P
          clear P
          go_simp
          have P := HQ.out
          have bk : ∀ j, j ≠ 10 → On (f.setIfInBounds 10 true) j → On f j := fun j hj x => on_back (by omega) x hj
          have fw : ∀ j, On f j → On (f.setIfInBounds 10 true) j := fun j x => (on_put (by omega)).2 (.inr x)
          have fn : On (f.setIfInBounds 10 true) 10 := (on_put (by omega)).2 (.inl rfl)
          exact hKK (upd (upd (upd gv 21 (.int .i64 p.fr)) 26 (.int .i64 q.fr)) 27 (.bool true)) _ (by rw [upd_same e4]; rw [upd_same e9]; exact ⟨hBx, vals_step (n := 10) (v := .bool true) hD (by decide) (by omega) P (fun _ => rfl)⟩)
        | 11, _ =>
          cases hio
          have off : ¬ On f 11 := on_off (by omega) hn
          have h10 : On f 10 := he ⟨10, .data⟩ (by simp) rfl
          have e10 : gv 27 = .bool true := P 10 (by decide) rfl h10
          rw [e10]
          have HQ := Lib.hid P
          clear P
          go_simp
          have P := HQ.out
          have bk : ∀ j, j ≠ 11 → On (f.setIfInBounds 11 true) j → On f j := fun j hj x => on_back (by omega) x hj
          have fw : ∀ j, On f j → On (f.setIfInBounds 11 true) j := fun j x => (on_put (by omega)).2 (.inr x)
          have fn : On (f.setIfInBounds 11 true) 11 := (on_put (by omega)).2 (.inl rfl)
          exact hKK (upd (upd gv 27 (.bool true)) 28 (.bool true)) _ (by rw [upd_same e10]; exact ⟨hBx, vals_step (n := 11) (v := .bool true) hD (by decide) (by omega) P (fun _ => rfl)⟩)
        | 12, _ =>
          cases hio
          have off : ¬ On f 12 := on_off (by omega) hn
          have h11 : On f 11 := he ⟨11, .guard⟩ (by simp) rfl
          have e11 : gv 28 = .bool true := P 11 (by decide) rfl h11
          rw [e11]
          have HQ := Lib.hid P
          clear P
          refine skip_if (fun h => nomatch (show false = true from h)) ?_
          simp only [Act.put, List.setIfInBounds_toArray]
          have P := HQ.out
          have bk : ∀ j, j ≠ 12 → On (f.setIfInBounds 12 true) j → On f j := fun j hj x => on_back (by omega) x hj
          have fw : ∀ j, On f j → On (f.setIfInBounds 12 true) j := fun j x => (on_put (by omega)).2 (.inr x)
          have fn : On (f.setIfInBounds 12 true) 12 := (on_put (by omega)).2 (.inl rfl)
          exact hKK (upd (upd gv 28 (.bool true)) 29 (undef)) _ (by rw [upd_same e11]; exact ⟨hBx, vals_step (n := 12) (v := undef) hD (by decide) (by omega) P (fun _ => rfl)⟩)
        | 13, _ =>
          cases hio
          have off : ¬ On f 13 := on_off (by omega) hn
          have h11 : On f 11 := he ⟨11, .guard⟩ (by simp) rfl
          have e11 : gv 28 = .bool true := P 11 (by decide) rfl h11
          rw [e11]
          have HQ := Lib.hid P
          clear P
          refine skip_if (fun h => nomatch (show false = true from h)) ?_
          simp only [Act.put, List.setIfInBounds_toArray]
          have P := HQ.out
          have bk : ∀ j, j ≠ 13 → On (f.setIfInBounds 13 true) j → On f j := fun j hj x => on_back (by omega) x hj
          have fw : ∀ j, On f j → On (f.setIfInBounds 13 true) j := fun j x => (on_put (by omega)).2 (.inr x)
          have fn : On (f.setIfInBounds 13 true) 13 := (on_put (by omega)).2 (.inl rfl)
          exact hKK (upd (upd gv 28 (.bool true)) 30 (undef)) _ (by rw [upd_same e11]; exact ⟨hBx, vals_step (n := 13) (v := undef) hD (by decide) (by omega) P (fun _ => rfl)⟩)
        | 14, _ =>
          cases hio
          have off : ¬ On f 14 := on_off (by omega) hn
          have h11 : On f 11 := he ⟨11, .guard⟩ (by simp) rfl
          have e11 : gv 28 = .bool true := P 11 (by decide) rfl h11
          rw [e11]
          have HQ := Lib.hid P
          clear P
          refine skip_if (fun h => nomatch (show false = true from h)) ?_
          simp only [Act.put, List.setIfInBounds_toArray]
          have P := HQ.out
          have bk : ∀ j, j ≠ 14 → On (f.setIfInBounds 14 true) j → On f j := fun j hj x => on_back (by omega) x hj
          have fw : ∀ j, On f j → On (f.setIfInBounds 14 true) j := fun j x => (on_put (by omega)).2 (.inr x)
          have fn : On (f.setIfInBounds 14 true) 14 := (on_put (by omega)).2 (.inl rfl)
          exact hKK (upd (upd gv 28 (.bool true)) 31 (undef)) _ (by rw [upd_same e11]; exact ⟨hBx, vals_step (n := 14) (v := undef) hD (by decide) (by omega) P (fun _ => rfl)⟩)
        | 15, _ =>
          cases hio
          have off : ¬ On f 15 := on_off (by omega) hn
          have h11 : On f 11 := he ⟨11, .guard⟩ (by simp) rfl
          have e11 : gv 28 = .bool true := P 11 (by decide) rfl h11
          rw [e11]
          have HQ := Lib.hid P
          clear P
          refine skip_if (fun h => nomatch (show false = true from h)) ?_
          simp only [Act.put, List.setIfInBounds_toArray]
          have P := HQ.out
          have bk : ∀ j, j ≠ 15 → On (f.setIfInBounds 15 true) j → On f j := fun j hj x => on_back (by omega) x hj
          have fw : ∀ j, On f j → On (f.setIfInBounds 15 true) j := fun j x => (on_put (by omega)).2 (.inr x)
          have fn : On (f.setIfInBounds 15 true) 15 := (on_put (by omega)).2 (.inl rfl)
          exact hKK (upd (upd gv 28 (.bool true)) 32 (undef)) _ (by rw [upd_same e11]; exact ⟨hBx, vals_step (n := 15) (v := undef) hD (by decide) (by omega) P (fun _ => rfl)⟩)
        | 16, _ =>
          cases hio
          have off : ¬ On f 16 := on_off (by omega) hn
          have h11 : On f 11 := he ⟨11, .guard⟩ (by simp) rfl
          have e11 : gv 28 = .bool true := P 11 (by decide) rfl h11
          rw [e11]
          have HQ := Lib.hid P
          clear P
          refine skip_if (fun h => nomatch (show false = true from h)) ?_
          simp only [Act.put, List.setIfInBounds_toArray]
          have P := HQ.out
          have bk : ∀ j, j ≠ 16 → On (f.setIfInBounds 16 true) j → On f j := fun j hj x => on_back (by omega) x hj
          have fw : ∀ j, On f j → On (f.setIfInBounds 16 true) j := fun j x => (on_put (by omega)).2 (.inr x)
          have fn : On (f.setIfInBounds 16 true) 16 := (on_put (by omega)).2 (.inl rfl)
          exact hKK (upd (upd gv 28 (.bool true)) 33 (undef)) _ (by rw [upd_same e11]; exact ⟨hBx, vals_step (n := 16) (v := undef) hD (by decide) (by omega) P (fun _ => rfl)⟩)
        | 17, _ =>
          cases hio
          have off : ¬ On f 17 := on_off (by omega) hn
          have h11 : On f 11 := he ⟨11, .guard⟩ (by simp) rfl
          have e11 : gv 28 = .bool true := P 11 (by decide) rfl h11
          rw [e11]
          have HQ := Lib.hid P
          clear P
          refine skip_if (fun h => nomatch (show false = true from h)) ?_
          simp only [Act.put, List.setIfInBounds_toArray]
          have P := HQ.out
          have bk : ∀ j, j ≠ 17 → On (f.setIfInBounds 17 true) j → On f j := fun j hj x => on_back (by omega) x hj
          have fw : ∀ j, On f j → On (f.setIfInBounds 17 true) j := fun j x => (on_put (by omega)).2 (.inr x)
          have fn : On (f.setIfInBounds 17 true) 17 := (on_put (by omega)).2 (.inl rfl)
          exact hKK (upd (upd gv 28 (.bool true)) 34 (undef)) _ (by rw [upd_same e11]; exact ⟨hBx, vals_step (n := 17) (v := undef) hD (by decide) (by omega) P (fun _ => rfl)⟩)
        | 18, _ =>
          cases hio
          have off : ¬ On f 18 := on_off (by omega) hn
          have h11 : On f 11 := he ⟨11, .guard⟩ (by simp) rfl
          have e11 : gv 28 = .bool true := P 11 (by decide) rfl h11
          rw [e11]
          have HQ := Lib.hid P
          clear P
          refine skip_if (fun h => nomatch (show false = true from h)) ?_
          simp only [Act.put, List.setIfInBounds_toArray]
          have P := HQ.out
          have bk : ∀ j, j ≠ 18 → On (f.setIfInBounds 18 true) j → On f j := fun j hj x => on_back (by omega) x hj
          have fw : ∀ j, On f j → On (f.setIfInBounds 18 true) j := fun j x => (on_put (by omega)).2 (.inr x)
          have fn : On (f.setIfInBounds 18 true) 18 := (on_put (by omega)).2 (.inl rfl)
          exact hKK (upd (upd gv 28 (.bool true)) 35 (undef)) _ (by rw [upd_same e11]; exact ⟨hBx, vals_step (n := 18) (v := undef) hD (by decide) (by omega) P (fun _ => rfl)⟩)
        | 19, _ =>
          cases hio
          have off : ¬ On f 19 := on_off (by omega) hn
          have h11 : On f 11 := he ⟨11, .guard⟩ (by simp) rfl
          have e11 : gv 28 = .bool true := P 11 (by decide) rfl h11
          rw [e11]
          have HQ := Lib.hid P
          clear P
          refine skip_if (fun h => nomatch (show false = true from h)) ?_
          simp only [Act.put, List.setIfInBounds_toArray]
          have P := HQ.out
          have bk : ∀ j, j ≠ 19 → On (f.setIfInBounds 19 true) j → On f j := fun j hj x => on_back (by omega) x hj
          have fw : ∀ j, On f j → On (f.setIfInBounds 19 true) j := fun j x => (on_put (by omega)).2 (.inr x)
          have fn : On (f.setIfInBounds 19 true) 19 := (on_put (by omega)).2 (.inl rfl)
          exact hKK (upd (upd gv 28 (.bool true)) 36 (undef)) _ (by rw [upd_same e11]; exact ⟨hBx, vals_step (n := 19) (v := undef) hD (by decide) (by omega) P (fun _ => rfl)⟩)
        | 20, _ =>
          cases hio
          have off : ¬ On f 20 := on_off (by omega) hn
          have h11 : On f 11 := he ⟨11, .guard⟩ (by simp) rfl
          have e11 : gv 28 = .bool true := P 11 (by decide) rfl h11
          rw [e11]
          have HQ := Lib.hid P
          clear P
          refine skip_if (fun h => nomatch (show false = true from h)) ?_
          simp only [Act.put, List.setIfInBounds_toArray]
          have P := HQ.out
          have bk : ∀ j, j ≠ 20 → On (f.setIfInBounds 20 true) j → On f j := fun j hj x => on_back (by omega) x hj
          have fw : ∀ j, On f j → On (f.setIfInBounds 20 true) j := fun j x => (on_put (by omega)).2 (.inr x)
          have fn : On (f.setIfInBounds 20 true) 20 := (on_put (by omega)).2 (.inl rfl)
          exact hKK (upd (upd gv 28 (.bool true)) 37 (undef)) _ (by rw [upd_same e11]; exact ⟨hBx, vals_step (n := 20) (v := undef) hD (by decide) (by omega) P (fun _ => rfl)⟩)
        | 21, _ =>
          cases hio
          have off : ¬ On f 21 := on_off (by omega) hn
          have h11 : On f 11 := he ⟨11, .guard⟩ (by simp) rfl
          have e11 : gv 28 = .bool true := P 11 (by decide) rfl h11
          rw [e11]
          have HQ := Lib.hid P
          clear P
          refine skip_if (fun h => nomatch (show false = true from h)) ?_
          simp only [Act.put, List.setIfInBounds_toArray]
          have P := HQ.out
          have bk : ∀ j, j ≠ 21 → On (f.setIfInBounds 21 true) j → On f j := fun j hj x => on_back (by omega) x hj
          have fw : ∀ j, On f j → On (f.setIfInBounds 21 true) j := fun j x => (on_put (by omega)).2 (.inr x)
          have fn : On (f.setIfInBounds 21 true) 21 := (on_put (by omega)).2 (.inl rfl)
          exact hKK (upd (upd gv 28 (.bool true)) 38 (undef)) _ (by rw [upd_same e11]; exact ⟨hBx, vals_step (n := 21) (v := undef) hD (by decide) (by omega) P (fun _ => rfl)⟩)
        | 22, _ =>
          cases hio
          have off : ¬ On f 22 := on_off (by omega) hn
          have h11 : On f 11 := he ⟨11, .guard⟩ (by simp) rfl
          have e11 : gv 28 = .bool true := P 11 (by decide) rfl h11
          rw [e11]
          have HQ := Lib.hid P
          clear P
          refine skip_if (fun h => nomatch (show false = true from h)) ?_
          simp only [Act.put, List.setIfInBounds_toArray]
          have P := HQ.out
          have bk : ∀ j, j ≠ 22 → On (f.setIfInBounds 22 true) j → On f j := fun j hj x => on_back (by omega) x hj
          have fw : ∀ j, On f j → On (f.setIfInBounds 22 true) j := fun j x => (on_put (by omega)).2 (.inr x)
          have fn : On (f.setIfInBounds 22 true) 22 := (on_put (by omega)).2 (.inl rfl)
          exact hKK (upd (upd gv 28 (.bool true)) 39 (undef)) _ (by rw [upd_same e11]; exact ⟨hBx, vals_step (n := 22) (v := undef) hD (by decide) (by omega) P (fun _ => rfl)⟩)
        | 23, _ =>
          cases hio
          have off : ¬ On f 23 := on_off (by omega) hn
          have h11 : On f 11 := he ⟨11, .data⟩ (by simp) rfl
          have e11 : gv 28 = .bool true := P 11 (by decide) rfl h11
          have h22 : On f 22 := he ⟨22, .data⟩ (by simp) rfl
          have e22 : gv 39 = undef := P 22 (by decide) rfl h22
          rw [e11, e22]
          have HQ := Lib.hid P
          clear P
          go_simp
          have P := HQ.out
          have bk : ∀ j, j ≠ 23 → On (f.setIfInBounds 23 true) j → On f j := fun j hj x => on_back (by omega) x hj
          have fw : ∀ j, On f j → On (f.setIfInBounds 23 true) j := fun j x => (on_put (by omega)).2 (.inr x)
          have fn : On (f.setIfInBounds 23 true) 23 := (on_put (by omega)).2 (.inl rfl)
          exact hKK (upd (upd (upd gv 28 (.bool true)) 39 (undef)) 40 (.bool true)) _ (by rw [upd_same e11]; rw [upd_same e22]; exact ⟨hBx, vals_step (n := 23) (v := .bool true) hD (by decide) (by omega) P (fun _ => rfl)⟩)
        | 24, _ =>
          cases hio
          have off : ¬ On f 24 := on_off (by omega) hn
          have h23 : On f 23 := he ⟨23, .data⟩ (by simp) rfl
          have e23 : gv 40 = .bool true := P 23 (by decide) rfl h23
          rw [e23]
          have HQ := Lib.hid P
          clear P
          go_simp
          have P := HQ.out
          have bk : ∀ j, j ≠ 24 → On (f.setIfInBounds 24 true) j → On f j := fun j hj x => on_back (by omega) x hj
          have fw : ∀ j, On f j → On (f.setIfInBounds 24 true) j := fun j x => (on_put (by omega)).2 (.inr x)
          have fn : On (f.setIfInBounds 24 true) 24 := (on_put (by omega)).2 (.inl rfl)
          exact hKK (upd (upd gv 40 (.bool true)) 41 (.bool true)) _ (by rw [upd_same e23]; exact ⟨hBx, vals_step (n := 24) (v := .bool true) hD (by decide) (by omega) P (fun _ => rfl)⟩)
        | 25, _ =>
          cases hio
          have off : ¬ On f 25 := on_off (by omega) hn
          have h24 : On f 24 := he ⟨24, .guard⟩ (by simp) rfl
          have e24 : gv 41 = .bool true := P 24 (by decide) rfl h24
          rw [e24]
          have HQ := Lib.hid P
          clear P
          refine skip_if (fun h => nomatch (show false = true from h)) ?_
          simp only [Act.put, List.setIfInBounds_toArray]
          have P := HQ.out
          have bk : ∀ j, j ≠ 25 → On (f.setIfInBounds 25 true) j → On f j := fun j hj x => on_back (by omega) x hj
          have fw : ∀ j, On f j → On (f.setIfInBounds 25 true) j := fun j x => (on_put (by omega)).2 (.inr x)
          have fn : On (f.setIfInBounds 25 true) 25 := (on_put (by omega)).2 (.inl rfl)
          exact hKK (upd (upd gv 41 (.bool true)) 42 (undef)) _ (by rw [upd_same e24]; exact ⟨hBx, vals_step (n := 25) (v := undef) hD (by decide) (by omega) P (fun _ => rfl)⟩)
        | 26, _ =>
          cases hio
          have off : ¬ On f 26 := on_off (by omega) hn
          have h24 : On f 24 := he ⟨24, .guard⟩ (by simp) rfl
          have e24 : gv 41 = .bool true := P 24 (by decide) rfl h24
          rw [e24]
          have HQ := Lib.hid P
          clear P
          refine skip_if (fun h => nomatch (show false = true from h)) ?_
          simp only [Act.put, List.setIfInBounds_toArray]
          have P := HQ.out
          have bk : ∀ j, j ≠ 26 → On (f.setIfInBounds 26 true) j → On f j := fun j hj x => on_back (by omega) x hj
          have fw : ∀ j, On f j → On (f.setIfInBounds 26 true) j := fun j x => (on_put (by omega)).2 (.inr x)
          have fn : On (f.setIfInBounds 26 true) 26 := (on_put (by omega)).2 (.inl rfl)
          exact hKK (upd (upd gv 41 (.bool true)) 43 (undef)) _ (by rw [upd_same e24]; exact ⟨hBx, vals_step (n := 26) (v := undef) hD (by decide) (by omega) P (fun _ => rfl)⟩)
        | 27, _ =>
          cases hio
          have off : ¬ On f 27 := on_off (by omega) hn
          have h24 : On f 24 := he ⟨24, .guard⟩ (by simp) rfl
          have e24 : gv 41 = .bool true := P 24 (by decide) rfl h24
          rw [e24]
          have HQ := Lib.hid P
          clear P
          refine skip_if (fun h => nomatch (show false = true from h)) ?_
          simp only [Act.put, List.setIfInBounds_toArray]
          have P := HQ.out
          have bk : ∀ j, j ≠ 27 → On (f.setIfInBounds 27 true) j → On f j := fun j hj x => on_back (by omega) x hj
          have fw : ∀ j, On f j → On (f.setIfInBounds 27 true) j := fun j x => (on_put (by omega)).2 (.inr x)
          have fn : On (f.setIfInBounds 27 true) 27 := (on_put (by omega)).2 (.inl rfl)
          exact hKK (upd (upd gv 41 (.bool true)) 44 (undef)) _ (by rw [upd_same e24]; exact ⟨hBx, vals_step (n := 27) (v := undef) hD (by decide) (by omega) P (fun _ => rfl)⟩)
        | 28, _ =>
          cases hio
          have off : ¬ On f 28 := on_off (by omega) hn
          have h24 : On f 24 := he ⟨24, .guard⟩ (by simp) rfl
          have e24 : gv 41 = .bool true := P 24 (by decide) rfl h24
          rw [e24]
          have HQ := Lib.hid P
          clear P
          refine skip_if (fun h => nomatch (show false = true from h)) ?_
          simp only [Act.put, List.setIfInBounds_toArray]
          have P := HQ.out
          have bk : ∀ j, j ≠ 28 → On (f.setIfInBounds 28 true) j → On f j := fun j hj x => on_back (by omega) x hj
          have fw : ∀ j, On f j → On (f.setIfInBounds 28 true) j := fun j x => (on_put (by omega)).2 (.inr x)
          have fn : On (f.setIfInBounds 28 true) 28 := (on_put (by omega)).2 (.inl rfl)
          exact hKK (upd (upd gv 41 (.bool true)) 45 (undef)) _ (by rw [upd_same e24]; exact ⟨hBx, vals_step (n := 28) (v := undef) hD (by decide) (by omega) P (fun _ => rfl)⟩)
        | 29, _ =>
          cases hio
          have off : ¬ On f 29 := on_off (by omega) hn
          have h24 : On f 24 := he ⟨24, .guard⟩ (by simp) rfl
          have e24 : gv 41 = .bool true := P 24 (by decide) rfl h24
          rw [e24]
          have HQ := Lib.hid P
          clear P
          refine skip_if (fun h => nomatch (show false = true from h)) ?_
          simp only [Act.put, List.setIfInBounds_toArray]
          have P := HQ.out
          have bk : ∀ j, j ≠ 29 → On (f.setIfInBounds 29 true) j → On f j := fun j hj x => on_back (by omega) x hj
          have fw : ∀ j, On f j → On (f.setIfInBounds 29 true) j := fun j x => (on_put (by omega)).2 (.inr x)
          have fn : On (f.setIfInBounds 29 true) 29 := (on_put (by omega)).2 (.inl rfl)
          exact hKK (upd (upd gv 41 (.bool true)) 46 (undef)) _ (by rw [upd_same e24]; exact ⟨hBx, vals_step (n := 29) (v := undef) hD (by decide) (by omega) P (fun _ => rfl)⟩)
        | 30, _ =>
          cases hio
          have off : ¬ On f 30 := on_off (by omega) hn
          have h24 : On f 24 := he ⟨24, .guard⟩ (by simp) rfl
          have e24 : gv 41 = .bool true := P 24 (by decide) rfl h24
          rw [e24]
          have HQ := Lib.hid P
          clear P
          refine skip_if (fun h => nomatch (show false = true from h)) ?_
          simp only [Act.put, List.setIfInBounds_toArray]
          have P := HQ.out
          have bk : ∀ j, j ≠ 30 → On (f.setIfInBounds 30 true) j → On f j := fun j hj x => on_back (by omega) x hj
          have fw : ∀ j, On f j → On (f.setIfInBounds 30 true) j := fun j x => (on_put (by omega)).2 (.inr x)
          have fn : On (f.setIfInBounds 30 true) 30 := (on_put (by omega)).2 (.inl rfl)
          exact hKK (upd (upd gv 41 (.bool true)) 47 (undef)) _ (by rw [upd_same e24]; exact ⟨hBx, vals_step (n := 30) (v := undef) hD (by decide) (by omega) P (fun _ => rfl)⟩)
        | 31, _ =>
          cases hio
          have off : ¬ On f 31 := on_off (by omega) hn
          have h24 : On f 24 := he ⟨24, .guard⟩ (by simp) rfl
          have e24 : gv 41 = .bool true := P 24 (by decide) rfl h24
          rw [e24]
          have HQ := Lib.hid P
          clear P
          refine skip_if (fun h => nomatch (show false = true from h)) ?_
          simp only [Act.put, List.setIfInBounds_toArray]
          have P := HQ.out
          have bk : ∀ j, j ≠ 31 → On (f.setIfInBounds 31 true) j → On f j := fun j hj x => on_back (by omega) x hj
          have fw : ∀ j, On f j → On (f.setIfInBounds 31 true) j := fun j x => (on_put (by omega)).2 (.inr x)
          have fn : On (f.setIfInBounds 31 true) 31 := (on_put (by omega)).2 (.inl rfl)
          exact hKK (upd (upd gv 41 (.bool true)) 48 (undef)) _ (by rw [upd_same e24]; exact ⟨hBx, vals_step (n := 31) (v := undef) hD (by decide) (by omega) P (fun _ => rfl)⟩)
        | 32, _ =>
          cases hio
          have off : ¬ On f 32 := on_off (by omega) hn
          have h24 : On f 24 := he ⟨24, .guard⟩ (by simp) rfl
          have e24 : gv 41 = .bool true := P 24 (by decide) rfl h24
          rw [e24]
          have HQ := Lib.hid P
          clear P
          refine skip_if (fun h => nomatch (show false = true from h)) ?_
          simp only [Act.put, List.setIfInBounds_toArray]
          have P := HQ.out
          have bk : ∀ j, j ≠ 32 → On (f.setIfInBounds 32 true) j → On f j := fun j hj x => on_back (by omega) x hj
          have fw : ∀ j, On f j → On (f.setIfInBounds 32 true) j := fun j x => (on_put (by omega)).2 (.inr x)
          have fn : On (f.setIfInBounds 32 true) 32 := (on_put (by omega)).2 (.inl rfl)
          exact hKK (upd (upd gv 41 (.bool true)) 49 (undef)) _ (by rw [upd_same e24]; exact ⟨hBx, vals_step (n := 32) (v := undef) hD (by decide) (by omega) P (fun _ => rfl)⟩)
        | 33, _ =>
          cases hio
          have off : ¬ On f 33 := on_off (by omega) hn
          have h24 : On f 24 := he ⟨24, .guard⟩ (by simp) rfl
          have e24 : gv 41 = .bool true := P 24 (by decide) rfl h24
          rw [e24]
          have HQ := Lib.hid P
          clear P
          refine skip_if (fun h => nomatch (show false = true from h)) ?_
          simp only [Act.put, List.setIfInBounds_toArray]
          have P := HQ.out
          have bk : ∀ j, j ≠ 33 → On (f.setIfInBounds 33 true) j → On f j := fun j hj x => on_back (by omega) x hj
          have fw : ∀ j, On f j → On (f.setIfInBounds 33 true) j := fun j x => (on_put (by omega)).2 (.inr x)
          have fn : On (f.setIfInBounds 33 true) 33 := (on_put (by omega)).2 (.inl rfl)
          exact hKK (upd (upd gv 41 (.bool true)) 50 (undef)) _ (by rw [upd_same e24]; exact ⟨hBx, vals_step (n := 33) (v := undef) hD (by decide) (by omega) P (fun _ => rfl)⟩)
        | 34, _ =>
          cases hio
          have off : ¬ On f 34 := on_off (by omega) hn
          have h24 : On f 24 := he ⟨24, .guard⟩ (by simp) rfl
          have e24 : gv 41 = .bool true := P 24 (by decide) rfl h24
          rw [e24]
          have HQ := Lib.hid P
          clear P
          refine skip_if (fun h => nomatch (show false = true from h)) ?_
          simp only [Act.put, List.setIfInBounds_toArray]
          have P := HQ.out
          have bk : ∀ j, j ≠ 34 → On (f.setIfInBounds 34 true) j → On f j := fun j hj x => on_back (by omega) x hj
          have fw : ∀ j, On f j → On (f.setIfInBounds 34 true) j := fun j x => (on_put (by omega)).2 (.inr x)
          have fn : On (f.setIfInBounds 34 true) 34 := (on_put (by omega)).2 (.inl rfl)
          exact hKK (upd (upd gv 41 (.bool true)) 51 (undef)) _ (by rw [upd_same e24]; exact ⟨hBx, vals_step (n := 34) (v := undef) hD (by decide) (by omega) P (fun _ => rfl)⟩)
        | 35, _ =>
          cases hio
          have off : ¬ On f 35 := on_off (by omega) hn
          have h24 : On f 24 := he ⟨24, .guard⟩ (by simp) rfl
          have e24 : gv 41 = .bool true := P 24 (by decide) rfl h24
          rw [e24]
          have HQ := Lib.hid P
          clear P
          refine skip_if (fun h => nomatch (show false = true from h)) ?_
          simp only [Act.put, List.setIfInBounds_toArray]
          have P := HQ.out
          have bk : ∀ j, j ≠ 35 → On (f.setIfInBounds 35 true) j → On f j := fun j hj x => on_back (by omega) x hj
          have fw : ∀ j, On f j → On (f.setIfInBounds 35 true) j := fun j x => (on_put (by omega)).2 (.inr x)
          have fn : On (f.setIfInBounds 35 true) 35 := (on_put (by omega)).2 (.inl rfl)
          exact hKK (upd (upd gv 41 (.bool true)) 52 (undef)) _ (by rw [upd_same e24]; exact ⟨hBx, vals_step (n := 35) (v := undef) hD (by decide) (by omega) P (fun _ => rfl)⟩)
        | 36, _ =>
          cases hio
          have off : ¬ On f 36 := on_off (by omega) hn
          have h24 : On f 24 := he ⟨24, .guard⟩ (by simp) rfl
          have e24 : gv 41 = .bool true := P 24 (by decide) rfl h24
          rw [e24]
          have HQ := Lib.hid P
          clear P
          refine skip_if (fun h => nomatch (show false = true from h)) ?_
          simp only [Act.put, List.setIfInBounds_toArray]
          have P := HQ.out
          have bk : ∀ j, j ≠ 36 → On (f.setIfInBounds 36 true) j → On f j := fun j hj x => on_back (by omega) x hj
          have fw : ∀ j, On f j → On (f.setIfInBounds 36 true) j := fun j x => (on_put (by omega)).2 (.inr x)
          have fn : On (f.setIfInBounds 36 true) 36 := (on_put (by omega)).2 (.inl rfl)
          exact hKK (upd (upd gv 41 (.bool true)) 53 (undef)) _ (by rw [upd_same e24]; exact ⟨hBx, vals_step (n := 36) (v := undef) hD (by decide) (by omega) P (fun _ => rfl)⟩)
        | 37, _ =>
          cases hio
          have off : ¬ On f 37 := on_off (by omega) hn
          have h24 : On f 24 := he ⟨24, .guard⟩ (by simp) rfl
          have e24 : gv 41 = .bool true := P 24 (by decide) rfl h24
          rw [e24]
          have HQ := Lib.hid P
          clear P
          refine skip_if (fun h => nomatch (show false = true from h)) ?_
          simp only [Act.put, List.setIfInBounds_toArray]
          have P := HQ.out
          have bk : ∀ j, j ≠ 37 → On (f.setIfInBounds 37 true) j → On f j := fun j hj x => on_back (by omega) x hj
          have fw : ∀ j, On f j → On (f.setIfInBounds 37 true) j := fun j x => (on_put (by omega)).2 (.inr x)
          have fn : On (f.setIfInBounds 37 true) 37 := (on_put (by omega)).2 (.inl rfl)
          exact hKK (upd (upd gv 41 (.bool true)) 54 (undef)) _ (by rw [upd_same e24]; exact ⟨hBx, vals_step (n := 37) (v := undef) hD (by decide) (by omega) P (fun _ => rfl)⟩)
        | 38, _ =>
          cases hio
          have off : ¬ On f 38 := on_off (by omega) hn
          have h24 : On f 24 := he ⟨24, .data⟩ (by simp) rfl
          have e24 : gv 41 = .bool true := P 24 (by decide) rfl h24
          have h37 : On f 37 := he ⟨37, .data⟩ (by simp) rfl
          have e37 : gv 54 = undef := P 37 (by decide) rfl h37
          rw [e24, e37]
          have HQ := Lib.hid P
          clear P
          go_simp
          have P := HQ.out
          have bk : ∀ j, j ≠ 38 → On (f.setIfInBounds 38 true) j → On f j := fun j hj x => on_back (by omega) x hj
          have fw : ∀ j, On f j → On (f.setIfInBounds 38 true) j := fun j x => (on_put (by omega)).2 (.inr x)
          have fn : On (f.setIfInBounds 38 true) 38 := (on_put (by omega)).2 (.inl rfl)
          exact hKK (upd (upd (upd gv 41 (.bool true)) 54 (undef)) 55 (.bool true)) _ (by rw [upd_same e24]; rw [upd_same e37]; exact ⟨hBx, vals_step (n := 38) (v := .bool true) hD (by decide) (by omega) P (fun _ => rfl)⟩)
      · rintro f gv w5 hall hs' ⟨hBx, P⟩
        replace hs' : f.size = 39 := hs'
        have on : ∀ j, j < 39 → On f j := fun j hj => on_all hall hs' j hj
        have e6 : gv 55 = .bool true := P 38 (by decide) rfl (on 38 (by decide))
        have BX := Lib.hid hBx
        clear P hBx hall hs' on hD
        rw [e6]
        go_wp2_with fail
        go_ret
        exact ⟨retb HNO.out.symm, hB.out.step BX.out⟩
    by_cases e1 : p.to = q.to
    case neg =>
      have HNO := Lib.hid (HN.out (fun h => e1 (by rw [h])))
      have HD := Lib.hid (show (p.fr != q.fr) = false by simpa using e0)
      have HD1 := Lib.hid (show (p.to != q.to) = true by simpa using e1)
      clear e0 e1
      go_upto_region 6 with fail
      have hD : ∀ j, j < 39 → ∀ n, n < 39 → j ≠ n → dkN [17, 18, 19, 20, 21, 22, 23, 24, 25, 26, 27, 28, 29, 30, 31, 32, 33, 34, 35, 36, 37, 38, 39, 40, 41, 42, 43, 44, 45, 46, 47, 48, 49, 50, 51, 52, 53, 54, 55] j ≠ dkN [17, 18, 19, 20, 21, 22, 23, 24, 25, 26, 27, 28, 29, 30, 31, 32, 33, 34, 35, 36, 37, 38, 39, 40, 41, 42, 43, 44, 45, 46, 47, 48, 49, 50, 51, 52, 53, 54, 55] n := by decide +kernel
      refine region_fun (by kernel_rfl) (by kernel_rfl) (fun gv => #[.slice (some ⟨b, fo, none⟩) n1 c1, .slice (some ⟨b', fo', none⟩) n1 c2, undef, undef, gv 4, .int .i64 (i : Int), .slice (some ⟨b, fo, none⟩) n1 c1, .int .i64 (n1 : Int), .slice (some ⟨b', fo', none⟩) n1 c2, .int .i64 (n1 : Int), .bool false, .int .i64 (i : Int), .slice (some ⟨b, fo, none⟩) n1 c1, .int .i64 (n1 : Int), .bool true, gv 15, gv 16, gv 17, gv 18, gv 19, gv 20, gv 21, gv 22, gv 23, gv 24, gv 25, gv 26, gv 27, gv 28, gv 29, gv 30, gv 31, gv 32, gv 33, gv 34, gv 35, gv 36, gv 37, gv 38, gv 39, gv 40, gv 41, gv 42, gv 43, gv 44, gv 45, gv 46, gv 47, gv 48, gv 49, gv 50, gv 51, gv 52, gv 53, gv 54, gv 55]) rfl (fun f gv wx => Below wr.heap.size wr wx ∧ (∀ j, j < 39 → (fun j => false) j = false → On f j → gv (dkN [17, 18, 19, 20, 21, 22, 23, 24, 25, 26, 27, 28, 29, 30, 31, 32, 33, 34, 35, 36, 37, 38, 39, 40, 41, 42, 43, 44, 45, 46, 47, 48, 49, 50, 51, 52, 53, 54, 55] j) = vkN [.slice (some ⟨b, fo, none⟩) n1 c1, .int .i64 (i : Int), .pointer (some ⟨b, fo + i * 3, none⟩), .pointer (some ⟨b, fo + i * 3, none⟩), .int .i64 p.fr, .slice (some ⟨b', fo', none⟩) n1 c2, .int .i64 (i : Int), .pointer (some ⟨b', fo' + i * 3, none⟩), .pointer (some ⟨b', fo' + i * 3, none⟩), .int .i64 q.fr, .bool false, .bool false, .slice (some ⟨b, fo, none⟩) n1 c1, .int .i64 (i : Int), .pointer (some ⟨b, fo + i * 3, none⟩), .pointer (some ⟨b, fo + i * 3 + 1, none⟩), .int .i64 p.to, .slice (some ⟨b', fo', none⟩) n1 c2, .int .i64 (i : Int), .pointer (some ⟨b', fo' + i * 3, none⟩), .pointer (some ⟨b', fo' + i * 3 + 1, none⟩), .int .i64 q.to, .bool true, .bool true, .bool true, undef, undef, undef, undef, undef, undef, undef, undef, undef, undef, undef, undef, undef, .bool true] j)) ?_ ?_ ?_
      · have hoff : ∀ j, ¬ On (Array.replicate 39 false) j := by
          intro j hj; simp only [On, Array.getD_eq_getD_getElem?, Array.getElem?_replicate] at hj; split at hj <;> simp at hj
        exact ⟨(Below.refl _ _).drew, fun j _ _ x => absurd x (hoff _)⟩
      · rintro i' o' f gv wm hio hs' hn he ⟨hBx, P⟩ KK hKK
        have hi' : i' < 39 := (Array.getElem?_eq_some_iff.1 hio).1
        replace hs' : f.size = 39 := hs'
        match i', hi' with
        | 0, _ =>
          cases hio
          have off : ¬ On f 0 := on_off (by omega) hn
          have HQ := Lib.hid P
          clear P
          go_simp
          have P := HQ.out
          have bk : ∀ j, j ≠ 0 → On (f.setIfInBounds 0 true) j → On f j := fun j hj x => on_back (by omega) x hj
          have fw : ∀ j, On f j → On (f.setIfInBounds 0 true) j := fun j x => (on_put (by omega)).2 (.inr x)
          have fn : On (f.setIfInBounds 0 true) 0 := (on_put (by omega)).2 (.inl rfl)
          exact hKK (upd gv 17 (.slice (some ⟨b, fo, none⟩) n1 c1)) _ (by exact ⟨hBx, vals_step (n := 0) (v := .slice (some ⟨b, fo, none⟩) n1 c1) hD (by decide) (by omega) P (fun _ => rfl)⟩)
        | 1, _ =>
          cases hio
          have off : ¬ On f 1 := on_off (by omega) hn
          have HQ := Lib.hid P
          clear P
          go_simp
          have P := HQ.out
          have bk : ∀ j, j ≠ 1 → On (f.setIfInBounds 1 true) j → On f j := fun j hj x => on_back (by omega) x hj
          have fw : ∀ j, On f j → On (f.setIfInBounds 1 true) j := fun j x => (on_put (by omega)).2 (.inr x)
          have fn : On (f.setIfInBounds 1 true) 1 := (on_put (by omega)).2 (.inl rfl)
          exact hKK (upd gv 18 (.int .i64 (i : Int))) _ (by exact ⟨hBx, vals_step (n := 1) (v := .int .i64 (i : Int)) hD (by decide) (by omega) P (fun _ => rfl)⟩)
        | 2, _ =>
          cases hio
          have off : ¬ On f 2 := on_off (by omega) hn
          have h0 : On f 0 := he ⟨0, .data⟩ (by simp) rfl
          have e0 : gv 17 = .slice (some ⟨b, fo, none⟩) n1 c1 := P 0 (by decide) rfl h0
          have h1 : On f 1 := he ⟨1, .data⟩ (by simp) rfl
          have e1 : gv 18 = .int .i64 (i : Int) := P 1 (by decide) rfl h1
          rw [e0, e1]
          have HQ := Lib.hid P
          clear P
          go_simp
          have P := HQ.out
          have bk : ∀ j, j ≠ 2 → On (f.setIfInBounds 2 true) j → On f j := fun j hj x => on_back (by omega) x hj
          have fw : ∀ j, On f j → On (f.setIfInBounds 2 true) j := fun j x => (on_put (by omega)).2 (.inr x)
          have fn : On (f.setIfInBounds 2 true) 2 := (on_put (by omega)).2 (.inl rfl)
          exact hKK (upd (upd (upd gv 17 (.slice (some ⟨b, fo, none⟩) n1 c1)) 18 (.int .i64 (i : Int))) 19 (.pointer (some ⟨b, fo + i * 3, none⟩))) _ (by rw [upd_same e0]; rw [upd_same e1]; exact ⟨hBx, vals_step (n := 2) (v := .pointer (some ⟨b, fo + i * 3, none⟩)) hD (by decide) (by omega) P (fun _ => rfl)⟩)
        | 3, _ =>
          cases hio
          have off : ¬ On f 3 := on_off (by omega) hn
          have h2 : On f 2 := he ⟨2, .data⟩ (by simp) rfl
          have e2 : gv 19 = .pointer (some ⟨b, fo + i * 3, none⟩) := P 2 (by decide) rfl h2
          rw [e2]
          have HQ := Lib.hid P
          clear P
          go_simp
          have P := HQ.out
          have bk : ∀ j, j ≠ 3 → On (f.setIfInBounds 3 true) j → On f j := fun j hj x => on_back (by omega) x hj
          have fw : ∀ j, On f j → On (f.setIfInBounds 3 true) j := fun j x => (on_put (by omega)).2 (.inr x)
          have fn : On (f.setIfInBounds 3 true) 3 := (on_put (by omega)).2 (.inl rfl)
          exact hKK (upd (upd gv 19 (.pointer (some ⟨b, fo + i * 3, none⟩))) 20 (.pointer (some ⟨b, fo + i * 3, none⟩))) _ (by rw [upd_same e2]; exact ⟨hBx, vals_step (n := 3) (v := .pointer (some ⟨b, fo + i * 3, none⟩)) hD (by decide) (by omega) P (fun _ => rfl)⟩)
        | 4, _ =>
          cases hio
          have off : ¬ On f 4 := on_off (by omega) hn
          have h3 : On f 3 := he ⟨3, .data⟩ (by simp) rfl
          have e3 : gv 20 = .pointer (some ⟨b, fo + i * 3, none⟩) := P 3 (by decide) rfl h3
          have d0 := carry_cell HG.out.1 hBx
          rw [e3]
          have HQ := Lib.hid P
          clear P
          go_simp
          have P := HQ.out
          have bk : ∀ j, j ≠ 4 → On (f.setIfInBounds 4 true) j → On f j := fun j hj x => on_back (by omega) x hj
          have fw : ∀ j, On f j → On (f.setIfInBounds 4 true) j := fun j x => (on_put (by omega)).2 (.inr x)
          have fn : On (f.setIfInBounds 4 true) 4 := (on_put (by omega)).2 (.inl rfl)
          exact hKK (upd (upd gv 20 (.pointer (some ⟨b, fo + i * 3, none⟩))) 21 (.int .i64 p.fr)) _ (by rw [upd_same e3]; exact ⟨hBx, vals_step (n := 4) (v := .int .i64 p.fr) hD (by decide) (by omega) P (fun _ => rfl)⟩)
        | 5, _ =>
          cases hio
          have off : ¬ On f 5 := on_off (by omega) hn
          have HQ := Lib.hid P
          clear P
          go_simp
          have P := HQ.out
          have bk : ∀ j, j ≠ 5 → On (f.setIfInBounds 5 true) j → On f j := fun j hj x => on_back (by omega) x hj
          have fw : ∀ j, On f j → On (f.setIfInBounds 5 true) j := fun j x => (on_put (by omega)).2 (.inr x)
          have fn : On (f.setIfInBounds 5 true) 5 := (on_put (by omega)).2 (.inl rfl)
          exact hKK (upd gv 22 (.slice (some ⟨b', fo', none⟩) n1 c2)) _ (by exact ⟨hBx, vals_step (n := 5) (v := .slice (some ⟨b', fo', none⟩) n1 c2) hD (by decide) (by omega) P (fun _ => rfl)⟩)
        | 6, _ =>
          cases hio
          have off : ¬ On f 6 := on_off (by omega) hn
          have HQ := Lib.hid P
          clear P
          go_simp
          have P := HQ.out
          have bk : ∀ j, j ≠ 6 → On (f.setIfInBounds 6 true) j → On f j := fun j hj x => on_back (by omega) x hj
          have fw : ∀ j, On f j → On (f.setIfInBounds 6 true) j := fun j x => (on_put (by omega)).2 (.inr x)
          have fn : On (f.setIfInBounds 6 true) 6 := (on_put (by omega)).2 (.inl rfl)
          exact hKK (upd gv 23 (.int .i64 (i : Int))) _ (by exact ⟨hBx, vals_step (n := 6) (v := .int .i64 (i : Int)) hD (by decide) (by omega) P (fun _ => rfl)⟩)
        | 7, _ =>
          cases hio
          have off : ¬ On f 7 := on_off (by omega) hn
          have h5 : On f 5 := he ⟨5, .data⟩ (by simp) rfl
          have e5 : gv 22 = .slice (some ⟨b', fo', none⟩) n1 c2 := P 5 (by decide) rfl h5
          have h6 : On f 6 := he ⟨6, .data⟩ (by simp) rfl
          have e6 : gv 23 = .int .i64 (i : Int) := P 6 (by decide) rfl h6
          rw [e5, e6]
          have HQ := Lib.hid P
          clear P
          go_simp
          have P := HQ.out
          have bk : ∀ j, j ≠ 7 → On (f.setIfInBounds 7 true) j → On f j := fun j hj x => on_back (by omega) x hj
          have fw : ∀ j, On f j → On (f.setIfInBounds 7 true) j := fun j x => (on_put (by omega)).2 (.inr x)
          have fn : On (f.setIfInBounds 7 true) 7 := (on_put (by omega)).2 (.inl rfl)
          exact hKK (upd (upd (upd gv 22 (.slice (some ⟨b', fo', none⟩) n1 c2)) 23 (.int .i64 (i : Int))) 24 (.pointer (some ⟨b', fo' + i * 3, none⟩))) _ (by rw [upd_same e5]; rw [upd_same e6]; exact ⟨hBx, vals_step (n := 7) (v := .pointer (some ⟨b', fo' + i * 3, none⟩)) hD (by decide) (by omega) P (fun _ => rfl)⟩)
        | 8, _ =>
          cases hio
          have off : ¬ On f 8 := on_off (by omega) hn
          have h7 : On f 7 := he ⟨7, .data⟩ (by simp) rfl
          have e7 : gv 24 = .pointer (some ⟨b', fo' + i * 3, none⟩) := P 7 (by decide) rfl h7
          rw [e7]
          have HQ := Lib.hid P
          clear P
          go_simp
          have P := HQ.out
          have bk : ∀ j, j ≠ 8 → On (f.setIfInBounds 8 true) j → On f j := fun j hj x => on_back (by omega) x hj
          have fw : ∀ j, On f j → On (f.setIfInBounds 8 true) j := fun j x => (on_put (by omega)).2 (.inr x)
          have fn : On (f.setIfInBounds 8 true) 8 := (on_put (by omega)).2 (.inl rfl)
          exact hKK (upd (upd gv 24 (.pointer (some ⟨b', fo' + i * 3, none⟩))) 25 (.pointer (some ⟨b', fo' + i * 3, none⟩))) _ (by rw [upd_same e7]; exact ⟨hBx, vals_step (n := 8) (v := .pointer (some ⟨b', fo' + i * 3, none⟩)) hD (by decide) (by omega) P (fun _ => rfl)⟩)
        | 9, _ =>
          cases hio
          have off : ¬ On f 9 := on_off (by omega) hn
          have h8 : On f 8 := he ⟨8, .data⟩ (by simp) rfl
          have e8 : gv 25 = .pointer (some ⟨b', fo' + i * 3, none⟩) := P 8 (by decide) rfl h8
          have d0 := carry_cell HK.out.1 hBx
          rw [e8]
          have HQ := Lib.hid P
          clear P
          go_simp
          have P := HQ.out
          have bk : ∀ j, j ≠ 9 → On (f.setIfInBounds 9 true) j → On f j := fun j hj x => on_back (by omega) x hj
          have fw : ∀ j, On f j → On (f.setIfInBounds 9 true) j := fun j x => (on_put (by omega)).2 (.inr x)
          have fn : On (f.setIfInBounds 9 true) 9 := (on_put (by omega)).2 (.inl rfl)
          exact hKK (upd (upd gv 25 (.pointer (some ⟨b', fo' + i * 3, none⟩))) 26 (.int .i64 q.fr)) _ (by rw [upd_same e8]; exact ⟨hBx, vals_step (n := 9) (v := .int .i64 q.fr) hD (by decide) (by omega) P (fun _ => rfl)⟩)
        | 10, _ =>
          cases hio
          have off : ¬ On f 10 := on_off (by omega) hn
          have h4 : On f 4 := he ⟨4, .data⟩ (by simp) rfl
          have e4 : gv 21 = .int .i64 p.fr := P 4 (by decide) rfl h4
          have h9 : On f 9 := he ⟨9, .data⟩ (by simp) rfl
          have e9 : gv 26 = .int .i64 q.fr := P 9 (by decide) rfl h9
          have d0 := HD.out
          rw [e4, e9]
          have HQ := Lib.hid P
          clear P
          go_simp
          have P := HQ.out
          have bk : ∀ j, j ≠ 10 → On (f.setIfInBounds 10 true) j → On f j := fun j hj x => on_back (by omega) x hj
          have fw : ∀ j, On f j → On (f.setIfInBounds 10 true) j := fun j x => (on_put (by omega)).2 (.inr x)
          have fn : On (f.setIfInBounds 10 true) 10 := (on_put (by omega)).2 (.inl rfl)
          exact hKK (upd (upd (upd gv 21 (.int .i64 p.fr)) 26 (.int .i64 q.fr)) 27 (.bool false)) _ (by rw [upd_same e4]; rw [upd_same e9]; exact ⟨hBx, vals_step (n := 10) (v := .bool false) hD (by decide) (by omega) P (fun _ => rfl)⟩)
        | 11, _ =>
          cases hio
          have off : ¬ On f 11 := on_off (by omega) hn
          have h10 : On f 10 := he ⟨10, .data⟩ (by simp) rfl
          have e10 : gv 27 = .bool false := P 10 (by decide) rfl h10
          rw [e10]
          have HQ := Lib.hid P
          clear P
          go_simp
          have P := HQ.out
          have bk : ∀ j, j ≠ 11 → On (f.setIfInBounds 11 true) j → On f j := fun j hj x => on_back (by omega) x hj
          have fw : ∀ j, On f j → On (f.setIfInBounds 11 true) j := fun j x => (on_put (by omega)).2 (.inr x)
          have fn : On (f.setIfInBounds 11 true) 11 := (on_put (by omega)).2 (.inl rfl)
          exact hKK (upd (upd gv 27 (.bool false)) 28 (.bool false)) _ (by rw [upd_same e10]; exact ⟨hBx, vals_step (n := 11) (v := .bool false) hD (by decide) (by omega) P (fun _ => rfl)⟩)
        | 12, _ =>
          cases hio
          have off : ¬ On f 12 := on_off (by omega) hn
          have h11 : On f 11 := he ⟨11, .guard⟩ (by simp) rfl
          have e11 : gv 28 = .bool false := P 11 (by decide) rfl h11
          rw [e11]
          rw [if_pos (by rfl)]
          have HQ := Lib.hid P
          clear P
          go_simp
          have P := HQ.out
          have bk : ∀ j, j ≠ 12 → On (f.setIfInBounds 12 true) j → On f j := fun j hj x => on_back (by omega) x hj
          have fw : ∀ j, On f j → On (f.setIfInBounds 12 true) j := fun j x => (on_put (by omega)).2 (.inr x)
          have fn : On (f.setIfInBounds 12 true) 12 := (on_put (by omega)).2 (.inl rfl)
          exact hKK (upd (upd gv 28 (.bool false)) 29 (.slice (some ⟨b, fo, none⟩) n1 c1)) _ (by rw [upd_same e11]; exact ⟨hBx, vals_step (n := 12) (v := .slice (some ⟨b, fo, none⟩) n1 c1) hD (by decide) (by omega) P (fun _ => rfl)⟩)
        | 13, _ =>
          cases hio
          have off : ¬ On f 13 := on_off (by omega) hn
          have h11 : On f 11 := he ⟨11, .guard⟩ (by simp) rfl
          have e11 : gv 28 = .bool false := P 11 (by decide) rfl h11
          rw [e11]
          rw [if_pos (by rfl)]
          have HQ := Lib.hid P
          clear P
          go_simp
          have P := HQ.out
          have bk : ∀ j, j ≠ 13 → On (f.setIfInBounds 13 true) j → On f j := fun j hj x => on_back (by omega) x hj
          have fw : ∀ j, On f j → On (f.setIfInBounds 13 true) j := fun j x => (on_put (by omega)).2 (.inr x)
          have fn : On (f.setIfInBounds 13 true) 13 := (on_put (by omega)).2 (.inl rfl)
          exact hKK (upd (upd gv 28 (.bool false)) 30 (.int .i64 (i : Int))) _ (by rw [upd_same e11]; exact ⟨hBx, vals_step (n := 13) (v := .int .i64 (i : Int)) hD (by decide) (by omega) P (fun _ => rfl)⟩)
        | 14, _ =>
          cases hio
          have off : ¬ On f 14 := on_off (by omega) hn
          have h11 : On f 11 := he ⟨11, .guard⟩ (by simp) rfl
          have e11 : gv 28 = .bool false := P 11 (by decide) rfl h11
          have h12 : On f 12 := he ⟨12, .data⟩ (by simp) rfl
          have e12 : gv 29 = .slice (some ⟨b, fo, none⟩) n1 c1 := P 12 (by decide) rfl h12
          have h13 : On f 13 := he ⟨13, .data⟩ (by simp) rfl
          have e13 : gv 30 = .int .i64 (i : Int) := P 13 (by decide) rfl h13
          rw [e11, e12, e13]
          rw [if_pos (by rfl)]
          have HQ := Lib.hid P
          clear P
          go_simp
          have P := HQ.out
          have bk : ∀ j, j ≠ 14 → On (f.setIfInBounds 14 true) j → On f j := fun j hj x => on_back (by omega) x hj
          have fw : ∀ j, On f j → On (f.setIfInBounds 14 true) j := fun j x => (on_put (by omega)).2 (.inr x)
          have fn : On (f.setIfInBounds 14 true) 14 := (on_put (by omega)).2 (.inl rfl)
          exact hKK (upd (upd (upd (upd gv 28 (.bool false)) 29 (.slice (some ⟨b, fo, none⟩) n1 c1)) 30 (.int .i64 (i : Int))) 31 (.pointer (some ⟨b, fo + i * 3, none⟩))) _ (by rw [upd_same e11]; rw [upd_same e12]; rw [upd_same e13]; exact ⟨hBx, vals_step (n := 14) (v := .pointer (some ⟨b, fo + i * 3, none⟩)) hD (by decide) (by omega) P (fun _ => rfl)⟩)
        | 15, _ =>
          cases hio
          have off : ¬ On f 15 := on_off (by omega) hn
          have h11 : On f 11 := he ⟨11, .guard⟩ (by simp) rfl
          have e11 : gv 28 = .bool false := P 11 (by decide) rfl h11
          have h14 : On f 14 := he ⟨14, .data⟩ (by simp) rfl
          have e14 : gv 31 = .pointer (some ⟨b, fo + i * 3, none⟩) := P 14 (by decide) rfl h14
          rw [e11, e14]
          rw [if_pos (by rfl)]
          have HQ := Lib.hid P
          clear P
          go_simp
          have P := HQ.out
          have bk : ∀ j, j ≠ 15 → On (f.setIfInBounds 15 true) j → On f j := fun j hj x => on_back (by omega) x hj
          have fw : ∀ j, On f j → On (f.setIfInBounds 15 true) j := fun j x => (on_put (by omega)).2 (.inr x)
          have fn : On (f.setIfInBounds 15 true) 15 := (on_put (by omega)).2 (.inl rfl)
          exact hKK (upd (upd (upd gv 28 (.bool false)) 31 (.pointer (some ⟨b, fo + i * 3, none⟩))) 32 (.pointer (some ⟨b, fo + i * 3 + 1, none⟩))) _ (by rw [upd_same e11]; rw [upd_same e14]; exact ⟨hBx, vals_step (n := 15) (v := .pointer (some ⟨b, fo + i * 3 + 1, none⟩)) hD (by decide) (by omega) P (fun _ => rfl)⟩)
        | 16, _ =>
          cases hio
          have off : ¬ On f 16 := on_off (by omega) hn
          have h11 : On f 11 := he ⟨11, .guard⟩ (by simp) rfl
          have e11 : gv 28 = .bool false := P 11 (by decide) rfl h11
          have h15 : On f 15 := he ⟨15, .data⟩ (by simp) rfl
          have e15 : gv 32 = .pointer (some ⟨b, fo + i * 3 + 1, none⟩) := P 15 (by decide) rfl h15
          have d0 := carry_cell HG.out.2.1 hBx
          rw [e11, e15]
          rw [if_pos (by rfl)]
          have HQ := Lib.hid P
          clear P
          go_simp
          have P := HQ.out
          have bk : ∀ j, j ≠ 16 → On (f.setIfInBounds 16 true) j → On f j := fun j hj x => on_back (by omega) x hj
          have fw : ∀ j, On f j → On (f.setIfInBounds 16 true) j := fun j x => (on_put (by omega)).2 (.inr x)
          have fn : On (f.setIfInBounds 16 true) 16 := (on_put (by omega)).2 (.inl rfl)
          exact hKK (upd (upd (upd gv 28 (.bool false)) 32 (.pointer (some ⟨b, fo + i * 3 + 1, none⟩))) 33 (.int .i64 p.to)) _ (by rw [upd_same e11]; rw [upd_same e15]; exact ⟨hBx, vals_step (n := 16) (v := .int .i64 p.to) hD (by decide) (by omega) P (fun _ => rfl)⟩)
        | 17, _ =>
          cases hio
          have off : ¬ On f 17 := on_off (by omega) hn
          have h11 : On f 11 := he ⟨11, .guard⟩ (by simp) rfl
          have e11 : gv 28 = .bool false := P 11 (by decide) rfl h11
          rw [e11]
          rw [if_pos (by rfl)]
          have HQ := Lib.hid P
          clear P
          go_simp
          have P := HQ.out
          have bk : ∀ j, j ≠ 17 → On (f.setIfInBounds 17 true) j → On f j := fun j hj x => on_back (by omega) x hj
          have fw : ∀ j, On f j → On (f.setIfInBounds 17 true) j := fun j x => (on_put (by omega)).2 (.inr x)
          have fn : On (f.setIfInBounds 17 true) 17 := (on_put (by omega)).2 (.inl rfl)
          exact hKK (upd (upd gv 28 (.bool false)) 34 (.slice (some ⟨b', fo', none⟩) n1 c2)) _ (by rw [upd_same e11]; exact ⟨hBx, vals_step (n := 17) (v := .slice (some ⟨b', fo', none⟩) n1 c2) hD (by decide) (by omega) P (fun _ => rfl)⟩)
        | 18, _ =>
          cases hio
          have off : ¬ On f 18 := on_off (by omega) hn
          have h11 : On f 11 := he ⟨11, .guard⟩ (by simp) rfl
          have e11 : gv 28 = .bool false := P 11 (by decide) rfl h11
          rw [e11]
          rw [if_pos (by rfl)]
          have HQ := Lib.hid P
          clear P
          go_simp
          have P := HQ.out
          have bk : ∀ j, j ≠ 18 → On (f.setIfInBounds 18 true) j → On f j := fun j hj x => on_back (by omega) x hj
          have fw : ∀ j, On f j → On (f.setIfInBounds 18 true) j := fun j x => (on_put (by omega)).2 (.inr x)
          have fn : On (f.setIfInBounds 18 true) 18 := (on_put (by omega)).2 (.inl rfl)
          exact hKK (upd (upd gv 28 (.bool false)) 35 (.int .i64 (i : Int))) _ (by rw [upd_same e11]; exact ⟨hBx, vals_step (n := 18) (v := .int .i64 (i : Int)) hD (by decide) (by omega) P (fun _ => rfl)⟩)
        | 19, _ =>
          cases hio
          have off : ¬ On f 19 := on_off (by omega) hn
          have h11 : On f 11 := he ⟨11, .guard⟩ (by simp) rfl
          have e11 : gv 28 = .bool false := P 11 (by decide) rfl h11
          have h17 : On f 17 := he ⟨17, .data⟩ (by simp) rfl
          have e17 : gv 34 = .slice (some ⟨b', fo', none⟩) n1 c2 := P 17 (by decide) rfl h17
          have h18 : On f 18 := he ⟨18, .data⟩ (by simp) rfl
          have e18 : gv 35 = .int .i64 (i : Int) := P 18 (by decide) rfl h18
          rw [e11, e17, e18]
          rw [if_pos (by rfl)]
          have HQ := Lib.hid P
          clear P
          go_simp
          have P := HQ.out
          have bk : ∀ j, j ≠ 19 → On (f.setIfInBounds 19 true) j → On f j := fun j hj x => on_back (by omega) x hj
          have fw : ∀ j, On f j → On (f.setIfInBounds 19 true) j := fun j x => (on_put (by omega)).2 (.inr x)
          have fn : On (f.setIfInBounds 19 true) 19 := (on_put (by omega)).2 (.inl rfl)
          exact hKK (upd (upd (upd (upd gv 28 (.bool false)) 34 (.slice (some ⟨b', fo', none⟩) n1 c2)) 35 (.int .i64 (i : Int))) 36 (.pointer (some ⟨b', fo' + i * 3, none⟩))) _ (by rw [upd_same e11]; rw [upd_same e17]; rw [upd_same e18]; exact ⟨hBx, vals_step (n := 19) (v := .pointer (some ⟨b', fo' + i * 3, none⟩)) hD (by decide) (by omega) P (fun _ => rfl)⟩)
        | 20, _ =>
          cases hio
          have off : ¬ On f 20 := on_off (by omega) hn
          have h11 : On f 11 := he ⟨11, .guard⟩ (by simp) rfl
          have e11 : gv 28 = .bool false := P 11 (by decide) rfl h11
          have h19 : On f 19 := he ⟨19, .data⟩ (by simp) rfl
          have e19 : gv 36 = .pointer (some ⟨b', fo' + i * 3, none⟩) := P 19 (by decide) rfl h19
          rw [e11, e19]
          rw [if_pos (by rfl)]
          have HQ := Lib.hid P
          clear P
          go_simp
          have P := HQ.out
          have bk : ∀ j, j ≠ 20 → On (f.setIfInBounds 20 true) j → On f j := fun j hj x => on_back (by omega) x hj
          have fw : ∀ j, On f j → On (f.setIfInBounds 20 true) j := fun j x => (on_put (by omega)).2 (.inr x)
          have fn : On (f.setIfInBounds 20 true) 20 := (on_put (by omega)).2 (.inl rfl)
          exact hKK (upd (upd (upd gv 28 (.bool false)) 36 (.pointer (some ⟨b', fo' + i * 3, none⟩))) 37 (.pointer (some ⟨b', fo' + i * 3 + 1, none⟩))) _ (by rw [upd_same e11]; rw [upd_same e19]; exact ⟨hBx, vals_step (n := 20) (v := .pointer (some ⟨b', fo' + i * 3 + 1, none⟩)) hD (by decide) (by omega) P (fun _ => rfl)⟩)
        | 21, _ =>
          cases hio
          have off : ¬ On f 21 := on_off (by omega) hn
          have h11 : On f 11 := he ⟨11, .guard⟩ (by simp) rfl
          have e11 : gv 28 = .bool false := P 11 (by decide) rfl h11
          have h20 : On f 20 := he ⟨20, .data⟩ (by simp) rfl
          have e20 : gv 37 = .pointer (some ⟨b', fo' + i * 3 + 1, none⟩) := P 20 (by decide) rfl h20
          have d0 := carry_cell HK.out.2.1 hBx
          rw [e11, e20]
          rw [if_pos (by rfl)]
          have HQ := Lib.hid P
          clear P
          go_simp
          have P := HQ.out
          have bk : ∀ j, j ≠ 21 → On (f.setIfInBounds 21 true) j → On f j := fun j hj x => on_back (by omega) x hj
          have fw : ∀ j, On f j → On (f.setIfInBounds 21 true) j := fun j x => (on_put (by omega)).2 (.inr x)
          have fn : On (f.setIfInBounds 21 true) 21 := (on_put (by omega)).2 (.inl rfl)
          exact hKK (upd (upd (upd gv 28 (.bool false)) 37 (.pointer (some ⟨b', fo' + i * 3 + 1, none⟩))) 38 (.int .i64 q.to)) _ (by rw [upd_same e11]; rw [upd_same e20]; exact ⟨hBx, vals_step (n := 21) (v := .int .i64 q.to) hD (by decide) (by omega) P (fun _ => rfl)⟩)
        | 22, _ =>
          cases hio
          have off : ¬ On f 22 := on_off (by omega) hn
          have h11 : On f 11 := he ⟨11, .guard⟩ (by simp) rfl
          have e11 : gv 28 = .bool false := P 11 (by decide) rfl h11
          have h16 : On f 16 := he ⟨16, .data⟩ (by simp) rfl
          have e16 : gv 33 = .int .i64 p.to := P 16 (by decide) rfl h16
          have h21 : On f 21 := he ⟨21, .data⟩ (by simp) rfl
          have e21 : gv 38 = .int .i64 q.to := P 21 (by decide) rfl h21
          have d0 := HD1.out
          rw [e11, e16, e21]
          rw [if_pos (by rfl)]
          have HQ := Lib.hid P
          clear P
          go_simp
          have P := HQ.out
          have bk : ∀ j, j ≠ 22 → On (f.setIfInBounds 22 true) j → On f j := fun j hj x => on_back (by omega) x hj
          have fw : ∀ j, On f j → On (f.setIfInBounds 22 true) j := fun j x => (on_put (by omega)).2 (.inr x)
          have fn : On (f.setIfInBounds 22 true) 22 := (on_put (by omega)).2 (.inl rfl)
          exact hKK (upd (upd (upd (upd gv 28 (.bool false)) 33 (.int .i64 p.to)) 38 (.int .i64 q.to)) 39 (.bool true)) _ (by rw [upd_same e11]; rw [upd_same e16]; rw [upd_same e21]; exact ⟨hBx, vals_step (n := 22) (v := .bool true) hD (by decide) (by omega) P (fun _ => rfl)⟩)
        | 23, _ =>
          cases hio
          have off : ¬ On f 23 := on_off (by omega) hn
          have h11 : On f 11 := he ⟨11, .data⟩ (by simp) rfl
          have e11 : gv 28 = .bool false := P 11 (by decide) rfl h11
          have h22 : On f 22 := he ⟨22, .data⟩ (by simp) rfl
          have e22 : gv 39 = .bool true := P 22 (by decide) rfl h22
          rw [e11, e22]
          have HQ := Lib.hid P
          clear P
          go_simp
          have P := HQ.out
          have bk : ∀ j, j ≠ 23 → On (f.setIfInBounds 23 true) j → On f j := fun j hj x => on_back (by omega) x hj
          have fw : ∀ j, On f j → On (f.setIfInBounds 23 true) j := fun j x => (on_put (by omega)).2 (.inr x)
          have fn : On (f.setIfInBounds 23 true) 23 := (on_put (by omega)).2 (.inl rfl)
          exact hKK (upd (upd (upd gv 28 (.bool false)) 39 (.bool true)) 40 (.bool true)) _ (by rw [upd_same e11]; rw [upd_same e22]; exact ⟨hBx, vals_step (n := 23) (v := .bool true) hD (by decide) (by omega) P (fun _ => rfl)⟩)
        | 24, _ =>
          cases hio
          have off : ¬ On f 24 := on_off (by omega) hn
          have h23 : On f 23 := he ⟨23, .data⟩ (by simp) rfl
          have e23 : gv 40 = .bool true := P 23 (by decide) rfl h23
          rw [e23]
          have HQ := Lib.hid P
          clear P
          go_simp
          have P := HQ.out
          have bk : ∀ j, j ≠ 24 → On (f.setIfInBounds 24 true) j → On f j := fun j hj x => on_back (by omega) x hj
          have fw : ∀ j, On f j → On (f.setIfInBounds 24 true) j := fun j x => (on_put (by omega)).2 (.inr x)
          have fn : On (f.setIfInBounds 24 true) 24 := (on_put (by omega)).2 (.inl rfl)
          exact hKK (upd (upd gv 40 (.bool true)) 41 (.bool true)) _ (by rw [upd_same e23]; exact ⟨hBx, vals_step (n := 24) (v := .bool true) hD (by decide) (by omega) P (fun _ => rfl)⟩)
        | 25, _ =>
          cases hio
          have off : ¬ On f 25 := on_off (by omega) hn
          have h24 : On f 24 := he ⟨24, .guard⟩ (by simp) rfl
          have e24 : gv 41 = .bool true := P 24 (by decide) rfl h24
          rw [e24]
          have HQ := Lib.hid P
          clear P
          refine skip_if (fun h => nomatch (show false = true from h)) ?_
          simp only [Act.put, List.setIfInBounds_toArray]
          have P := HQ.out
          have bk : ∀ j, j ≠ 25 → On (f.setIfInBounds 25 true) j → On f j := fun j hj x => on_back (by omega) x hj
          have fw : ∀ j, On f j → On (f.setIfInBounds 25 true) j := fun j x => (on_put (by omega)).2 (.inr x)
          have fn : On (f.setIfInBounds 25 true) 25 := (on_put (by omega)).2 (.inl rfl)
          exact hKK (upd (upd gv 41 (.bool true)) 42 (undef)) _ (by rw [upd_same e24]; exact ⟨hBx, vals_step (n := 25) (v := undef) hD (by decide) (by omega) P (fun _ => rfl)⟩)
        | 26, _ =>
          cases hio
          have off : ¬ On f 26 := on_off (by omega) hn
          have h24 : On f 24 := he ⟨24, .guard⟩ (by simp) rfl
          have e24 : gv 41 = .bool true := P 24 (by decide) rfl h24
          rw [e24]
          have HQ := Lib.hid P
          clear P
          refine skip_if (fun h => nomatch (show false = true from h)) ?_
          simp only [Act.put, List.setIfInBounds_toArray]
          have P := HQ.out
          have bk : ∀ j, j ≠ 26 → On (f.setIfInBounds 26 true) j → On f j := fun j hj x => on_back (by omega) x hj
          have fw : ∀ j, On f j → On (f.setIfInBounds 26 true) j := fun j x => (on_put (by omega)).2 (.inr x)
          have fn : On (f.setIfInBounds 26 true) 26 := (on_put (by omega)).2 (.inl rfl)
          exact hKK (upd (upd gv 41 (.bool true)) 43 (undef)) _ (by rw [upd_same e24]; exact ⟨hBx, vals_step (n := 26) (v := undef) hD (by decide) (by omega) P (fun _ => rfl)⟩)
        | 27, _ =>
          cases hio
          have off : ¬ On f 27 := on_off (by omega) hn
          have h24 : On f 24 := he ⟨24, .guard⟩ (by simp) rfl
          have e24 : gv 41 = .bool true := P 24 (by decide) rfl h24
          rw [e24]
          have HQ := Lib.hid P
          clear P
          refine skip_if (fun h => nomatch (show false = true from h)) ?_
          simp only [Act.put, List.setIfInBounds_toArray]
          have P := HQ.out
          have bk : ∀ j, j ≠ 27 → On (f.setIfInBounds 27 true) j → On f j := fun j hj x => on_back (by omega) x hj
          have fw : ∀ j, On f j → On (f.setIfInBounds 27 true) j := fun j x => (on_put (by omega)).2 (.inr x)
          have fn : On (f.setIfInBounds 27 true) 27 := (on_put (by omega)).2 (.inl rfl)
          exact hKK (upd (upd gv 41 (.bool true)) 44 (undef)) _ (by rw [upd_same e24]; exact ⟨hBx, vals_step (n := 27) (v := undef) hD (by decide) (by omega) P (fun _ => rfl)⟩)
        | 28, _ =>
          cases hio
          have off : ¬ On f 28 := on_off (by omega) hn
          have h24 : On f 24 := he ⟨24, .guard⟩ (by simp) rfl
          have e24 : gv 41 = .bool true := P 24 (by decide) rfl h24
          rw [e24]
          have HQ := Lib.hid P
          clear P
          refine skip_if (fun h => nomatch (show false = true from h)) ?_
          simp only [Act.put, List.setIfInBounds_toArray]
          have P := HQ.out
          have bk : ∀ j, j ≠ 28 → On (f.setIfInBounds 28 true) j → On f j := fun j hj x => on_back (by omega) x hj
          have fw : ∀ j, On f j → On (f.setIfInBounds 28 true) j := fun j x => (on_put (by omega)).2 (.inr x)
          have fn : On (f.setIfInBounds 28 true) 28 := (on_put (by omega)).2 (.inl rfl)
          exact hKK (upd (upd gv 41 (.bool true)) 45 (undef)) _ (by rw [upd_same e24]; exact ⟨hBx, vals_step (n := 28) (v := undef) hD (by decide) (by omega) P (fun _ => rfl)⟩)
        | 29, _ =>
          cases hio
          have off : ¬ On f 29 := on_off (by omega) hn
          have h24 : On f 24 := he ⟨24, .guard⟩ (by simp) rfl
          have e24 : gv 41 = .bool true := P 24 (by decide) rfl h24
          rw [e24]
          have HQ := Lib.hid P
          clear P
          refine skip_if (fun h => nomatch (show false = true from h)) ?_
          simp only [Act.put, List.setIfInBounds_toArray]
          have P := HQ.out
          have bk : ∀ j, j ≠ 29 → On (f.setIfInBounds 29 true) j → On f j := fun j hj x => on_back (by omega) x hj
          have fw : ∀ j, On f j → On (f.setIfInBounds 29 true) j := fun j x => (on_put (by omega)).2 (.inr x)
          have fn : On (f.setIfInBounds 29 true) 29 := (on_put (by omega)).2 (.inl rfl)
          exact hKK (upd (upd gv 41 (.bool true)) 46 (undef)) _ (by rw [upd_same e24]; exact ⟨hBx, vals_step (n := 29) (v := undef) hD (by decide) (by omega) P (fun _ => rfl)⟩)
        | 30, _ =>
          cases hio
          have off : ¬ On f 30 := on_off (by omega) hn
          have h24 : On f 24 := he ⟨24, .guard⟩ (by simp) rfl
          have e24 : gv 41 = .bool true := P 24 (by decide) rfl h24
          rw [e24]
          have HQ := Lib.hid P
          clear P
          refine skip_if (fun h => nomatch (show false = true from h)) ?_
          simp only [Act.put, List.setIfInBounds_toArray]
          have P := HQ.out
          have bk : ∀ j, j ≠ 30 → On (f.setIfInBounds 30 true) j → On f j := fun j hj x => on_back (by omega) x hj
          have fw : ∀ j, On f j → On (f.setIfInBounds 30 true) j := fun j x => (on_put (by omega)).2 (.inr x)
          have fn : On (f.setIfInBounds 30 true) 30 := (on_put (by omega)).2 (.inl rfl)
          exact hKK (upd (upd gv 41 (.bool true)) 47 (undef)) _ (by rw [upd_same e24]; exact ⟨hBx, vals_step (n := 30) (v := undef) hD (by decide) (by omega) P (fun _ => rfl)⟩)
        | 31, _ =>
          cases hio
          have off : ¬ On f 31 := on_off (by omega) hn
          have h24 : On f 24 := he ⟨24, .guard⟩ (by simp) rfl
          have e24 : gv 41 = .bool true := P 24 (by decide) rfl h24
          rw [e24]
          have HQ := Lib.hid P
          clear P
          refine skip_if (fun h => nomatch (show false = true from h)) ?_
          simp only [Act.put, List.setIfInBounds_toArray]
          have P := HQ.out
          have bk : ∀ j, j ≠ 31 → On (f.setIfInBounds 31 true) j → On f j := fun j hj x => on_back (by omega) x hj
          have fw : ∀ j, On f j → On (f.setIfInBounds 31 true) j := fun j x => (on_put (by omega)).2 (.inr x)
          have fn : On (f.setIfInBounds 31 true) 31 := (on_put (by omega)).2 (.inl rfl)
          exact hKK (upd (upd gv 41 (.bool true)) 48 (undef)) _ (by rw [upd_same e24]; exact ⟨hBx, vals_step (n := 31) (v := undef) hD (by decide) (by omega) P (fun _ => rfl)⟩)
        | 32, _ =>
          cases hio
          have off : ¬ On f 32 := on_off (by omega) hn
          have h24 : On f 24 := he ⟨24, .guard⟩ (by simp) rfl
          have e24 : gv 41 = .bool true := P 24 (by decide) rfl h24
          rw [e24]
          have HQ := Lib.hid P
          clear P
          refine skip_if (fun h => nomatch (show false = true from h)) ?_
          simp only [Act.put, List.setIfInBounds_toArray]
          have P := HQ.out
          have bk : ∀ j, j ≠ 32 → On (f.setIfInBounds 32 true) j → On f j := fun j hj x => on_back (by omega) x hj
          have fw : ∀ j, On f j → On (f.setIfInBounds 32 true) j := fun j x => (on_put (by omega)).2 (.inr x)
          have fn : On (f.setIfInBounds 32 true) 32 := (on_put (by omega)).2 (.inl rfl)
          exact hKK (upd (upd gv 41 (.bool true)) 49 (undef)) _ (by rw [upd_same e24]; exact ⟨hBx, vals_step (n := 32) (v := undef) hD (by decide) (by omega) P (fun _ => rfl)⟩)
        | 33, _ =>
          cases hio
          have off : ¬ On f 33 := on_off (by omega) hn
          have h24 : On f 24 := he ⟨24, .guard⟩ (by simp) rfl
          have e24 : gv 41 = .bool true := P 24 (by decide) rfl h24
          rw [e24]
          have HQ := Lib.hid P
          clear P
          refine skip_if (fun h => nomatch (show false = true from h)) ?_
          simp only [Act.put, List.setIfInBounds_toArray]
          have P := HQ.out
          have bk : ∀ j, j ≠ 33 → On (f.setIfInBounds 33 true) j → On f j := fun j hj x => on_back (by omega) x hj
          have fw : ∀ j, On f j → On (f.setIfInBounds 33 true) j := fun j x => (on_put (by omega)).2 (.inr x)
          have fn : On (f.setIfInBounds 33 true) 33 := (on_put (by omega)).2 (.inl rfl)
          exact hKK (upd (upd gv 41 (.bool true)) 50 (undef)) _ (by rw [upd_same e24]; exact ⟨hBx, vals_step (n := 33) (v := undef) hD (by decide) (by omega) P (fun _ => rfl)⟩)
        | 34, _ =>
          cases hio
          have off : ¬ On f 34 := on_off (by omega) hn
          have h24 : On f 24 := he ⟨24, .guard⟩ (by simp) rfl
          have e24 : gv 41 = .bool true := P 24 (by decide) rfl h24
          rw [e24]
          have HQ := Lib.hid P
          clear P
          refine skip_if (fun h => nomatch (show false = true from h)) ?_
          simp only [Act.put, List.setIfInBounds_toArray]
          have P := HQ.out
          have bk : ∀ j, j ≠ 34 → On (f.setIfInBounds 34 true) j → On f j := fun j hj x => on_back (by omega) x hj
          have fw : ∀ j, On f j → On (f.setIfInBounds 34 true) j := fun j x => (on_put (by omega)).2 (.inr x)
          have fn : On (f.setIfInBounds 34 true) 34 := (on_put (by omega)).2 (.inl rfl)
          exact hKK (upd (upd gv 41 (.bool true)) 51 (undef)) _ (by rw [upd_same e24]; exact ⟨hBx, vals_step (n := 34) (v := undef) hD (by decide) (by omega) P (fun _ => rfl)⟩)
        | 35, _ =>
          cases hio
          have off : ¬ On f 35 := on_off (by omega) hn
          have h24 : On f 24 := he ⟨24, .guard⟩ (by simp) rfl
          have e24 : gv 41 = .bool true := P 24 (by decide) rfl h24
          rw [e24]
          have HQ := Lib.hid P
          clear P
          refine skip_if (fun h => nomatch (show false = true from h)) ?_
          simp only [Act.put, List.setIfInBounds_toArray]
          have P := HQ.out
          have bk : ∀ j, j ≠ 35 → On (f.setIfInBounds 35 true) j → On f j := fun j hj x => on_back (by omega) x hj
          have fw : ∀ j, On f j → On (f.setIfInBounds 35 true) j := fun j x => (on_put (by omega)).2 (.inr x)
          have fn : On (f.setIfInBounds 35 true) 35 := (on_put (by omega)).2 (.inl rfl)
          exact hKK (upd (upd gv 41 (.bool true)) 52 (undef)) _ (by rw [upd_same e24]; exact ⟨hBx, vals_step (n := 35) (v := undef) hD (by decide) (by omega) P (fun _ => rfl)⟩)
        | 36, _ =>
          cases hio
          have off : ¬ On f 36 := on_off (by omega) hn
          have h24 : On f 24 := he ⟨24, .guard⟩ (by simp) rfl
          have e24 : gv 41 = .bool true := P 24 (by decide) rfl h24
          rw [e24]
          have HQ := Lib.hid P
          clear P
          refine skip_if (fun h => nomatch (show false = true from h)) ?_
          simp only [Act.put, List.setIfInBounds_toArray]
          have P := HQ.out
          have bk : ∀ j, j ≠ 36 → On (f.setIfInBounds 36 true) j → On f j := fun j hj x => on_back (by omega) x hj
          have fw : ∀ j, On f j → On (f.setIfInBounds 36 true) j := fun j x => (on_put (by omega)).2 (.inr x)
          have fn : On (f.setIfInBounds 36 true) 36 := (on_put (by omega)).2 (.inl rfl)
          exact hKK (upd (upd gv 41 (.bool true)) 53 (undef)) _ (by rw [upd_same e24]; exact ⟨hBx, vals_step (n := 36) (v := undef) hD (by decide) (by omega) P (fun _ => rfl)⟩)
        | 37, _ =>
          cases hio
          have off : ¬ On f 37 := on_off (by omega) hn
          have h24 : On f 24 := he ⟨24, .guard⟩ (by simp) rfl
          have e24 : gv 41 = .bool true := P 24 (by decide) rfl h24
          rw [e24]
          have HQ := Lib.hid P
          clear P
          refine skip_if (fun h => nomatch (show false = true from h)) ?_
          simp only [Act.put, List.setIfInBounds_toArray]
          have P := HQ.out
          have bk : ∀ j, j ≠ 37 → On (f.setIfInBounds 37 true) j → On f j := fun j hj x => on_back (by omega) x hj
          have fw : ∀ j, On f j → On (f.setIfInBounds 37 true) j := fun j x => (on_put (by omega)).2 (.inr x)
          have fn : On (f.setIfInBounds 37 true) 37 := (on_put (by omega)).2 (.inl rfl)
          exact hKK (upd (upd gv 41 (.bool true)) 54 (undef)) _ (by rw [upd_same e24]; exact ⟨hBx, vals_step (n := 37) (v := undef) hD (by decide) (by omega) P (fun _ => rfl)⟩)
        | 38, _ =>
          cases hio
          have off : ¬ On f 38 := on_off (by omega) hn
          have h24 : On f 24 := he ⟨24, .data⟩ (by simp) rfl
          have e24 : gv 41 = .bool true := P 24 (by decide) rfl h24
          have h37 : On f 37 := he ⟨37, .data⟩ (by simp) rfl
          have e37 : gv 54 = undef := P 37 (by decide) rfl h37
          rw [e24, e37]
          have HQ := Lib.hid P
          clear P
          go_simp
          have P := HQ.out
          have bk : ∀ j, j ≠ 38 → On (f.setIfInBounds 38 true) j → On f j := fun j hj x => on_back (by omega) x hj
          have fw : ∀ j, On f j → On (f.setIfInBounds 38 true) j := fun j x => (on_put (by omega)).2 (.inr x)
          have fn : On (f.setIfInBounds 38 true) 38 := (on_put (by omega)).2 (.inl rfl)
          exact hKK (upd (upd (upd gv 41 (.bool true)) 54 (undef)) 55 (.bool true)) _ (by rw [upd_same e24]; rw [upd_same e37]; exact ⟨hBx, vals_step (n := 38) (v := .bool true) hD (by decide) (by omega) P (fun _ => rfl)⟩)
      · rintro f gv w5 hall hs' ⟨hBx, P⟩
        replace hs' : f.size = 39 := hs'
        have on : ∀ j, j < 39 → On f j := fun j hj => on_all hall hs' j hj
        have e6 : gv 55 = .bool true := P 38 (by decide) rfl (on 38 (by decide))
        have BX := Lib.hid hBx
        clear P hBx hall hs' on hD
        rw [e6]
        go_wp2_with fail
        go_ret
        exact ⟨retb HNO.out.symm, hB.out.step BX.out⟩
    have HD := Lib.hid (show (p.fr != q.fr) = false by simpa using e0)
    have HD1 := Lib.hid (show (p.to != q.to) = false by simpa using e1)
    by_cases e2 : B1 = B2
    case neg =>
      have HNO := Lib.hid (HN.out (fun h => e2 (by rw [HBB.out.1, HBB.out.2, h])))
      have HD2 := Lib.hid (show ((ByteArray.toList ⟨B1⟩) == (ByteArray.toList ⟨B2⟩)) = false by rw [lists_eq HBB.out.1 HBB.out.2, decide_eq_false e2])
      clear e0 e1 e2
      go_upto_region 6 with fail
      have hD : ∀ j, j < 39 → ∀ n, n < 39 → j ≠ n → dkN [17, 18, 19, 20, 21, 22, 23, 24, 25, 26, 27, 28, 29, 30, 31, 32, 33, 34, 35, 36, 37, 38, 39, 40, 41, 42, 43, 44, 45, 46, 47, 48, 49, 50, 51, 52, 53, 54, 55] j ≠ dkN [17, 18, 19, 20, 21, 22, 23, 24, 25, 26, 27, 28, 29, 30, 31, 32, 33, 34, 35, 36, 37, 38, 39, 40, 41, 42, 43, 44, 45, 46, 47, 48, 49, 50, 51, 52, 53, 54, 55] n := by decide +kernel
      refine region_fun (by kernel_rfl) (by kernel_rfl) (fun gv => #[.slice (some ⟨b, fo, none⟩) n1 c1, .slice (some ⟨b', fo', none⟩) n1 c2, undef, undef, gv 4, .int .i64 (i : Int), .slice (some ⟨b, fo, none⟩) n1 c1, .int .i64 (n1 : Int), .slice (some ⟨b', fo', none⟩) n1 c2, .int .i64 (n1 : Int), .bool false, .int .i64 (i : Int), .slice (some ⟨b, fo, none⟩) n1 c1, .int .i64 (n1 : Int), .bool true, gv 15, gv 16, gv 17, gv 18, gv 19, gv 20, gv 21, gv 22, gv 23, gv 24, gv 25, gv 26, gv 27, gv 28, gv 29, gv 30, gv 31, gv 32, gv 33, gv 34, gv 35, gv 36, gv 37, gv 38, gv 39, gv 40, gv 41, gv 42, gv 43, gv 44, gv 45, gv 46, gv 47, gv 48, gv 49, gv 50, gv 51, gv 52, gv 53, gv 54, gv 55]) rfl (fun f gv wx => Below wr.heap.size wr wx ∧ (∀ j, j < 39 → (fun j => false) j = false → On f j → gv (dkN [17, 18, 19, 20, 21, 22, 23, 24, 25, 26, 27, 28, 29, 30, 31, 32, 33, 34, 35, 36, 37, 38, 39, 40, 41, 42, 43, 44, 45, 46, 47, 48, 49, 50, 51, 52, 53, 54, 55] j) = vkN [.slice (some ⟨b, fo, none⟩) n1 c1, .int .i64 (i : Int), .pointer (some ⟨b, fo + i * 3, none⟩), .pointer (some ⟨b, fo + i * 3, none⟩), .int .i64 p.fr, .slice (some ⟨b', fo', none⟩) n1 c2, .int .i64 (i : Int), .pointer (some ⟨b', fo' + i * 3, none⟩), .pointer (some ⟨b', fo' + i * 3, none⟩), .int .i64 q.fr, .bool false, .bool false, .slice (some ⟨b, fo, none⟩) n1 c1, .int .i64 (i : Int), .pointer (some ⟨b, fo + i * 3, none⟩), .pointer (some ⟨b, fo + i * 3 + 1, none⟩), .int .i64 p.to, .slice (some ⟨b', fo', none⟩) n1 c2, .int .i64 (i : Int), .pointer (some ⟨b', fo' + i * 3, none⟩), .pointer (some ⟨b', fo' + i * 3 + 1, none⟩), .int .i64 q.to, .bool false, .bool false, .bool false, .slice (some ⟨b, fo, none⟩) n1 c1, .int .i64 (i : Int), .pointer (some ⟨b, fo + i * 3, none⟩), .pointer (some ⟨b, fo + i * 3 + 2, none⟩), .slice x pl cx, .string ⟨B1⟩, .slice (some ⟨b', fo', none⟩) n1 c2, .int .i64 (i : Int), .pointer (some ⟨b', fo' + i * 3, none⟩), .pointer (some ⟨b', fo' + i * 3 + 2, none⟩), .slice y ql cy, .string ⟨B2⟩, .bool true, .bool true] j)) ?_ ?_ ?_
      · have hoff : ∀ j, ¬ On (Array.replicate 39 false) j := by
          intro j hj; simp only [On, Array.getD_eq_getD_getElem?, Array.getElem?_replicate] at hj; split at hj <;> simp at hj
        exact ⟨(Below.refl _ _).drew, fun j _ _ x => absurd x (hoff _)⟩
      · rintro i' o' f gv wm hio hs' hn he ⟨hBx, P⟩ KK hKK
        have hi' : i' < 39 := (Array.getElem?_eq_some_iff.1 hio).1
        replace hs' : f.size = 39 := hs'
        match i', hi' with
        | 0, _ =>
          cases hio
          have off : ¬ On f 0 := on_off (by omega) hn
          have HQ := Lib.hid P
          clear P
          go_simp
          have P := HQ.out
          have bk : ∀ j, j ≠ 0 → On (f.setIfInBounds 0 true) j → On f j := fun j hj x => on_back (by omega) x hj
          have fw : ∀ j, On f j → On (f.setIfInBounds 0 true) j := fun j x => (on_put (by omega)).2 (.inr x)
          have fn : On (f.setIfInBounds 0 true) 0 := (on_put (by omega)).2 (.inl rfl)
          exact hKK (upd gv 17 (.slice (some ⟨b, fo, none⟩) n1 c1)) _ (by exact ⟨hBx, vals_step (n := 0) (v := .slice (some ⟨b, fo, none⟩) n1 c1) hD (by decide) (by omega) P (fun _ => rfl)⟩)
        | 1, _ =>
          cases hio
          have off : ¬ On f 1 := on_off (by omega) hn
          have HQ := Lib.hid P
          clear P
          go_simp
          have P := HQ.out
          have bk : ∀ j, j ≠ 1 → On (f.setIfInBounds 1 true) j → On f j := fun j hj x => on_back (by omega) x hj
          have fw : ∀ j, On f j → On (f.setIfInBounds 1 true) j := fun j x => (on_put (by omega)).2 (.inr x)
          have fn : On (f.setIfInBounds 1 true) 1 := (on_put (by omega)).2 (.inl rfl)
          exact hKK (upd gv 18 (.int .i64 (i : Int))) _ (by exact ⟨hBx, vals_step (n := 1) (v := .int .i64 (i : Int)) hD (by decide) (by omega) P (fun _ => rfl)⟩)
        | 2, _ =>
          cases hio
          have off : ¬ On f 2 := on_off (by omega) hn
          have h0 : On f 0 := he ⟨0, .data⟩ (by simp) rfl
          have e0 : gv 17 = .slice (some ⟨b, fo, none⟩) n1 c1 := P 0 (by decide) rfl h0
          have h1 : On f 1 := he ⟨1, .data⟩ (by simp) rfl
          have e1 : gv 18 = .int .i64 (i : Int) := P 1 (by decide) rfl h1
          rw [e0, e1]
          have HQ := Lib.hid P
          clear P
          go_simp
          have P := HQ.out
          have bk : ∀ j, j ≠ 2 → On (f.setIfInBounds 2 true) j → On f j := fun j hj x => on_back (by omega) x hj
          have fw : ∀ j, On f j → On (f.setIfInBounds 2 true) j := fun j x => (on_put (by omega)).2 (.inr x)
          have fn : On (f.setIfInBounds 2 true) 2 := (on_put (by omega)).2 (.inl rfl)
          exact hKK (upd (upd (upd gv 17 (.slice (some ⟨b, fo, none⟩) n1 c1)) 18 (.int .i64 (i : Int))) 19 (.pointer (some ⟨b, fo + i * 3, none⟩))) _ (by rw [upd_same e0]; rw [upd_same e1]; exact ⟨hBx, vals_step (n := 2) (v := .pointer (some ⟨b, fo + i * 3, none⟩)) hD (by decide) (by omega) P (fun _ => rfl)⟩)
        | 3, _ =>
          cases hio
          have off : ¬ On f 3 := on_off (by omega) hn
          have h2 : On f 2 := he ⟨2, .data⟩ (by simp) rfl
          have e2 : gv 19 = .pointer (some ⟨b, fo + i * 3, none⟩) := P 2 (by decide) rfl h2
          rw [e2]
          have HQ := Lib.hid P
          clear P
          go_simp
          have P := HQ.out
          have bk : ∀ j, j ≠ 3 → On (f.setIfInBounds 3 true) j → On f j := fun j hj x => on_back (by omega) x hj
          have fw : ∀ j, On f j → On (f.setIfInBounds 3 true) j := fun j x => (on_put (by omega)).2 (.inr x)
          have fn : On (f.setIfInBounds 3 true) 3 := (on_put (by omega)).2 (.inl rfl)
          exact hKK (upd (upd gv 19 (.pointer (some ⟨b, fo + i * 3, none⟩))) 20 (.pointer (some ⟨b, fo + i * 3, none⟩))) _ (by rw [upd_same e2]; exact ⟨hBx, vals_step (n := 3) (v := .pointer (some ⟨b, fo + i * 3, none⟩)) hD (by decide) (by omega) P (fun _ => rfl)⟩)
        | 4, _ =>
          cases hio
          have off : ¬ On f 4 := on_off (by omega) hn
          have h3 : On f 3 := he ⟨3, .data⟩ (by simp) rfl
          have e3 : gv 20 = .pointer (some ⟨b, fo + i * 3, none⟩) := P 3 (by decide) rfl h3
          have d0 := carry_cell HG.out.1 hBx
          rw [e3]
          have HQ := Lib.hid P
          clear P
          go_simp
          have P := HQ.out
          have bk : ∀ j, j ≠ 4 → On (f.setIfInBounds 4 true) j → On f j := fun j hj x => on_back (by omega) x hj
          have fw : ∀ j, On f j → On (f.setIfInBounds 4 true) j := fun j x => (on_put (by omega)).2 (.inr x)
          have fn : On (f.setIfInBounds 4 true) 4 := (on_put (by omega)).2 (.inl rfl)
          exact hKK (upd (upd gv 20 (.pointer (some ⟨b, fo + i * 3, none⟩))) 21 (.int .i64 p.fr)) _ (by rw [upd_same e3]; exact ⟨hBx, vals_step (n := 4) (v := .int .i64 p.fr) hD (by decide) (by omega) P (fun _ => rfl)⟩)
        | 5, _ =>
          cases hio
          have off : ¬ On f 5 := on_off (by omega) hn
          have HQ := Lib.hid P
          clear P
          go_simp
          have P := HQ.out
          have bk : ∀ j, j ≠ 5 → On (f.setIfInBounds 5 true) j → On f j := fun j hj x => on_back (by omega) x hj
          have fw : ∀ j, On f j → On (f.setIfInBounds 5 true) j := fun j x => (on_put (by omega)).2 (.inr x)
          have fn : On (f.setIfInBounds 5 true) 5 := (on_put (by omega)).2 (.inl rfl)
          exact hKK (upd gv 22 (.slice (some ⟨b', fo', none⟩) n1 c2)) _ (by exact ⟨hBx, vals_step (n := 5) (v := .slice (some ⟨b', fo', none⟩) n1 c2) hD (by decide) (by omega) P (fun _ => rfl)⟩)
        | 6, _ =>
          cases hio
          have off : ¬ On f 6 := on_off (by omega) hn
          have HQ := Lib.hid P
          clear P
          go_simp
          have P := HQ.out
          have bk : ∀ j, j ≠ 6 → On (f.setIfInBounds 6 true) j → On f j := fun j hj x => on_back (by omega) x hj
          have fw : ∀ j, On f j → On (f.setIfInBounds 6 true) j := fun j x => (on_put (by omega)).2 (.inr x)
          have fn : On (f.setIfInBounds 6 true) 6 := (on_put (by omega)).2 (.inl rfl)
          exact hKK (upd gv 23 (.int .i64 (i : Int))) _ (by exact ⟨hBx, vals_step (n := 6) (v := .int .i64 (i : Int)) hD (by decide) (by omega) P (fun _ => rfl)⟩)
        | 7, _ =>
          cases hio
          have off : ¬ On f 7 := on_off (by omega) hn
          have h5 : On f 5 := he ⟨5, .data⟩ (by simp) rfl
          have e5 : gv 22 = .slice (some ⟨b', fo', none⟩) n1 c2 := P 5 (by decide) rfl h5
          have h6 : On f 6 := he ⟨6, .data⟩ (by simp) rfl
          have e6 : gv 23 = .int .i64 (i : Int) := P 6 (by decide) rfl h6
          rw [e5, e6]
          have HQ := Lib.hid P
          clear P
          go_simp
          have P := HQ.out
          have bk : ∀ j, j ≠ 7 → On (f.setIfInBounds 7 true) j → On f j := fun j hj x => on_back (by omega) x hj
          have fw : ∀ j, On f j → On (f.setIfInBounds 7 true) j := fun j x => (on_put (by omega)).2 (.inr x)
          have fn : On (f.setIfInBounds 7 true) 7 := (on_put (by omega)).2 (.inl rfl)
          exact hKK (upd (upd (upd gv 22 (.slice (some ⟨b', fo', none⟩) n1 c2)) 23 (.int .i64 (i : Int))) 24 (.pointer (some ⟨b', fo' + i * 3, none⟩))) _ (by rw [upd_same e5]; rw [upd_same e6]; exact ⟨hBx, vals_step (n := 7) (v := .pointer (some ⟨b', fo' + i * 3, none⟩)) hD (by decide) (by omega) P (fun _ => rfl)⟩)
        | 8, _ =>
          cases hio
          have off : ¬ On f 8 := on_off (by omega) hn
          have h7 : On f 7 := he ⟨7, .data⟩ (by simp) rfl
          have e7 : gv 24 = .pointer (some ⟨b', fo' + i * 3, none⟩) := P 7 (by decide) rfl h7
          rw [e7]
          have HQ := Lib.hid P
          clear P
          go_simp
          have P := HQ.out
          have bk : ∀ j, j ≠ 8 → On (f.setIfInBounds 8 true) j → On f j := fun j hj x => on_back (by omega) x hj
          have fw : ∀ j, On f j → On (f.setIfInBounds 8 true) j := fun j x => (on_put (by omega)).2 (.inr x)
          have fn : On (f.setIfInBounds 8 true) 8 := (on_put (by omega)).2 (.inl rfl)
          exact hKK (upd (upd gv 24 (.pointer (some ⟨b', fo' + i * 3, none⟩))) 25 (.pointer (some ⟨b', fo' + i * 3, none⟩))) _ (by rw [upd_same e7]; exact ⟨hBx, vals_step (n := 8) (v := .pointer (some ⟨b', fo' + i * 3, none⟩)) hD (by decide) (by omega) P (fun _ => rfl)⟩)
        | 9, _ =>
          cases hio
          have off : ¬ On f 9 := on_off (by omega) hn
          have h8 : On f 8 := he ⟨8, .data⟩ (by simp) rfl
          have e8 : gv 25 = .pointer (some ⟨b', fo' + i * 3, none⟩) := P 8 (by decide) rfl h8
          have d0 := carry_cell HK.out.1 hBx
          rw [e8]
          have HQ := Lib.hid P
          clear P
          go_simp
          have P := HQ.out
          have bk : ∀ j, j ≠ 9 → On (f.setIfInBounds 9 true) j → On f j := fun j hj x => on_back (by omega) x hj
          have fw : ∀ j, On f j → On (f.setIfInBounds 9 true) j := fun j x => (on_put (by omega)).2 (.inr x)
          have fn : On (f.setIfInBounds 9 true) 9 := (on_put (by omega)).2 (.inl rfl)
          exact hKK (upd (upd gv 25 (.pointer (some ⟨b', fo' + i * 3, none⟩))) 26 (.int .i64 q.fr)) _ (by rw [upd_same e8]; exact ⟨hBx, vals_step (n := 9) (v := .int .i64 q.fr) hD (by decide) (by omega) P (fun _ => rfl)⟩)
        | 10, _ =>
          cases hio
          have off : ¬ On f 10 := on_off (by omega) hn
          have h4 : On f 4 := he ⟨4, .data⟩ (by simp) rfl
          have e4 : gv 21 = .int .i64 p.fr := P 4 (by decide) rfl h4
          have h9 : On f 9 := he ⟨9, .data⟩ (by simp) rfl
          have e9 : gv 26 = .int .i64 q.fr := P 9 (by decide) rfl h9
          have d0 := HD.out
          rw [e4, e9]
          have HQ := Lib.hid P
          clear P
          go_simp
          have P := HQ.out
          have bk : ∀ j, j ≠ 10 → On (f.setIfInBounds 10 true) j → On f j := fun j hj x => on_back (by omega) x hj
          have fw : ∀ j, On f j → On (f.setIfInBounds 10 true) j := fun j x => (on_put (by omega)).2 (.inr x)
          have fn : On (f.setIfInBounds 10 true) 10 := (on_put (by omega)).2 (.inl rfl)
          exact hKK (upd (upd (upd gv 21 (.int .i64 p.fr)) 26 (.int .i64 q.fr)) 27 (.bool false)) _ (by rw [upd_same e4]; rw [upd_same e9]; exact ⟨hBx, vals_step (n := 10) (v := .bool false) hD (by decide) (by omega) P (fun _ => rfl)⟩)
        | 11, _ =>
          cases hio
          have off : ¬ On f 11 := on_off (by omega) hn
          have h10 : On f 10 := he ⟨10, .data⟩ (by simp) rfl
          have e10 : gv 27 = .bool false := P 10 (by decide) rfl h10
          rw [e10]
          have HQ := Lib.hid P
          clear P
          go_simp
          have P := HQ.out
          have bk : ∀ j, j ≠ 11 → On (f.setIfInBounds 11 true) j → On f j := fun j hj x => on_back (by omega) x hj
          have fw : ∀ j, On f j → On (f.setIfInBounds 11 true) j := fun j x => (on_put (by omega)).2 (.inr x)
          have fn : On (f.setIfInBounds 11 true) 11 := (on_put (by omega)).2 (.inl rfl)
          exact hKK (upd (upd gv 27 (.bool false)) 28 (.bool false)) _ (by rw [upd_same e10]; exact ⟨hBx, vals_step (n := 11) (v := .bool false) hD (by decide) (by omega) P (fun _ => rfl)⟩)
        | 12, _ =>
          cases hio
          have off : ¬ On f 12 := on_off (by omega) hn
          have h11 : On f 11 := he ⟨11, .guard⟩ (by simp) rfl
          have e11 : gv 28 = .bool false := P 11 (by decide) rfl h11
          rw [e11]
          rw [if_pos (by rfl)]
          have HQ := Lib.hid P
          clear P
          go_simp
          have P := HQ.out
          have bk : ∀ j, j ≠ 12 → On (f.setIfInBounds 12 true) j → On f j := fun j hj x => on_back (by omega) x hj
          have fw : ∀ j, On f j → On (f.setIfInBounds 12 true) j := fun j x => (on_put (by omega)).2 (.inr x)
          have fn : On (f.setIfInBounds 12 true) 12 := (on_put (by omega)).2 (.inl rfl)
          exact hKK (upd (upd gv 28 (.bool false)) 29 (.slice (some ⟨b, fo, none⟩) n1 c1)) _ (by rw [upd_same e11]; exact ⟨hBx, vals_step (n := 12) (v := .slice (some ⟨b, fo, none⟩) n1 c1) hD (by decide) (by omega) P (fun _ => rfl)⟩)
        | 13, _ =>
          cases hio
          have off : ¬ On f 13 := on_off (by omega) hn
          have h11 : On f 11 := he ⟨11, .guard⟩ (by simp) rfl
          have e11 : gv 28 = .bool false := P 11 (by decide) rfl h11
          rw [e11]
          rw [if_pos (by rfl)]
          have HQ := Lib.hid P
          clear P
          go_simp
          have P := HQ.out
          have bk : ∀ j, j ≠ 13 → On (f.setIfInBounds 13 true) j → On f j := fun j hj x => on_back (by omega) x hj
          have fw : ∀ j, On f j → On (f.setIfInBounds 13 true) j := fun j x => (on_put (by omega)).2 (.inr x)
          have fn : On (f.setIfInBounds 13 true) 13 := (on_put (by omega)).2 (.inl rfl)
          exact hKK (upd (upd gv 28 (.bool false)) 30 (.int .i64 (i : Int))) _ (by rw [upd_same e11]; exact ⟨hBx, vals_step (n := 13) (v := .int .i64 (i : Int)) hD (by decide) (by omega) P (fun _ => rfl)⟩)
        | 14, _ =>
          cases hio
          have off : ¬ On f 14 := on_off (by omega) hn
          have h11 : On f 11 := he ⟨11, .guard⟩ (by simp) rfl
          have e11 : gv 28 = .bool false := P 11 (by decide) rfl h11
          have h12 : On f 12 := he ⟨12, .data⟩ (by simp) rfl
          have e12 : gv 29 = .slice (some ⟨b, fo, none⟩) n1 c1 := P 12 (by decide) rfl h12
          have h13 : On f 13 := he ⟨13, .data⟩ (by simp) rfl
          have e13 : gv 30 = .int .i64 (i : Int) := P 13 (by decide) rfl h13
          rw [e11, e12, e13]
          rw [if_pos (by rfl)]
          have HQ := Lib.hid P
          clear P
          go_simp
          have P := HQ.out
          have bk : ∀ j, j ≠ 14 → On (f.setIfInBounds 14 true) j → On f j := fun j hj x => on_back (by omega) x hj
          have fw : ∀ j, On f j → On (f.setIfInBounds 14 true) j := fun j x => (on_put (by omega)).2 (.inr x)
          have fn : On (f.setIfInBounds 14 true) 14 := (on_put (by omega)).2 (.inl rfl)
          exact hKK (upd (upd (upd (upd gv 28 (.bool false)) 29 (.slice (some ⟨b, fo, none⟩) n1 c1)) 30 (.int .i64 (i : Int))) 31 (.pointer (some ⟨b, fo + i * 3, none⟩))) _ (by rw [upd_same e11]; rw [upd_same e12]; rw [upd_same e13]; exact ⟨hBx, vals_step (n := 14) (v := .pointer (some ⟨b, fo + i * 3, none⟩)) hD (by decide) (by omega) P (fun _ => rfl)⟩)
        | 15, _ =>
          cases hio
          have off : ¬ On f 15 := on_off (by omega) hn
          have h11 : On f 11 := he ⟨11, .guard⟩ (by simp) rfl
          have e11 : gv 28 = .bool false := P 11 (by decide) rfl h11
          have h14 : On f 14 := he ⟨14, .data⟩ (by simp) rfl
          have e14 : gv 31 = .pointer (some ⟨b, fo + i * 3, none⟩) := P 14 (by decide) rfl h14
          rw [e11, e14]
          rw [if_pos (by rfl)]
          have HQ := Lib.hid P
          clear P
          go_simp
          have P := HQ.out
          have bk : ∀ j, j ≠ 15 → On (f.setIfInBounds 15 true) j → On f j := fun j hj x => on_back (by omega) x hj
          have fw : ∀ j, On f j → On (f.setIfInBounds 15 true) j := fun j x => (on_put (by omega)).2 (.inr x)
          have fn : On (f.setIfInBounds 15 true) 15 := (on_put (by omega)).2 (.inl rfl)
          exact hKK (upd (upd (upd gv 28 (.bool false)) 31 (.pointer (some ⟨b, fo + i * 3, none⟩))) 32 (.pointer (some ⟨b, fo + i * 3 + 1, none⟩))) _ (by rw [upd_same e11]; rw [upd_same e14]; exact ⟨hBx, vals_step (n := 15) (v := .pointer (some ⟨b, fo + i * 3 + 1, none⟩)) hD (by decide) (by omega) P (fun _ => rfl)⟩)
        | 16, _ =>
          cases hio
          have off : ¬ On f 16 := on_off (by omega) hn
          have h11 : On f 11 := he ⟨11, .guard⟩ (by simp) rfl
          have e11 : gv 28 = .bool false := P 11 (by decide) rfl h11
          have h15 : On f 15 := he ⟨15, .data⟩ (by simp) rfl
          have e15 : gv 32 = .pointer (some ⟨b, fo + i * 3 + 1, none⟩) := P 15 (by decide) rfl h15
          have d0 := carry_cell HG.out.2.1 hBx
          rw [e11, e15]
          rw [if_pos (by rfl)]
          have HQ := Lib.hid P
          clear P
          go_simp
          have P := HQ.out
          have bk : ∀ j, j ≠ 16 → On (f.setIfInBounds 16 true) j → On f j := fun j hj x => on_back (by omega) x hj
          have fw : ∀ j, On f j → On (f.setIfInBounds 16 true) j := fun j x => (on_put (by omega)).2 (.inr x)
          have fn : On (f.setIfInBounds 16 true) 16 := (on_put (by omega)).2 (.inl rfl)
          exact hKK (upd (upd (upd gv 28 (.bool false)) 32 (.pointer (some ⟨b, fo + i * 3 + 1, none⟩))) 33 (.int .i64 p.to)) _ (by rw [upd_same e11]; rw [upd_same e15]; exact ⟨hBx, vals_step (n := 16) (v := .int .i64 p.to) hD (by decide) (by omega) P (fun _ => rfl)⟩)
        | 17, _ =>
          cases hio
          have off : ¬ On f 17 := on_off (by omega) hn
          have h11 : On f 11 := he ⟨11, .guard⟩ (by simp) rfl
          have e11 : gv 28 = .bool false := P 11 (by decide) rfl h11
          rw [e11]
          rw [if_pos (by rfl)]
          have HQ := Lib.hid P
          clear P
          go_simp
          have P := HQ.out
          have bk : ∀ j, j ≠ 17 → On (f.setIfInBounds 17 true) j → On f j := fun j hj x => on_back (by omega) x hj
          have fw : ∀ j, On f j → On (f.setIfInBounds 17 true) j := fun j x => (on_put (by omega)).2 (.inr x)
          have fn : On (f.setIfInBounds 17 true) 17 := (on_put (by omega)).2 (.inl rfl)
          exact hKK (upd (upd gv 28 (.bool false)) 34 (.slice (some ⟨b', fo', none⟩) n1 c2)) _ (by rw [upd_same e11]; exact ⟨hBx, vals_step (n := 17) (v := .slice (some ⟨b', fo', none⟩) n1 c2) hD (by decide) (by omega) P (fun _ => rfl)⟩)
        | 18, _ =>
          cases hio
          have off : ¬ On f 18 := on_off (by omega) hn
          have h11 : On f 11 := he ⟨11, .guard⟩ (by simp) rfl
          have e11 : gv 28 = .bool false := P 11 (by decide) rfl h11
          rw [e11]
          rw [if_pos (by rfl)]
          have HQ := Lib.hid P
          clear P
          go_simp
          have P := HQ.out
          have bk : ∀ j, j ≠ 18 → On (f.setIfInBounds 18 true) j → On f j := fun j hj x => on_back (by omega) x hj
          have fw : ∀ j, On f j → On (f.setIfInBounds 18 true) j := fun j x => (on_put (by omega)).2 (.inr x)
          have fn : On (f.setIfInBounds 18 true) 18 := (on_put (by omega)).2 (.inl rfl)
          exact hKK (upd (upd gv 28 (.bool false)) 35 (.int .i64 (i : Int))) _ (by rw [upd_same e11]; exact ⟨hBx, vals_step (n := 18) (v := .int .i64 (i : Int)) hD (by decide) (by omega) P (fun _ => rfl)⟩)
        | 19, _ =>
          cases hio
          have off : ¬ On f 19 := on_off (by omega) hn
          have h11 : On f 11 := he ⟨11, .guard⟩ (by simp) rfl
          have e11 : gv 28 = .bool false := P 11 (by decide) rfl h11
          have h17 : On f 17 := he ⟨17, .data⟩ (by simp) rfl
          have e17 : gv 34 = .slice (some ⟨b', fo', none⟩) n1 c2 := P 17 (by decide) rfl h17
          have h18 : On f 18 := he ⟨18, .data⟩ (by simp) rfl
          have e18 : gv 35 = .int .i64 (i : Int) := P 18 (by decide) rfl h18
          rw [e11, e17, e18]
          rw [if_pos (by rfl)]
          have HQ := Lib.hid P
          clear P
          go_simp
          have P := HQ.out
          have bk : ∀ j, j ≠ 19 → On (f.setIfInBounds 19 true) j → On f j := fun j hj x => on_back (by omega) x hj
          have fw : ∀ j, On f j → On (f.setIfInBounds 19 true) j := fun j x => (on_put (by omega)).2 (.inr x)
          have fn : On (f.setIfInBounds 19 true) 19 := (on_put (by omega)).2 (.inl rfl)
          exact hKK (upd (upd (upd (upd gv 28 (.bool false)) 34 (.slice (some ⟨b', fo', none⟩) n1 c2)) 35 (.int .i64 (i : Int))) 36 (.pointer (some ⟨b', fo' + i * 3, none⟩))) _ (by rw [upd_same e11]; rw [upd_same e17]; rw [upd_same e18]; exact ⟨hBx, vals_step (n := 19) (v := .pointer (some ⟨b', fo' + i * 3, none⟩)) hD (by decide) (by omega) P (fun _ => rfl)⟩)
        | 20, _ =>
          cases hio
          have off : ¬ On f 20 := on_off (by omega) hn
          have h11 : On f 11 := he ⟨11, .guard⟩ (by simp) rfl
          have e11 : gv 28 = .bool false := P 11 (by decide) rfl h11
          have h19 : On f 19 := he ⟨19, .data⟩ (by simp) rfl
          have e19 : gv 36 = .pointer (some ⟨b', fo' + i * 3, none⟩) := P 19 (by decide) rfl h19
          rw [e11, e19]
          rw [if_pos (by rfl)]
          have HQ := Lib.hid P
          clear P
          go_simp
          have P := HQ.out
          have bk : ∀ j, j ≠ 20 → On (f.setIfInBounds 20 true) j → On f j := fun j hj x => on_back (by omega) x hj
          have fw : ∀ j, On f j → On (f.setIfInBounds 20 true) j := fun j x => (on_put (by omega)).2 (.inr x)
          have fn : On (f.setIfInBounds 20 true) 20 := (on_put (by omega)).2 (.inl rfl)
          exact hKK (upd (upd (upd gv 28 (.bool false)) 36 (.pointer (some ⟨b', fo' + i * 3, none⟩))) 37 (.pointer (some ⟨b', fo' + i * 3 + 1, none⟩))) _ (by rw [upd_same e11]; rw [upd_same e19]; exact ⟨hBx, vals_step (n := 20) (v := .pointer (some ⟨b', fo' + i * 3 + 1, none⟩)) hD (by decide) (by omega) P (fun _ => rfl)⟩)
        | 21, _ =>
          cases hio
          have off : ¬ On f 21 := on_off (by omega) hn
          have h11 : On f 11 := he ⟨11, .guard⟩ (by simp) rfl
          have e11 : gv 28 = .bool false := P 11 (by decide) rfl h11
          have h20 : On f 20 := he ⟨20, .data⟩ (by simp) rfl
          have e20 : gv 37 = .pointer (some ⟨b', fo' + i * 3 + 1, none⟩) := P 20 (by decide) rfl h20
          have d0 := carry_cell HK.out.2.1 hBx
          rw [e11, e20]
          rw [if_pos (by rfl)]
          have HQ := Lib.hid P
          clear P
          go_simp
          have P := HQ.out
          have bk : ∀ j, j ≠ 21 → On (f.setIfInBounds 21 true) j → On f j := fun j hj x => on_back (by omega) x hj
          have fw : ∀ j, On f j → On (f.setIfInBounds 21 true) j := fun j x => (on_put (by omega)).2 (.inr x)
          have fn : On (f.setIfInBounds 21 true) 21 := (on_put (by omega)).2 (.inl rfl)
          exact hKK (upd (upd (upd gv 28 (.bool false)) 37 (.pointer (some ⟨b', fo' + i * 3 + 1, none⟩))) 38 (.int .i64 q.to)) _ (by rw [upd_same e11]; rw [upd_same e20]; exact ⟨hBx, vals_step (n := 21) (v := .int .i64 q.to) hD (by decide) (by omega) P (fun _ => rfl)⟩)
        | 22, _ =>
          cases hio
          have off : ¬ On f 22 := on_off (by omega) hn
          have h11 : On f 11 := he ⟨11, .guard⟩ (by simp) rfl
          have e11 : gv 28 = .bool false := P 11 (by decide) rfl h11
          have h16 : On f 16 := he ⟨16, .data⟩ (by simp) rfl
          have e16 : gv 33 = .int .i64 p.to := P 16 (by decide) rfl h16
          have h21 : On f 21 := he ⟨21, .data⟩ (by simp) rfl
          have e21 : gv 38 = .int .i64 q.to := P 21 (by decide) rfl h21
          have d0 := HD1.out
          rw [e11, e16, e21]
          rw [if_pos (by rfl)]
          have HQ := Lib.hid P
          clear P
          go_simp
          have P := HQ.out
          have bk : ∀ j, j ≠ 22 → On (f.setIfInBounds 22 true) j → On f j := fun j hj x => on_back (by omega) x hj
          have fw : ∀ j, On f j → On (f.setIfInBounds 22 true) j := fun j x => (on_put (by omega)).2 (.inr x)
          have fn : On (f.setIfInBounds 22 true) 22 := (on_put (by omega)).2 (.inl rfl)
          exact hKK (upd (upd (upd (upd gv 28 (.bool false)) 33 (.int .i64 p.to)) 38 (.int .i64 q.to)) 39 (.bool false)) _ (by rw [upd_same e11]; rw [upd_same e16]; rw [upd_same e21]; exact ⟨hBx, vals_step (n := 22) (v := .bool false) hD (by decide) (by omega) P (fun _ => rfl)⟩)
        | 23, _ =>
          cases hio
          have off : ¬ On f 23 := on_off (by omega) hn
          have h11 : On f 11 := he ⟨11, .data⟩ (by simp) rfl
          have e11 : gv 28 = .bool false := P 11 (by decide) rfl h11
          have h22 : On f 22 := he ⟨22, .data⟩ (by simp) rfl
          have e22 : gv 39 = .bool false := P 22 (by decide) rfl h22
          rw [e11, e22]
          have HQ := Lib.hid P
          clear P
          go_simp
          have P := HQ.out
          have bk : ∀ j, j ≠ 23 → On (f.setIfInBounds 23 true) j → On f j := fun j hj x => on_back (by omega) x hj
          have fw : ∀ j, On f j → On (f.setIfInBounds 23 true) j := fun j x => (on_put (by omega)).2 (.inr x)
          have fn : On (f.setIfInBounds 23 true) 23 := (on_put (by omega)).2 (.inl rfl)
          exact hKK (upd (upd (upd gv 28 (.bool false)) 39 (.bool false)) 40 (.bool false)) _ (by rw [upd_same e11]; rw [upd_same e22]; exact ⟨hBx, vals_step (n := 23) (v := .bool false) hD (by decide) (by omega) P (fun _ => rfl)⟩)
        | 24, _ =>
          cases hio
          have off : ¬ On f 24 := on_off (by omega) hn
          have h23 : On f 23 := he ⟨23, .data⟩ (by simp) rfl
          have e23 : gv 40 = .bool false := P 23 (by decide) rfl h23
          rw [e23]
          have HQ := Lib.hid P
          clear P
          go_simp
          have P := HQ.out
          have bk : ∀ j, j ≠ 24 → On (f.setIfInBounds 24 true) j → On f j := fun j hj x => on_back (by omega) x hj
          have fw : ∀ j, On f j → On (f.setIfInBounds 24 true) j := fun j x => (on_put (by omega)).2 (.inr x)
          have fn : On (f.setIfInBounds 24 true) 24 := (on_put (by omega)).2 (.inl rfl)
          exact hKK (upd (upd gv 40 (.bool false)) 41 (.bool false)) _ (by rw [upd_same e23]; exact ⟨hBx, vals_step (n := 24) (v := .bool false) hD (by decide) (by omega) P (fun _ => rfl)⟩)
        | 25, _ =>
          cases hio
          have off : ¬ On f 25 := on_off (by omega) hn
          have h24 : On f 24 := he ⟨24, .guard⟩ (by simp) rfl
          have e24 : gv 41 = .bool false := P 24 (by decide) rfl h24
          rw [e24]
          rw [if_pos (by rfl)]
          have HQ := Lib.hid P
          clear P
          go_simp
          have P := HQ.out
          have bk : ∀ j, j ≠ 25 → On (f.setIfInBounds 25 true) j → On f j := fun j hj x => on_back (by omega) x hj
          have fw : ∀ j, On f j → On (f.setIfInBounds 25 true) j := fun j x => (on_put (by omega)).2 (.inr x)
          have fn : On (f.setIfInBounds 25 true) 25 := (on_put (by omega)).2 (.inl rfl)
          exact hKK (upd (upd gv 41 (.bool false)) 42 (.slice (some ⟨b, fo, none⟩) n1 c1)) _ (by rw [upd_same e24]; exact ⟨hBx, vals_step (n := 25) (v := .slice (some ⟨b, fo, none⟩) n1 c1) hD (by decide) (by omega) P (fun _ => rfl)⟩)
        | 26, _ =>
          cases hio
          have off : ¬ On f 26 := on_off (by omega) hn
          have h24 : On f 24 := he ⟨24, .guard⟩ (by simp) rfl
          have e24 : gv 41 = .bool false := P 24 (by decide) rfl h24
          rw [e24]
          rw [if_pos (by rfl)]
          have HQ := Lib.hid P
          clear P
          go_simp
          have P := HQ.out
          have bk : ∀ j, j ≠ 26 → On (f.setIfInBounds 26 true) j → On f j := fun j hj x => on_back (by omega) x hj
          have fw : ∀ j, On f j → On (f.setIfInBounds 26 true) j := fun j x => (on_put (by omega)).2 (.inr x)
          have fn : On (f.setIfInBounds 26 true) 26 := (on_put (by omega)).2 (.inl rfl)
          exact hKK (upd (upd gv 41 (.bool false)) 43 (.int .i64 (i : Int))) _ (by rw [upd_same e24]; exact ⟨hBx, vals_step (n := 26) (v := .int .i64 (i : Int)) hD (by decide) (by omega) P (fun _ => rfl)⟩)
        | 27, _ =>
          cases hio
          have off : ¬ On f 27 := on_off (by omega) hn
          have h24 : On f 24 := he ⟨24, .guard⟩ (by simp) rfl
          have e24 : gv 41 = .bool false := P 24 (by decide) rfl h24
          have h25 : On f 25 := he ⟨25, .data⟩ (by simp) rfl
          have e25 : gv 42 = .slice (some ⟨b, fo, none⟩) n1 c1 := P 25 (by decide) rfl h25
          have h26 : On f 26 := he ⟨26, .data⟩ (by simp) rfl
          have e26 : gv 43 = .int .i64 (i : Int) := P 26 (by decide) rfl h26
          rw [e24, e25, e26]
          rw [if_pos (by rfl)]
          have HQ := Lib.hid P
          clear P
          go_simp
          have P := HQ.out
          have bk : ∀ j, j ≠ 27 → On (f.setIfInBounds 27 true) j → On f j := fun j hj x => on_back (by omega) x hj
          have fw : ∀ j, On f j → On (f.setIfInBounds 27 true) j := fun j x => (on_put (by omega)).2 (.inr x)
          have fn : On (f.setIfInBounds 27 true) 27 := (on_put (by omega)).2 (.inl rfl)
          exact hKK (upd (upd (upd (upd gv 41 (.bool false)) 42 (.slice (some ⟨b, fo, none⟩) n1 c1)) 43 (.int .i64 (i : Int))) 44 (.pointer (some ⟨b, fo + i * 3, none⟩))) _ (by rw [upd_same e24]; rw [upd_same e25]; rw [upd_same e26]; exact ⟨hBx, vals_step (n := 27) (v := .pointer (some ⟨b, fo + i * 3, none⟩)) hD (by decide) (by omega) P (fun _ => rfl)⟩)
        | 28, _ =>
          cases hio
          have off : ¬ On f 28 := on_off (by omega) hn
          have h24 : On f 24 := he ⟨24, .guard⟩ (by simp) rfl
          have e24 : gv 41 = .bool false := P 24 (by decide) rfl h24
          have h27 : On f 27 := he ⟨27, .data⟩ (by simp) rfl
          have e27 : gv 44 = .pointer (some ⟨b, fo + i * 3, none⟩) := P 27 (by decide) rfl h27
          rw [e24, e27]
          rw [if_pos (by rfl)]
          have HQ := Lib.hid P
          clear P
          go_simp
          have P := HQ.out
          have bk : ∀ j, j ≠ 28 → On (f.setIfInBounds 28 true) j → On f j := fun j hj x => on_back (by omega) x hj
          have fw : ∀ j, On f j → On (f.setIfInBounds 28 true) j := fun j x => (on_put (by omega)).2 (.inr x)
          have fn : On (f.setIfInBounds 28 true) 28 := (on_put (by omega)).2 (.inl rfl)
          exact hKK (upd (upd (upd gv 41 (.bool false)) 44 (.pointer (some ⟨b, fo + i * 3, none⟩))) 45 (.pointer (some ⟨b, fo + i * 3 + 2, none⟩))) _ (by rw [upd_same e24]; rw [upd_same e27]; exact ⟨hBx, vals_step (n := 28) (v := .pointer (some ⟨b, fo + i * 3 + 2, none⟩)) hD (by decide) (by omega) P (fun _ => rfl)⟩)
        | 29, _ =>
          cases hio
          have off : ¬ On f 29 := on_off (by omega) hn
          have h24 : On f 24 := he ⟨24, .guard⟩ (by simp) rfl
          have e24 : gv 41 = .bool false := P 24 (by decide) rfl h24
          have h28 : On f 28 := he ⟨28, .data⟩ (by simp) rfl
          have e28 : gv 45 = .pointer (some ⟨b, fo + i * 3 + 2, none⟩) := P 28 (by decide) rfl h28
          have d0 := carry_cell HG.out.2.2 hBx
          rw [e24, e28]
          rw [if_pos (by rfl)]
          have HQ := Lib.hid P
          clear P
          go_simp
          have P := HQ.out
          have bk : ∀ j, j ≠ 29 → On (f.setIfInBounds 29 true) j → On f j := fun j hj x => on_back (by omega) x hj
          have fw : ∀ j, On f j → On (f.setIfInBounds 29 true) j := fun j x => (on_put (by omega)).2 (.inr x)
          have fn : On (f.setIfInBounds 29 true) 29 := (on_put (by omega)).2 (.inl rfl)
          exact hKK (upd (upd (upd gv 41 (.bool false)) 45 (.pointer (some ⟨b, fo + i * 3 + 2, none⟩))) 46 (.slice x pl cx)) _ (by rw [upd_same e24]; rw [upd_same e28]; exact ⟨hBx, vals_step (n := 29) (v := .slice x pl cx) hD (by decide) (by omega) P (fun _ => rfl)⟩)
        | 30, _ =>
          cases hio
          have off : ¬ On f 30 := on_off (by omega) hn
          have h24 : On f 24 := he ⟨24, .guard⟩ (by simp) rfl
          have e24 : gv 41 = .bool false := P 24 (by decide) rfl h24
          have h29 : On f 29 := he ⟨29, .data⟩ (by simp) rfl
          have e29 : gv 46 = .slice x pl cx := P 29 (by decide) rfl h29
          have d0 := HX1.out _ hBx
          rw [e24, e29]
          rw [if_pos (by rfl)]
          have HQ := Lib.hid P
          clear P
          go_simp
          have P := HQ.out
          have bk : ∀ j, j ≠ 30 → On (f.setIfInBounds 30 true) j → On f j := fun j hj x => on_back (by omega) x hj
          have fw : ∀ j, On f j → On (f.setIfInBounds 30 true) j := fun j x => (on_put (by omega)).2 (.inr x)
          have fn : On (f.setIfInBounds 30 true) 30 := (on_put (by omega)).2 (.inl rfl)
          exact hKK (upd (upd (upd gv 41 (.bool false)) 46 (.slice x pl cx)) 47 (.string ⟨B1⟩)) _ (by rw [upd_same e24]; rw [upd_same e29]; exact ⟨hBx, vals_step (n := 30) (v := .string ⟨B1⟩) hD (by decide) (by omega) P (fun _ => rfl)⟩)
        | 31, _ =>
          cases hio
          have off : ¬ On f 31 := on_off (by omega) hn
          have h24 : On f 24 := he ⟨24, .guard⟩ (by simp) rfl
          have e24 : gv 41 = .bool false := P 24 (by decide) rfl h24
          rw [e24]
          rw [if_pos (by rfl)]
          have HQ := Lib.hid P
          clear P
          go_simp
          have P := HQ.out
          have bk : ∀ j, j ≠ 31 → On (f.setIfInBounds 31 true) j → On f j := fun j hj x => on_back (by omega) x hj
          have fw : ∀ j, On f j → On (f.setIfInBounds 31 true) j := fun j x => (on_put (by omega)).2 (.inr x)
          have fn : On (f.setIfInBounds 31 true) 31 := (on_put (by omega)).2 (.inl rfl)
          exact hKK (upd (upd gv 41 (.bool false)) 48 (.slice (some ⟨b', fo', none⟩) n1 c2)) _ (by rw [upd_same e24]; exact ⟨hBx, vals_step (n := 31) (v := .slice (some ⟨b', fo', none⟩) n1 c2) hD (by decide) (by omega) P (fun _ => rfl)⟩)
        | 32, _ =>
          cases hio
          have off : ¬ On f 32 := on_off (by omega) hn
          have h24 : On f 24 := he ⟨24, .guard⟩ (by simp) rfl
          have e24 : gv 41 = .bool false := P 24 (by decide) rfl h24
          rw [e24]
          rw [if_pos (by rfl)]
          have HQ := Lib.hid P
          clear P
          go_simp
          have P := HQ.out
          have bk : ∀ j, j ≠ 32 → On (f.setIfInBounds 32 true) j → On f j := fun j hj x => on_back (by omega) x hj
          have fw : ∀ j, On f j → On (f.setIfInBounds 32 true) j := fun j x => (on_put (by omega)).2 (.inr x)
          have fn : On (f.setIfInBounds 32 true) 32 := (on_put (by omega)).2 (.inl rfl)
          exact hKK (upd (upd gv 41 (.bool false)) 49 (.int .i64 (i : Int))) _ (by rw [upd_same e24]; exact ⟨hBx, vals_step (n := 32) (v := .int .i64 (i : Int)) hD (by decide) (by omega) P (fun _ => rfl)⟩)
        | 33, _ =>
          cases hio
          have off : ¬ On f 33 := on_off (by omega) hn
          have h24 : On f 24 := he ⟨24, .guard⟩ (by simp) rfl
          have e24 : gv 41 = .bool false := P 24 (by decide) rfl h24
          have h31 : On f 31 := he ⟨31, .data⟩ (by simp) rfl
          have e31 : gv 48 = .slice (some ⟨b', fo', none⟩) n1 c2 := P 31 (by decide) rfl h31
          have h32 : On f 32 := he ⟨32, .data⟩ (by simp) rfl
          have e32 : gv 49 = .int .i64 (i : Int) := P 32 (by decide) rfl h32
          rw [e24, e31, e32]
          rw [if_pos (by rfl)]
          have HQ := Lib.hid P
          clear P
          go_simp
          have P := HQ.out
          have bk : ∀ j, j ≠ 33 → On (f.setIfInBounds 33 true) j → On f j := fun j hj x => on_back (by omega) x hj
          have fw : ∀ j, On f j → On (f.setIfInBounds 33 true) j := fun j x => (on_put (by omega)).2 (.inr x)
          have fn : On (f.setIfInBounds 33 true) 33 := (on_put (by omega)).2 (.inl rfl)
          exact hKK (upd (upd (upd (upd gv 41 (.bool false)) 48 (.slice (some ⟨b', fo', none⟩) n1 c2)) 49 (.int .i64 (i : Int))) 50 (.pointer (some ⟨b', fo' + i * 3, none⟩))) _ (by rw [upd_same e24]; rw [upd_same e31]; rw [upd_same e32]; exact ⟨hBx, vals_step (n := 33) (v := .pointer (some ⟨b', fo' + i * 3, none⟩)) hD (by decide) (by omega) P (fun _ => rfl)⟩)
        | 34, _ =>
          cases hio
          have off : ¬ On f 34 := on_off (by omega) hn
          have h24 : On f 24 := he ⟨24, .guard⟩ (by simp) rfl
          have e24 : gv 41 = .bool false := P 24 (by decide) rfl h24
          have h33 : On f 33 := he ⟨33, .data⟩ (by simp) rfl
          have e33 : gv 50 = .pointer (some ⟨b', fo' + i * 3, none⟩) := P 33 (by decide) rfl h33
          rw [e24, e33]
          rw [if_pos (by rfl)]
          have HQ := Lib.hid P
          clear P
          go_simp
          have P := HQ.out
          have bk : ∀ j, j ≠ 34 → On (f.setIfInBounds 34 true) j → On f j := fun j hj x => on_back (by omega) x hj
          have fw : ∀ j, On f j → On (f.setIfInBounds 34 true) j := fun j x => (on_put (by omega)).2 (.inr x)
          have fn : On (f.setIfInBounds 34 true) 34 := (on_put (by omega)).2 (.inl rfl)
          exact hKK (upd (upd (upd gv 41 (.bool false)) 50 (.pointer (some ⟨b', fo' + i * 3, none⟩))) 51 (.pointer (some ⟨b', fo' + i * 3 + 2, none⟩))) _ (by rw [upd_same e24]; rw [upd_same e33]; exact ⟨hBx, vals_step (n := 34) (v := .pointer (some ⟨b', fo' + i * 3 + 2, none⟩)) hD (by decide) (by omega) P (fun _ => rfl)⟩)
        | 35, _ =>
          cases hio
          have off : ¬ On f 35 := on_off (by omega) hn
          have h24 : On f 24 := he ⟨24, .guard⟩ (by simp) rfl
          have e24 : gv 41 = .bool false := P 24 (by decide) rfl h24
          have h34 : On f 34 := he ⟨34, .data⟩ (by simp) rfl
          have e34 : gv 51 = .pointer (some ⟨b', fo' + i * 3 + 2, none⟩) := P 34 (by decide) rfl h34
          have d0 := carry_cell HK.out.2.2 hBx
          rw [e24, e34]
          rw [if_pos (by rfl)]
          have HQ := Lib.hid P
          clear P
          go_simp
          have P := HQ.out
          have bk : ∀ j, j ≠ 35 → On (f.setIfInBounds 35 true) j → On f j := fun j hj x => on_back (by omega) x hj
          have fw : ∀ j, On f j → On (f.setIfInBounds 35 true) j := fun j x => (on_put (by omega)).2 (.inr x)
          have fn : On (f.setIfInBounds 35 true) 35 := (on_put (by omega)).2 (.inl rfl)
          exact hKK (upd (upd (upd gv 41 (.bool false)) 51 (.pointer (some ⟨b', fo' + i * 3 + 2, none⟩))) 52 (.slice y ql cy)) _ (by rw [upd_same e24]; rw [upd_same e34]; exact ⟨hBx, vals_step (n := 35) (v := .slice y ql cy) hD (by decide) (by omega) P (fun _ => rfl)⟩)
        | 36, _ =>
          cases hio
          have off : ¬ On f 36 := on_off (by omega) hn
          have h24 : On f 24 := he ⟨24, .guard⟩ (by simp) rfl
          have e24 : gv 41 = .bool false := P 24 (by decide) rfl h24
          have h35 : On f 35 := he ⟨35, .data⟩ (by simp) rfl
          have e35 : gv 52 = .slice y ql cy := P 35 (by decide) rfl h35
          have d0 := HX2.out _ hBx
          rw [e24, e35]
          rw [if_pos (by rfl)]
          have HQ := Lib.hid P
          clear P
          go_simp
          have P := HQ.out
          have bk : ∀ j, j ≠ 36 → On (f.setIfInBounds 36 true) j → On f j := fun j hj x => on_back (by omega) x hj
          have fw : ∀ j, On f j → On (f.setIfInBounds 36 true) j := fun j x => (on_put (by omega)).2 (.inr x)
          have fn : On (f.setIfInBounds 36 true) 36 := (on_put (by omega)).2 (.inl rfl)
          exact hKK (upd (upd (upd gv 41 (.bool false)) 52 (.slice y ql cy)) 53 (.string ⟨B2⟩)) _ (by rw [upd_same e24]; rw [upd_same e35]; exact ⟨hBx, vals_step (n := 36) (v := .string ⟨B2⟩) hD (by decide) (by omega) P (fun _ => rfl)⟩)
        | 37, _ =>
          cases hio
          have off : ¬ On f 37 := on_off (by omega) hn
          have h24 : On f 24 := he ⟨24, .guard⟩ (by simp) rfl
          have e24 : gv 41 = .bool false := P 24 (by decide) rfl h24
          have h30 : On f 30 := he ⟨30, .data⟩ (by simp) rfl
          have e30 : gv 47 = .string ⟨B1⟩ := P 30 (by decide) rfl h30
          have h36 : On f 36 := he ⟨36, .data⟩ (by simp) rfl
          have e36 : gv 53 = .string ⟨B2⟩ := P 36 (by decide) rfl h36
          have d0 := HD2.out
          rw [e24, e30, e36]
          rw [if_pos (by rfl)]
          have HQ := Lib.hid P
          clear P
          go_simp
          have P := HQ.out
          have bk : ∀ j, j ≠ 37 → On (f.setIfInBounds 37 true) j → On f j := fun j hj x => on_back (by omega) x hj
          have fw : ∀ j, On f j → On (f.setIfInBounds 37 true) j := fun j x => (on_put (by omega)).2 (.inr x)
          have fn : On (f.setIfInBounds 37 true) 37 := (on_put (by omega)).2 (.inl rfl)
          exact hKK (upd (upd (upd (upd gv 41 (.bool false)) 47 (.string ⟨B1⟩)) 53 (.string ⟨B2⟩)) 54 (.bool true)) _ (by rw [upd_same e24]; rw [upd_same e30]; rw [upd_same e36]; exact ⟨hBx, vals_step (n := 37) (v := .bool true) hD (by decide) (by omega) P (fun _ => rfl)⟩)
        | 38, _ =>
          cases hio
          have off : ¬ On f 38 := on_off (by omega) hn
          have h24 : On f 24 := he ⟨24, .data⟩ (by simp) rfl
          have e24 : gv 41 = .bool false := P 24 (by decide) rfl h24
          have h37 : On f 37 := he ⟨37, .data⟩ (by simp) rfl
          have e37 : gv 54 = .bool true := P 37 (by decide) rfl h37
          rw [e24, e37]
          have HQ := Lib.hid P
          clear P
          go_simp
          have P := HQ.out
          have bk : ∀ j, j ≠ 38 → On (f.setIfInBounds 38 true) j → On f j := fun j hj x => on_back (by omega) x hj
          have fw : ∀ j, On f j → On (f.setIfInBounds 38 true) j := fun j x => (on_put (by omega)).2 (.inr x)
          have fn : On (f.setIfInBounds 38 true) 38 := (on_put (by omega)).2 (.inl rfl)
          exact hKK (upd (upd (upd gv 41 (.bool false)) 54 (.bool true)) 55 (.bool true)) _ (by rw [upd_same e24]; rw [upd_same e37]; exact ⟨hBx, vals_step (n := 38) (v := .bool true) hD (by decide) (by omega) P (fun _ => rfl)⟩)
      · rintro f gv w5 hall hs' ⟨hBx, P⟩
        replace hs' : f.size = 39 := hs'
        have on : ∀ j, j < 39 → On f j := fun j hj => on_all hall hs' j hj
        have e6 : gv 55 = .bool true := P 38 (by decide) rfl (on 38 (by decide))
        have BX := Lib.hid hBx
        clear P hBx hall hs' on hD
        rw [e6]
        go_wp2_with fail
        go_ret
        exact ⟨retb HNO.out.symm, hB.out.step BX.out⟩
    have HYE := Lib.hid (HT.out (by
      obtain ⟨p0, p1, p2⟩ := p
      obtain ⟨q0, q1, q2⟩ := q
      have h := e2
      rw [HBB.out.1, HBB.out.2] at h
      have h2 : p2 = q2 := by simpa using h
      simp only at e0 e1
      subst e0 e1 h2
      rfl))
    have HD2 := Lib.hid (show ((ByteArray.toList ⟨B1⟩) == (ByteArray.toList ⟨B2⟩)) = true by rw [lists_eq HBB.out.1 HBB.out.2, decide_eq_true e2])
    clear e0 e1 e2
    go_upto_region 6 with fail
    have hD : ∀ j, j < 39 → ∀ n, n < 39 → j ≠ n → dkN [17, 18, 19, 20, 21, 22, 23, 24, 25, 26, 27, 28, 29, 30, 31, 32, 33, 34, 35, 36, 37, 38, 39, 40, 41, 42, 43, 44, 45, 46, 47, 48, 49, 50, 51, 52, 53, 54, 55] j ≠ dkN [17, 18, 19, 20, 21, 22, 23, 24, 25, 26, 27, 28, 29, 30, 31, 32, 33, 34, 35, 36, 37, 38, 39, 40, 41, 42, 43, 44, 45, 46, 47, 48, 49, 50, 51, 52, 53, 54, 55] n := by decide +kernel
    refine region_fun (by kernel_rfl) (by kernel_rfl) (fun gv => #[.slice (some ⟨b, fo, none⟩) n1 c1, .slice (some ⟨b', fo', none⟩) n1 c2, undef, undef, gv 4, .int .i64 (i : Int), .slice (some ⟨b, fo, none⟩) n1 c1, .int .i64 (n1 : Int), .slice (some ⟨b', fo', none⟩) n1 c2, .int .i64 (n1 : Int), .bool false, .int .i64 (i : Int), .slice (some ⟨b, fo, none⟩) n1 c1, .int .i64 (n1 : Int), .bool true, gv 15, gv 16, gv 17, gv 18, gv 19, gv 20, gv 21, gv 22, gv 23, gv 24, gv 25, gv 26, gv 27, gv 28, gv 29, gv 30, gv 31, gv 32, gv 33, gv 34, gv 35, gv 36, gv 37, gv 38, gv 39, gv 40, gv 41, gv 42, gv 43, gv 44, gv 45, gv 46, gv 47, gv 48, gv 49, gv 50, gv 51, gv 52, gv 53, gv 54, gv 55]) rfl (fun f gv wx => Below wr.heap.size wr wx ∧ (∀ j, j < 39 → (fun j => false) j = false → On f j → gv (dkN [17, 18, 19, 20, 21, 22, 23, 24, 25, 26, 27, 28, 29, 30, 31, 32, 33, 34, 35, 36, 37, 38, 39, 40, 41, 42, 43, 44, 45, 46, 47, 48, 49, 50, 51, 52, 53, 54, 55] j) = vkN [.slice (some ⟨b, fo, none⟩) n1 c1, .int .i64 (i : Int), .pointer (some ⟨b, fo + i * 3, none⟩), .pointer (some ⟨b, fo + i * 3, none⟩), .int .i64 p.fr, .slice (some ⟨b', fo', none⟩) n1 c2, .int .i64 (i : Int), .pointer (some ⟨b', fo' + i * 3, none⟩), .pointer (some ⟨b', fo' + i * 3, none⟩), .int .i64 q.fr, .bool false, .bool false, .slice (some ⟨b, fo, none⟩) n1 c1, .int .i64 (i : Int), .pointer (some ⟨b, fo + i * 3, none⟩), .pointer (some ⟨b, fo + i * 3 + 1, none⟩), .int .i64 p.to, .slice (some ⟨b', fo', none⟩) n1 c2, .int .i64 (i : Int), .pointer (some ⟨b', fo' + i * 3, none⟩), .pointer (some ⟨b', fo' + i * 3 + 1, none⟩), .int .i64 q.to, .bool false, .bool false, .bool false, .slice (some ⟨b, fo, none⟩) n1 c1, .int .i64 (i : Int), .pointer (some ⟨b, fo + i * 3, none⟩), .pointer (some ⟨b, fo + i * 3 + 2, none⟩), .slice x pl cx, .string ⟨B1⟩, .slice (some ⟨b', fo', none⟩) n1 c2, .int .i64 (i : Int), .pointer (some ⟨b', fo' + i * 3, none⟩), .pointer (some ⟨b', fo' + i * 3 + 2, none⟩), .slice y ql cy, .string ⟨B2⟩, .bool false, .bool false] j)) ?_ ?_ ?_
    · have hoff : ∀ j, ¬ On (Array.replicate 39 false) j := by
        intro j hj; simp only [On, Array.getD_eq_getD_getElem?, Array.getElem?_replicate] at hj; split at hj <;> simp at hj
      exact ⟨(Below.refl _ _).drew, fun j _ _ x => absurd x (hoff _)⟩
    · rintro i' o' f gv wm hio hs' hn he ⟨hBx, P⟩ KK hKK
      have hi' : i' < 39 := (Array.getElem?_eq_some_iff.1 hio).1
      replace hs' : f.size = 39 := hs'
      match i', hi' with
      | 0, _ =>
        cases hio
        have off : ¬ On f 0 := on_off (by omega) hn
        have HQ := Lib.hid P
        clear P
        go_simp
        have P := HQ.out
        have bk : ∀ j, j ≠ 0 → On (f.setIfInBounds 0 true) j → On f j := fun j hj x => on_back (by omega) x hj
        have fw : ∀ j, On f j → On (f.setIfInBounds 0 true) j := fun j x => (on_put (by omega)).2 (.inr x)
        have fn : On (f.setIfInBounds 0 true) 0 := (on_put (by omega)).2 (.inl rfl)
        exact hKK (upd gv 17 (.slice (some ⟨b, fo, none⟩) n1 c1)) _ (by exact ⟨hBx, vals_step (n := 0) (v := .slice (some ⟨b, fo, none⟩) n1 c1) hD (by decide) (by omega) P (fun _ => rfl)⟩)
      | 1, _ =>
        cases hio
        have off : ¬ On f 1 := on_off (by omega) hn
        have HQ := Lib.hid P
        clear P
        go_simp
        have P := HQ.out
        have bk : ∀ j, j ≠ 1 → On (f.setIfInBounds 1 true) j → On f j := fun j hj x => on_back (by omega) x hj
        have fw : ∀ j, On f j → On (f.setIfInBounds 1 true) j := fun j x => (on_put (by omega)).2 (.inr x)
        have fn : On (f.setIfInBounds 1 true) 1 := (on_put (by omega)).2 (.inl rfl)
        exact hKK (upd gv 18 (.int .i64 (i : Int))) _ (by exact ⟨hBx, vals_step (n := 1) (v := .int .i64 (i : Int)) hD (by decide) (by omega) P (fun _ => rfl)⟩)
      | 2, _ =>
        cases hio
        have off : ¬ On f 2 := on_off (by omega) hn
        have h0 : On f 0 := he ⟨0, .data⟩ (by simp) rfl
        have e0 : gv 17 = .slice (some ⟨b, fo, none⟩) n1 c1 := P 0 (by decide) rfl h0
        have h1 : On f 1 := he ⟨1, .data⟩ (by simp) rfl
        have e1 : gv 18 = .int .i64 (i : Int) := P 1 (by decide) rfl h1
        rw [e0, e1]
        have HQ := Lib.hid P
        clear P
        go_simp
        have P := HQ.out
        have bk : ∀ j, j ≠ 2 → On (f.setIfInBounds 2 true) j → On f j := fun j hj x => on_back (by omega) x hj
        have fw : ∀ j, On f j → On (f.setIfInBounds 2 true) j := fun j x => (on_put (by omega)).2 (.inr x)
        have fn : On (f.setIfInBounds 2 true) 2 := (on_put (by omega)).2 (.inl rfl)
        exact hKK (upd (upd (upd gv 17 (.slice (some ⟨b, fo, none⟩) n1 c1)) 18 (.int .i64 (i : Int))) 19 (.pointer (some ⟨b, fo + i * 3, none⟩))) _ (by rw [upd_same e0]; rw [upd_same e1]; exact ⟨hBx, vals_step (n := 2) (v := .pointer (some ⟨b, fo + i * 3, none⟩)) hD (by decide) (by omega) P (fun _ => rfl)⟩)
      | 3, _ =>
        cases hio
        have off : ¬ On f 3 := on_off (by omega) hn
        have h2 : On f 2 := he ⟨2, .data⟩ (by simp) rfl
        have e2 : gv 19 = .pointer (some ⟨b, fo + i * 3, none⟩) := P 2 (by decide) rfl h2
        rw [e2]
        have HQ := Lib.hid P
        clear P
        go_simp
        have P := HQ.out
        have bk : ∀ j, j ≠ 3 → On (f.setIfInBounds 3 true) j → On f j := fun j hj x => on_back (by omega) x hj
        have fw : ∀ j, On f j → On (f.setIfInBounds 3 true) j := fun j x => (on_put (by omega)).2 (.inr x)
        have fn : On (f.setIfInBounds 3 true) 3 := (on_put (by omega)).2 (.inl rfl)
        exact hKK (upd (upd gv 19 (.pointer (some ⟨b, fo + i * 3, none⟩))) 20 (.pointer (some ⟨b, fo + i * 3, none⟩))) _ (by rw [upd_same e2]; exact ⟨hBx, vals_step (n := 3) (v := .pointer (some ⟨b, fo + i * 3, none⟩)) hD (by decide) (by omega) P (fun _ => rfl)⟩)
      | 4, _ =>
        cases hio
        have off : ¬ On f 4 := on_off (by omega) hn
        have h3 : On f 3 := he ⟨3, .data⟩ (by simp) rfl
        have e3 : gv 20 = .pointer (some ⟨b, fo + i * 3, none⟩) := P 3 (by decide) rfl h3
        have d0 := carry_cell HG.out.1 hBx
        rw [e3]
        have HQ := Lib.hid P
        clear P
        go_simp
        have P := HQ.out
        have bk : ∀ j, j ≠ 4 → On (f.setIfInBounds 4 true) j → On f j := fun j hj x => on_back (by omega) x hj
        have fw : ∀ j, On f j → On (f.setIfInBounds 4 true) j := fun j x => (on_put (by omega)).2 (.inr x)
        have fn : On (f.setIfInBounds 4 true) 4 := (on_put (by omega)).2 (.inl rfl)
        exact hKK (upd (upd gv 20 (.pointer (some ⟨b, fo + i * 3, none⟩))) 21 (.int .i64 p.fr)) _ (by rw [upd_same e3]; exact ⟨hBx, vals_step (n := 4) (v := .int .i64 p.fr) hD (by decide) (by omega) P (fun _ => rfl)⟩)
      | 5, _ =>
        cases hio
        have off : ¬ On f 5 := on_off (by omega) hn
        have HQ := Lib.hid P
        clear P
        go_simp
        have P := HQ.out
        have bk : ∀ j, j ≠ 5 → On (f.setIfInBounds 5 true) j → On f j := fun j hj x => on_back (by omega) x hj
        have fw : ∀ j, On f j → On (f.setIfInBounds 5 true) j := fun j x => (on_put (by omega)).2 (.inr x)
        have fn : On (f.setIfInBounds 5 true) 5 := (on_put (by omega)).2 (.inl rfl)
        exact hKK (upd gv 22 (.slice (some ⟨b', fo', none⟩) n1 c2)) _ (by exact ⟨hBx, vals_step (n := 5) (v := .slice (some ⟨b', fo', none⟩) n1 c2) hD (by decide) (by omega) P (fun _ => rfl)⟩)
      | 6, _ =>
        cases hio
        have off : ¬ On f 6 := on_off (by omega) hn
        have HQ := Lib.hid P
        clear P
        go_simp
        have P := HQ.out
        have bk : ∀ j, j ≠ 6 → On (f.setIfInBounds 6 true) j → On f j := fun j hj x => on_back (by omega) x hj
        have fw : ∀ j, On f j → On (f.setIfInBounds 6 true) j := fun j x => (on_put (by omega)).2 (.inr x)
        have fn : On (f.setIfInBounds 6 true) 6 := (on_put (by omega)).2 (.inl rfl)
        exact hKK (upd gv 23 (.int .i64 (i : Int))) _ (by exact ⟨hBx, vals_step (n := 6) (v := .int .i64 (i : Int)) hD (by decide) (by omega) P (fun _ => rfl)⟩)
      | 7, _ =>
        cases hio
        have off : ¬ On f 7 := on_off (by omega) hn
        have h5 : On f 5 := he ⟨5, .data⟩ (by simp) rfl
        have e5 : gv 22 = .slice (some ⟨b', fo', none⟩) n1 c2 := P 5 (by decide) rfl h5
        have h6 : On f 6 := he ⟨6, .data⟩ (by simp) rfl
        have e6 : gv 23 = .int .i64 (i : Int) := P 6 (by decide) rfl h6
        rw [e5, e6]
        have HQ := Lib.hid P
        clear P
        go_simp
        have P := HQ.out
        have bk : ∀ j, j ≠ 7 → On (f.setIfInBounds 7 true) j → On f j := fun j hj x => on_back (by omega) x hj
        have fw : ∀ j, On f j → On (f.setIfInBounds 7 true) j := fun j x => (on_put (by omega)).2 (.inr x)
        have fn : On (f.setIfInBounds 7 true) 7 := (on_put (by omega)).2 (.inl rfl)
        exact hKK (upd (upd (upd gv 22 (.slice (some ⟨b', fo', none⟩) n1 c2)) 23 (.int .i64 (i : Int))) 24 (.pointer (some ⟨b', fo' + i * 3, none⟩))) _ (by rw [upd_same e5]; rw [upd_same e6]; exact ⟨hBx, vals_step (n := 7) (v := .pointer (some ⟨b', fo' + i * 3, none⟩)) hD (by decide) (by omega) P (fun _ => rfl)⟩)
      | 8, _ =>
        cases hio
        have off : ¬ On f 8 := on_off (by omega) hn
        have h7 : On f 7 := he ⟨7, .data⟩ (by simp) rfl
        have e7 : gv 24 = .pointer (some ⟨b', fo' + i * 3, none⟩) := P 7 (by decide) rfl h7
        rw [e7]
        have HQ := Lib.hid P
        clear P
        go_simp
        have P := HQ.out
        have bk : ∀ j, j ≠ 8 → On (f.setIfInBounds 8 true) j → On f j := fun j hj x => on_back (by omega) x hj
        have fw : ∀ j, On f j → On (f.setIfInBounds 8 true) j := fun j x => (on_put (by omega)).2 (.inr x)
        have fn : On (f.setIfInBounds 8 true) 8 := (on_put (by omega)).2 (.inl rfl)
        exact hKK (upd (upd gv 24 (.pointer (some ⟨b', fo' + i * 3, none⟩))) 25 (.pointer (some ⟨b', fo' + i * 3, none⟩))) _ (by rw [upd_same e7]; exact ⟨hBx, vals_step (n := 8) (v := .pointer (some ⟨b', fo' + i * 3, none⟩)) hD (by decide) (by omega) P (fun _ => rfl)⟩)
      | 9, _ =>
        cases hio
        have off : ¬ On f 9 := on_off (by omega) hn
        have h8 : On f 8 := he ⟨8, .data⟩ (by simp) rfl
        have e8 : gv 25 = .pointer (some ⟨b', fo' + i * 3, none⟩) := P 8 (by decide) rfl h8
        have d0 := carry_cell HK.out.1 hBx
        rw [e8]
        have HQ := Lib.hid P
        clear P
        go_simp
        have P := HQ.out
        have bk : ∀ j, j ≠ 9 → On (f.setIfInBounds 9 true) j → On f j := fun j hj x => on_back (by omega) x hj
        have fw : ∀ j, On f j → On (f.setIfInBounds 9 true) j := fun j x => (on_put (by omega)).2 (.inr x)
        have fn : On (f.setIfInBounds 9 true) 9 := (on_put (by omega)).2 (.inl rfl)
        exact hKK (upd (upd gv 25 (.pointer (some ⟨b', fo' + i * 3, none⟩))) 26 (.int .i64 q.fr)) _ (by rw [upd_same e8]; exact ⟨hBx, vals_step (n := 9) (v := .int .i64 q.fr) hD (by decide) (by omega) P (fun _ => rfl)⟩)
      | 10, _ =>
        cases hio
        have off : ¬ On f 10 := on_off (by omega) hn
        have h4 : On f 4 := he ⟨4, .data⟩ (by simp) rfl
        have e4 : gv 21 = .int .i64 p.fr := P 4 (by decide) rfl h4
        have h9 : On f 9 := he ⟨9, .data⟩ (by simp) rfl
        have e9 : gv 26 = .int .i64 q.fr := P 9 (by decide) rfl h9
        have d0 := HD.out
        rw [e4, e9]
        have HQ := Lib.hid P
        clear P
        go_simp
        have P := HQ.out
        have bk : ∀ j, j ≠ 10 → On (f.setIfInBounds 10 true) j → On f j := fun j hj x => on_back (by omega) x hj
        have fw : ∀ j, On f j → On (f.setIfInBounds 10 true) j := fun j x => (on_put (by omega)).2 (.inr x)
        have fn : On (f.setIfInBounds 10 true) 10 := (on_put (by omega)).2 (.inl rfl)
        exact hKK (upd (upd (upd gv 21 (.int .i64 p.fr)) 26 (.int .i64 q.fr)) 27 (.bool false)) _ (by rw [upd_same e4]; rw [upd_same e9]; exact ⟨hBx, vals_step (n := 10) (v := .bool false) hD (by decide) (by omega) P (fun _ => rfl)⟩)
      | 11, _ =>
        cases hio
        have off : ¬ On f 11 := on_off (by omega) hn
        have h10 : On f 10 := he ⟨10, .data⟩ (by simp) rfl
        have e10 : gv 27 = .bool false := P 10 (by decide) rfl h10
        rw [e10]
        have HQ := Lib.hid P
        clear P
        go_simp
        have P := HQ.out
        have bk : ∀ j, j ≠ 11 → On (f.setIfInBounds 11 true) j → On f j := fun j hj x => on_back (by omega) x hj
        have fw : ∀ j, On f j → On (f.setIfInBounds 11 true) j := fun j x => (on_put (by omega)).2 (.inr x)
        have fn : On (f.setIfInBounds 11 true) 11 := (on_put (by omega)).2 (.inl rfl)
        exact hKK (upd (upd gv 27 (.bool false)) 28 (.bool false)) _ (by rw [upd_same e10]; exact ⟨hBx, vals_step (n := 11) (v := .bool false) hD (by decide) (by omega) P (fun _ => rfl)⟩)
      | 12, _ =>
        cases hio
        have off : ¬ On f 12 := on_off (by omega) hn
        have h11 : On f 11 := he ⟨11, .guard⟩ (by simp) rfl
        have e11 : gv 28 = .bool false := P 11 (by decide) rfl h11
        rw [e11]
        rw [if_pos (by rfl)]
        have HQ := Lib.hid P
        clear P
        go_simp
        have P := HQ.out
        have bk : ∀ j, j ≠ 12 → On (f.setIfInBounds 12 true) j → On f j := fun j hj x => on_back (by omega) x hj
        have fw : ∀ j, On f j → On (f.setIfInBounds 12 true) j := fun j x => (on_put (by omega)).2 (.inr x)
        have fn : On (f.setIfInBounds 12 true) 12 := (on_put (by omega)).2 (.inl rfl)
        exact hKK (upd (upd gv 28 (.bool false)) 29 (.slice (some ⟨b, fo, none⟩) n1 c1)) _ (by rw [upd_same e11]; exact ⟨hBx, vals_step (n := 12) (v := .slice (some ⟨b, fo, none⟩) n1 c1) hD (by decide) (by omega) P (fun _ => rfl)⟩)
      | 13, _ =>
        cases hio
        have off : ¬ On f 13 := on_off (by omega) hn
        have h11 : On f 11 := he ⟨11, .guard⟩ (by simp) rfl
        have e11 : gv 28 = .bool false := P 11 (by decide) rfl h11
        rw [e11]
        rw [if_pos (by rfl)]
        have HQ := Lib.hid P
        clear P
        go_simp
        have P := HQ.out
        have bk : ∀ j, j ≠ 13 → On (f.setIfInBounds 13 true) j → On f j := fun j hj x => on_back (by omega) x hj
        have fw : ∀ j, On f j → On (f.setIfInBounds 13 true) j := fun j x => (on_put (by omega)).2 (.inr x)
        have fn : On (f.setIfInBounds 13 true) 13 := (on_put (by omega)).2 (.inl rfl)
        exact hKK (upd (upd gv 28 (.bool false)) 30 (.int .i64 (i : Int))) _ (by rw [upd_same e11]; exact ⟨hBx, vals_step (n := 13) (v := .int .i64 (i : Int)) hD (by decide) (by omega) P (fun _ => rfl)⟩)
      | 14, _ =>
        cases hio
        have off : ¬ On f 14 := on_off (by omega) hn
        have h11 : On f 11 := he ⟨11, .guard⟩ (by simp) rfl
        have e11 : gv 28 = .bool false := P 11 (by decide) rfl h11
        have h12 : On f 12 := he ⟨12, .data⟩ (by simp) rfl
        have e12 : gv 29 = .slice (some ⟨b, fo, none⟩) n1 c1 := P 12 (by decide) rfl h12
        have h13 : On f 13 := he ⟨13, .data⟩ (by simp) rfl
        have e13 : gv 30 = .int .i64 (i : Int) := P 13 (by decide) rfl h13
        rw [e11, e12, e13]
        rw [if_pos (by rfl)]
        have HQ := Lib.hid P
        clear P
        go_simp
        have P := HQ.out
        have bk : ∀ j, j ≠ 14 → On (f.setIfInBounds 14 true) j → On f j := fun j hj x => on_back (by omega) x hj
        have fw : ∀ j, On f j → On (f.setIfInBounds 14 true) j := fun j x => (on_put (by omega)).2 (.inr x)
        have fn : On (f.setIfInBounds 14 true) 14 := (on_put (by omega)).2 (.inl rfl)
        exact hKK (upd (upd (upd (upd gv 28 (.bool false)) 29 (.slice (some ⟨b, fo, none⟩) n1 c1)) 30 (.int .i64 (i : Int))) 31 (.pointer (some ⟨b, fo + i * 3, none⟩))) _ (by rw [upd_same e11]; rw [upd_same e12]; rw [upd_same e13]; exact ⟨hBx, vals_step (n := 14) (v := .pointer (some ⟨b, fo + i * 3, none⟩)) hD (by decide) (by omega) P (fun _ => rfl)⟩)
      | 15, _ =>
        cases hio
        have off : ¬ On f 15 := on_off (by omega) hn
        have h11 : On f 11 := he ⟨11, .guard⟩ (by simp) rfl
        have e11 : gv 28 = .bool false := P 11 (by decide) rfl h11
        have h14 : On f 14 := he ⟨14, .data⟩ (by simp) rfl
        have e14 : gv 31 = .pointer (some ⟨b, fo + i * 3, none⟩) := P 14 (by decide) rfl h14
        rw [e11, e14]
        rw [if_pos (by rfl)]
        have HQ := Lib.hid P
        clear P
        go_simp
        have P := HQ.out
        have bk : ∀ j, j ≠ 15 → On (f.setIfInBounds 15 true) j → On f j := fun j hj x => on_back (by omega) x hj
        have fw : ∀ j, On f j → On (f.setIfInBounds 15 true) j := fun j x => (on_put (by omega)).2 (.inr x)
        have fn : On (f.setIfInBounds 15 true) 15 := (on_put (by omega)).2 (.inl rfl)
        exact hKK (upd (upd (upd gv 28 (.bool false)) 31 (.pointer (some ⟨b, fo + i * 3, none⟩))) 32 (.pointer (some ⟨b, fo + i * 3 + 1, none⟩))) _ (by rw [upd_same e11]; rw [upd_same e14]; exact ⟨hBx, vals_step (n := 15) (v := .pointer (some ⟨b, fo + i * 3 + 1, none⟩)) hD (by decide) (by omega) P (fun _ => rfl)⟩)
      | 16, _ =>
        cases hio
        have off : ¬ On f 16 := on_off (by omega) hn
        have h11 : On f 11 := he ⟨11, .guard⟩ (by simp) rfl
        have e11 : gv 28 = .bool false := P 11 (by decide) rfl h11
        have h15 : On f 15 := he ⟨15, .data⟩ (by simp) rfl
        have e15 : gv 32 = .pointer (some ⟨b, fo + i * 3 + 1, none⟩) := P 15 (by decide) rfl h15
        have d0 := carry_cell HG.out.2.1 hBx
        rw [e11, e15]
        rw [if_pos (by rfl)]
        have HQ := Lib.hid P
        clear P
        go_simp
        have P := HQ.out
        have bk : ∀ j, j ≠ 16 → On (f.setIfInBounds 16 true) j → On f j := fun j hj x => on_back (by omega) x hj
        have fw : ∀ j, On f j → On (f.setIfInBounds 16 true) j := fun j x => (on_put (by omega)).2 (.inr x)
        have fn : On (f.setIfInBounds 16 true) 16 := (on_put (by omega)).2 (.inl rfl)
        exact hKK (upd (upd (upd gv 28 (.bool false)) 32 (.pointer (some ⟨b, fo + i * 3 + 1, none⟩))) 33 (.int .i64 p.to)) _ (by rw [upd_same e11]; rw [upd_same e15]; exact ⟨hBx, vals_step (n := 16) (v := .int .i64 p.to) hD (by decide) (by omega) P (fun _ => rfl)⟩)
      | 17, _ =>
        cases hio
        have off : ¬ On f 17 := on_off (by omega) hn
        have h11 : On f 11 := he ⟨11, .guard⟩ (by simp) rfl
        have e11 : gv 28 = .bool false := P 11 (by decide) rfl h11
        rw [e11]
        rw [if_pos (by rfl)]
        have HQ := Lib.hid P
        clear P
        go_simp
        have P := HQ.out
        have bk : ∀ j, j ≠ 17 → On (f.setIfInBounds 17 true) j → On f j := fun j hj x => on_back (by omega) x hj
        have fw : ∀ j, On f j → On (f.setIfInBounds 17 true) j := fun j x => (on_put (by omega)).2 (.inr x)
        have fn : On (f.setIfInBounds 17 true) 17 := (on_put (by omega)).2 (.inl rfl)
        exact hKK (upd (upd gv 28 (.bool false)) 34 (.slice (some ⟨b', fo', none⟩) n1 c2)) _ (by rw [upd_same e11]; exact ⟨hBx, vals_step (n := 17) (v := .slice (some ⟨b', fo', none⟩) n1 c2) hD (by decide) (by omega) P (fun _ => rfl)⟩)
      | 18, _ =>
        cases hio
        have off : ¬ On f 18 := on_off (by omega) hn
        have h11 : On f 11 := he ⟨11, .guard⟩ (by simp) rfl
        have e11 : gv 28 = .bool false := P 11 (by decide) rfl h11
        rw [e11]
        rw [if_pos (by rfl)]
        have HQ := Lib.hid P
        clear P
        go_simp
        have P := HQ.out
        have bk : ∀ j, j ≠ 18 → On (f.setIfInBounds 18 true) j → On f j := fun j hj x => on_back (by omega) x hj
        have fw : ∀ j, On f j → On (f.setIfInBounds 18 true) j := fun j x => (on_put (by omega)).2 (.inr x)
        have fn : On (f.setIfInBounds 18 true) 18 := (on_put (by omega)).2 (.inl rfl)
        exact hKK (upd (upd gv 28 (.bool false)) 35 (.int .i64 (i : Int))) _ (by rw [upd_same e11]; exact ⟨hBx, vals_step (n := 18) (v := .int .i64 (i : Int)) hD (by decide) (by omega) P (fun _ => rfl)⟩)
      | 19, _ =>
        cases hio
        have off : ¬ On f 19 := on_off (by omega) hn
        have h11 : On f 11 := he ⟨11, .guard⟩ (by simp) rfl
        have e11 : gv 28 = .bool false := P 11 (by decide) rfl h11
        have h17 : On f 17 := he ⟨17, .data⟩ (by simp) rfl
        have e17 : gv 34 = .slice (some ⟨b', fo', none⟩) n1 c2 := P 17 (by decide) rfl h17
        have h18 : On f 18 := he ⟨18, .data⟩ (by simp) rfl
        have e18 : gv 35 = .int .i64 (i : Int) := P 18 (by decide) rfl h18
        rw [e11, e17, e18]
        rw [if_pos (by rfl)]
        have HQ := Lib.hid P
        clear P
        go_simp
        have P := HQ.out
        have bk : ∀ j, j ≠ 19 → On (f.setIfInBounds 19 true) j → On f j := fun j hj x => on_back (by omega) x hj
        have fw : ∀ j, On f j → On (f.setIfInBounds 19 true) j := fun j x => (on_put (by omega)).2 (.inr x)
        have fn : On (f.setIfInBounds 19 true) 19 := (on_put (by omega)).2 (.inl rfl)
        exact hKK (upd (upd (upd (upd gv 28 (.bool false)) 34 (.slice (some ⟨b', fo', none⟩) n1 c2)) 35 (.int .i64 (i : Int))) 36 (.pointer (some ⟨b', fo' + i * 3, none⟩))) _ (by rw [upd_same e11]; rw [upd_same e17]; rw [upd_same e18]; exact ⟨hBx, vals_step (n := 19) (v := .pointer (some ⟨b', fo' + i * 3, none⟩)) hD (by decide) (by omega) P (fun _ => rfl)⟩)
      | 20, _ =>
        cases hio
        have off : ¬ On f 20 := on_off (by omega) hn
        have h11 : On f 11 := he ⟨11, .guard⟩ (by simp) rfl
        have e11 : gv 28 = .bool false := P 11 (by decide) rfl h11
        have h19 : On f 19 := he ⟨19, .data⟩ (by simp) rfl
        have e19 : gv 36 = .pointer (some ⟨b', fo' + i * 3, none⟩) := P 19 (by decide) rfl h19
        rw [e11, e19]
        rw [if_pos (by rfl)]
        have HQ := Lib.hid P
        clear P
        go_simp
        have P := HQ.out
        have bk : ∀ j, j ≠ 20 → On (f.setIfInBounds 20 true) j → On f j := fun j hj x => on_back (by omega) x hj
        have fw : ∀ j, On f j → On (f.setIfInBounds 20 true) j := fun j x => (on_put (by omega)).2 (.inr x)
        have fn : On (f.setIfInBounds 20 true) 20 := (on_put (by omega)).2 (.inl rfl)
        exact hKK (upd (upd (upd gv 28 (.bool false)) 36 (.pointer (some ⟨b', fo' + i * 3, none⟩))) 37 (.pointer (some ⟨b', fo' + i * 3 + 1, none⟩))) _ (by rw [upd_same e11]; rw [upd_same e19]; exact ⟨hBx, vals_step (n := 20) (v := .pointer (some ⟨b', fo' + i * 3 + 1, none⟩)) hD (by decide) (by omega) P (fun _ => rfl)⟩)
      | 21, _ =>
        cases hio
        have off : ¬ On f 21 := on_off (by omega) hn
        have h11 : On f 11 := he ⟨11, .guard⟩ (by simp) rfl
        have e11 : gv 28 = .bool false := P 11 (by decide) rfl h11
        have h20 : On f 20 := he ⟨20, .data⟩ (by simp) rfl
        have e20 : gv 37 = .pointer (some ⟨b', fo' + i * 3 + 1, none⟩) := P 20 (by decide) rfl h20
        have d0 := carry_cell HK.out.2.1 hBx
        rw [e11, e20]
        rw [if_pos (by rfl)]
        have HQ := Lib.hid P
        clear P
        go_simp
        have P := HQ.out
        have bk : ∀ j, j ≠ 21 → On (f.setIfInBounds 21 true) j → On f j := fun j hj x => on_back (by omega) x hj
        have fw : ∀ j, On f j → On (f.setIfInBounds 21 true) j := fun j x => (on_put (by omega)).2 (.inr x)
        have fn : On (f.setIfInBounds 21 true) 21 := (on_put (by omega)).2 (.inl rfl)
        exact hKK (upd (upd (upd gv 28 (.bool false)) 37 (.pointer (some ⟨b', fo' + i * 3 + 1, none⟩))) 38 (.int .i64 q.to)) _ (by rw [upd_same e11]; rw [upd_same e20]; exact ⟨hBx, vals_step (n := 21) (v := .int .i64 q.to) hD (by decide) (by omega) P (fun _ => rfl)⟩)
      | 22, _ =>
        cases hio
        have off : ¬ On f 22 := on_off (by omega) hn
        have h11 : On f 11 := he ⟨11, .guard⟩ (by simp) rfl
        have e11 : gv 28 = .bool false := P 11 (by decide) rfl h11
        have h16 : On f 16 := he ⟨16, .data⟩ (by simp) rfl
        have e16 : gv 33 = .int .i64 p.to := P 16 (by decide) rfl h16
        have h21 : On f 21 := he ⟨21, .data⟩ (by simp) rfl
        have e21 : gv 38 = .int .i64 q.to := P 21 (by decide) rfl h21
        have d0 := HD1.out
        rw [e11, e16, e21]
        rw [if_pos (by rfl)]
        have HQ := Lib.hid P
        clear P
        go_simp
        have P := HQ.out
        have bk : ∀ j, j ≠ 22 → On (f.setIfInBounds 22 true) j → On f j := fun j hj x => on_back (by omega) x hj
        have fw : ∀ j, On f j → On (f.setIfInBounds 22 true) j := fun j x => (on_put (by omega)).2 (.inr x)
        have fn : On (f.setIfInBounds 22 true) 22 := (on_put (by omega)).2 (.inl rfl)
        exact hKK (upd (upd (upd (upd gv 28 (.bool false)) 33 (.int .i64 p.to)) 38 (.int .i64 q.to)) 39 (.bool false)) _ (by rw [upd_same e11]; rw [upd_same e16]; rw [upd_same e21]; exact ⟨hBx, vals_step (n := 22) (v := .bool false) hD (by decide) (by omega) P (fun _ => rfl)⟩)
      | 23, _ =>
        cases hio
        have off : ¬ On f 23 := on_off (by omega) hn
        have h11 : On f 11 := he ⟨11, .data⟩ (by simp) rfl
        have e11 : gv 28 = .bool false := P 11 (by decide) rfl h11
        have h22 : On f 22 := he ⟨22, .data⟩ (by simp) rfl
        have e22 : gv 39 = .bool false := P 22 (by decide) rfl h22
        rw [e11, e22]
        have HQ := Lib.hid P
        clear P
        go_simp
        have P := HQ.out
        have bk : ∀ j, j ≠ 23 → On (f.setIfInBounds 23 true) j → On f j := fun j hj x => on_back (by omega) x hj
        have fw : ∀ j, On f j → On (f.setIfInBounds 23 true) j := fun j x => (on_put (by omega)).2 (.inr x)
        have fn : On (f.setIfInBounds 23 true) 23 := (on_put (by omega)).2 (.inl rfl)
        exact hKK (upd (upd (upd gv 28 (.bool false)) 39 (.bool false)) 40 (.bool false)) _ (by rw [upd_same e11]; rw [upd_same e22]; exact ⟨hBx, vals_step (n := 23) (v := .bool false) hD (by decide) (by omega) P (fun _ => rfl)⟩)
      | 24, _ =>
        cases hio
        have off : ¬ On f 24 := on_off (by omega) hn
        have h23 : On f 23 := he ⟨23, .data⟩ (by simp) rfl
        have e23 : gv 40 = .bool false := P 23 (by decide) rfl h23
        rw [e23]
        have HQ := Lib.hid P
        clear P
        go_simp
        have P := HQ.out
        have bk : ∀ j, j ≠ 24 → On (f.setIfInBounds 24 true) j → On f j := fun j hj x => on_back (by omega) x hj
        have fw : ∀ j, On f j → On (f.setIfInBounds 24 true) j := fun j x => (on_put (by omega)).2 (.inr x)
        have fn : On (f.setIfInBounds 24 true) 24 := (on_put (by omega)).2 (.inl rfl)
        exact hKK (upd (upd gv 40 (.bool false)) 41 (.bool false)) _ (by rw [upd_same e23]; exact ⟨hBx, vals_step (n := 24) (v := .bool false) hD (by decide) (by omega) P (fun _ => rfl)⟩)
      | 25, _ =>
        cases hio
        have off : ¬ On f 25 := on_off (by omega) hn
        have h24 : On f 24 := he ⟨24, .guard⟩ (by simp) rfl
        have e24 : gv 41 = .bool false := P 24 (by decide) rfl h24
        rw [e24]
        rw [if_pos (by rfl)]
        have HQ := Lib.hid P
        clear P
        go_simp
        have P := HQ.out
        have bk : ∀ j, j ≠ 25 → On (f.setIfInBounds 25 true) j → On f j := fun j hj x => on_back (by omega) x hj
        have fw : ∀ j, On f j → On (f.setIfInBounds 25 true) j := fun j x => (on_put (by omega)).2 (.inr x)
        have fn : On (f.setIfInBounds 25 true) 25 := (on_put (by omega)).2 (.inl rfl)
        exact hKK (upd (upd gv 41 (.bool false)) 42 (.slice (some ⟨b, fo, none⟩) n1 c1)) _ (by rw [upd_same e24]; exact ⟨hBx, vals_step (n := 25) (v := .slice (some ⟨b, fo, none⟩) n1 c1) hD (by decide) (by omega) P (fun _ => rfl)⟩)
      | 26, _ =>
        cases hio
        have off : ¬ On f 26 := on_off (by omega) hn
        have h24 : On f 24 := he ⟨24, .guard⟩ (by simp) rfl
        have e24 : gv 41 = .bool false := P 24 (by decide) rfl h24
        rw [e24]
        rw [if_pos (by rfl)]
        have HQ := Lib.hid P
        clear P
        go_simp
        have P := HQ.out
        have bk : ∀ j, j ≠ 26 → On (f.setIfInBounds 26 true) j → On f j := fun j hj x => on_back (by omega) x hj
        have fw : ∀ j, On f j → On (f.setIfInBounds 26 true) j := fun j x => (on_put (by omega)).2 (.inr x)
        have fn : On (f.setIfInBounds 26 true) 26 := (on_put (by omega)).2 (.inl rfl)
        exact hKK (upd (upd gv 41 (.bool false)) 43 (.int .i64 (i : Int))) _ (by rw [upd_same e24]; exact ⟨hBx, vals_step (n := 26) (v := .int .i64 (i : Int)) hD (by decide) (by omega) P (fun _ => rfl)⟩)
      | 27, _ =>
        cases hio
        have off : ¬ On f 27 := on_off (by omega) hn
        have h24 : On f 24 := he ⟨24, .guard⟩ (by simp) rfl
        have e24 : gv 41 = .bool false := P 24 (by decide) rfl h24
        have h25 : On f 25 := he ⟨25, .data⟩ (by simp) rfl
        have e25 : gv 42 = .slice (some ⟨b, fo, none⟩) n1 c1 := P 25 (by decide) rfl h25
        have h26 : On f 26 := he ⟨26, .data⟩ (by simp) rfl
        have e26 : gv 43 = .int .i64 (i : Int) := P 26 (by decide) rfl h26
        rw [e24, e25, e26]
        rw [if_pos (by rfl)]
        have HQ := Lib.hid P
        clear P
        go_simp
        have P := HQ.out
        have bk : ∀ j, j ≠ 27 → On (f.setIfInBounds 27 true) j → On f j := fun j hj x => on_back (by omega) x hj
        have fw : ∀ j, On f j → On (f.setIfInBounds 27 true) j := fun j x => (on_put (by omega)).2 (.inr x)
        have fn : On (f.setIfInBounds 27 true) 27 := (on_put (by omega)).2 (.inl rfl)
        exact hKK (upd (upd (upd (upd gv 41 (.bool false)) 42 (.slice (some ⟨b, fo, none⟩) n1 c1)) 43 (.int .i64 (i : Int))) 44 (.pointer (some ⟨b, fo + i * 3, none⟩))) _ (by rw [upd_same e24]; rw [upd_same e25]; rw [upd_same e26]; exact ⟨hBx, vals_step (n := 27) (v := .pointer (some ⟨b, fo + i * 3, none⟩)) hD (by decide) (by omega) P (fun _ => rfl)⟩)
      | 28, _ =>
        cases hio
        have off : ¬ On f 28 := on_off (by omega) hn
        have h24 : On f 24 := he ⟨24, .guard⟩ (by simp) rfl
        have e24 : gv 41 = .bool false := P 24 (by decide) rfl h24
        have h27 : On f 27 := he ⟨27, .data⟩ (by simp) rfl
        have e27 : gv 44 = .pointer (some ⟨b, fo + i * 3, none⟩) := P 27 (by decide) rfl h27
        rw [e24, e27]
        rw [if_pos (by rfl)]
        have HQ := Lib.hid P
        clear P
        go_simp
        have P := HQ.out
        have bk : ∀ j, j ≠ 28 → On (f.setIfInBounds 28 true) j → On f j := fun j hj x => on_back (by omega) x hj
        have fw : ∀ j, On f j → On (f.setIfInBounds 28 true) j := fun j x => (on_put (by omega)).2 (.inr x)
        have fn : On (f.setIfInBounds 28 true) 28 := (on_put (by omega)).2 (.inl rfl)
        exact hKK (upd (upd (upd gv 41 (.bool false)) 44 (.pointer (some ⟨b, fo + i * 3, none⟩))) 45 (.pointer (some ⟨b, fo + i * 3 + 2, none⟩))) _ (by rw [upd_same e24]; rw [upd_same e27]; exact ⟨hBx, vals_step (n := 28) (v := .pointer (some ⟨b, fo + i * 3 + 2, none⟩)) hD (by decide) (by omega) P (fun _ => rfl)⟩)
      | 29, _ =>
        cases hio
        have off : ¬ On f 29 := on_off (by omega) hn
        have h24 : On f 24 := he ⟨24, .guard⟩ (by simp) rfl
        have e24 : gv 41 = .bool false := P 24 (by decide) rfl h24
        have h28 : On f 28 := he ⟨28, .data⟩ (by simp) rfl
        have e28 : gv 45 = .pointer (some ⟨b, fo + i * 3 + 2, none⟩) := P 28 (by decide) rfl h28
        have d0 := carry_cell HG.out.2.2 hBx
        rw [e24, e28]
        rw [if_pos (by rfl)]
        have HQ := Lib.hid P
        clear P
        go_simp
        have P := HQ.out
        have bk : ∀ j, j ≠ 29 → On (f.setIfInBounds 29 true) j → On f j := fun j hj x => on_back (by omega) x hj
        have fw : ∀ j, On f j → On (f.setIfInBounds 29 true) j := fun j x => (on_put (by omega)).2 (.inr x)
        have fn : On (f.setIfInBounds 29 true) 29 := (on_put (by omega)).2 (.inl rfl)
        exact hKK (upd (upd (upd gv 41 (.bool false)) 45 (.pointer (some ⟨b, fo + i * 3 + 2, none⟩))) 46 (.slice x pl cx)) _ (by rw [upd_same e24]; rw [upd_same e28]; exact ⟨hBx, vals_step (n := 29) (v := .slice x pl cx) hD (by decide) (by omega) P (fun _ => rfl)⟩)
      | 30, _ =>
        cases hio
        have off : ¬ On f 30 := on_off (by omega) hn
        have h24 : On f 24 := he ⟨24, .guard⟩ (by simp) rfl
        have e24 : gv 41 = .bool false := P 24 (by decide) rfl h24
        have h29 : On f 29 := he ⟨29, .data⟩ (by simp) rfl
        have e29 : gv 46 = .slice x pl cx := P 29 (by decide) rfl h29
        have d0 := HX1.out _ hBx
        rw [e24, e29]
        rw [if_pos (by rfl)]
        have HQ := Lib.hid P
        clear P
        go_simp
        have P := HQ.out
        have bk : ∀ j, j ≠ 30 → On (f.setIfInBounds 30 true) j → On f j := fun j hj x => on_back (by omega) x hj
        have fw : ∀ j, On f j → On (f.setIfInBounds 30 true) j := fun j x => (on_put (by omega)).2 (.inr x)
        have fn : On (f.setIfInBounds 30 true) 30 := (on_put (by omega)).2 (.inl rfl)
        exact hKK (upd (upd (upd gv 41 (.bool false)) 46 (.slice x pl cx)) 47 (.string ⟨B1⟩)) _ (by rw [upd_same e24]; rw [upd_same e29]; exact ⟨hBx, vals_step (n := 30) (v := .string ⟨B1⟩) hD (by decide) (by omega) P (fun _ => rfl)⟩)
      | 31, _ =>
        cases hio
        have off : ¬ On f 31 := on_off (by omega) hn
        have h24 : On f 24 := he ⟨24, .guard⟩ (by simp) rfl
        have e24 : gv 41 = .bool false := P 24 (by decide) rfl h24
        rw [e24]
        rw [if_pos (by rfl)]
        have HQ := Lib.hid P
        clear P
        go_simp
        have P := HQ.out
        have bk : ∀ j, j ≠ 31 → On (f.setIfInBounds 31 true) j → On f j := fun j hj x => on_back (by omega) x hj
        have fw : ∀ j, On f j → On (f.setIfInBounds 31 true) j := fun j x => (on_put (by omega)).2 (.inr x)
        have fn : On (f.setIfInBounds 31 true) 31 := (on_put (by omega)).2 (.inl rfl)
        exact hKK (upd (upd gv 41 (.bool false)) 48 (.slice (some ⟨b', fo', none⟩) n1 c2)) _ (by rw [upd_same e24]; exact ⟨hBx, vals_step (n := 31) (v := .slice (some ⟨b', fo', none⟩) n1 c2) hD (by decide) (by omega) P (fun _ => rfl)⟩)
      | 32, _ =>
        cases hio
        have off : ¬ On f 32 := on_off (by omega) hn
        have h24 : On f 24 := he ⟨24, .guard⟩ (by simp) rfl
        have e24 : gv 41 = .bool false := P 24 (by decide) rfl h24
        rw [e24]
        rw [if_pos (by rfl)]
        have HQ := Lib.hid P
        clear P
        go_simp
        have P := HQ.out
        have bk : ∀ j, j ≠ 32 → On (f.setIfInBounds 32 true) j → On f j := fun j hj x => on_back (by omega) x hj
        have fw : ∀ j, On f j → On (f.setIfInBounds 32 true) j := fun j x => (on_put (by omega)).2 (.inr x)
        have fn : On (f.setIfInBounds 32 true) 32 := (on_put (by omega)).2 (.inl rfl)
        exact hKK (upd (upd gv 41 (.bool false)) 49 (.int .i64 (i : Int))) _ (by rw [upd_same e24]; exact ⟨hBx, vals_step (n := 32) (v := .int .i64 (i : Int)) hD (by decide) (by omega) P (fun _ => rfl)⟩)
      | 33, _ =>
        cases hio
        have off : ¬ On f 33 := on_off (by omega) hn
        have h24 : On f 24 := he ⟨24, .guard⟩ (by simp) rfl
        have e24 : gv 41 = .bool false := P 24 (by decide) rfl h24
        have h31 : On f 31 := he ⟨31, .data⟩ (by simp) rfl
        have e31 : gv 48 = .slice (some ⟨b', fo', none⟩) n1 c2 := P 31 (by decide) rfl h31
        have h32 : On f 32 := he ⟨32, .data⟩ (by simp) rfl
        have e32 : gv 49 = .int .i64 (i : Int) := P 32 (by decide) rfl h32
        rw [e24, e31, e32]
        rw [if_pos (by rfl)]
        have HQ := Lib.hid P
        clear P
        go_simp
        have P := HQ.out
        have bk : ∀ j, j ≠ 33 → On (f.setIfInBounds 33 true) j → On f j := fun j hj x => on_back (by omega) x hj
        have fw : ∀ j, On f j → On (f.setIfInBounds 33 true) j := fun j x => (on_put (by omega)).2 (.inr x)
        have fn : On (f.setIfInBounds 33 true) 33 := (on_put (by omega)).2 (.inl rfl)
        exact hKK (upd (upd (upd (upd gv 41 (.bool false)) 48 (.slice (some ⟨b', fo', none⟩) n1 c2)) 49 (.int .i64 (i : Int))) 50 (.pointer (some ⟨b', fo' + i * 3, none⟩))) _ (by rw [upd_same e24]; rw [upd_same e31]; rw [upd_same e32]; exact ⟨hBx, vals_step (n := 33) (v := .pointer (some ⟨b', fo' + i * 3, none⟩)) hD (by decide) (by omega) P (fun _ => rfl)⟩)
      | 34, _ =>
        cases hio
        have off : ¬ On f 34 := on_off (by omega) hn
        have h24 : On f 24 := he ⟨24, .guard⟩ (by simp) rfl
        have e24 : gv 41 = .bool false := P 24 (by decide) rfl h24
        have h33 : On f 33 := he ⟨33, .data⟩ (by simp) rfl
        have e33 : gv 50 = .pointer (some ⟨b', fo' + i * 3, none⟩) := P 33 (by decide) rfl h33
        rw [e24, e33]
        rw [if_pos (by rfl)]
        have HQ := Lib.hid P
        clear P
        go_simp
        have P := HQ.out
        have bk : ∀ j, j ≠ 34 → On (f.setIfInBounds 34 true) j → On f j := fun j hj x => on_back (by omega) x hj
        have fw : ∀ j, On f j → On (f.setIfInBounds 34 true) j := fun j x => (on_put (by omega)).2 (.inr x)
        have fn : On (f.setIfInBounds 34 true) 34 := (on_put (by omega)).2 (.inl rfl)
        exact hKK (upd (upd (upd gv 41 (.bool false)) 50 (.pointer (some ⟨b', fo' + i * 3, none⟩))) 51 (.pointer (some ⟨b', fo' + i * 3 + 2, none⟩))) _ (by rw [upd_same e24]; rw [upd_same e33]; exact ⟨hBx, vals_step (n := 34) (v := .pointer (some ⟨b', fo' + i * 3 + 2, none⟩)) hD (by decide) (by omega) P (fun _ => rfl)⟩)
      | 35, _ =>
        cases hio
        have off : ¬ On f 35 := on_off (by omega) hn
        have h24 : On f 24 := he ⟨24, .guard⟩ (by simp) rfl
        have e24 : gv 41 = .bool false := P 24 (by decide) rfl h24
        have h34 : On f 34 := he ⟨34, .data⟩ (by simp) rfl
        have e34 : gv 51 = .pointer (some ⟨b', fo' + i * 3 + 2, none⟩) := P 34 (by decide) rfl h34
        have d0 := carry_cell HK.out.2.2 hBx
        rw [e24, e34]
        rw [if_pos (by rfl)]
        have HQ := Lib.hid P
        clear P
        go_simp
        have P := HQ.out
        have bk : ∀ j, j ≠ 35 → On (f.setIfInBounds 35 true) j → On f j := fun j hj x => on_back (by omega) x hj
        have fw : ∀ j, On f j → On (f.setIfInBounds 35 true) j := fun j x => (on_put (by omega)).2 (.inr x)
        have fn : On (f.setIfInBounds 35 true) 35 := (on_put (by omega)).2 (.inl rfl)
        exact hKK (upd (upd (upd gv 41 (.bool false)) 51 (.pointer (some ⟨b', fo' + i * 3 + 2, none⟩))) 52 (.slice y ql cy)) _ (by rw [upd_same e24]; rw [upd_same e34]; exact ⟨hBx, vals_step (n := 35) (v := .slice y ql cy) hD (by decide) (by omega) P (fun _ => rfl)⟩)
      | 36, _ =>
        cases hio
        have off : ¬ On f 36 := on_off (by omega) hn
        have h24 : On f 24 := he ⟨24, .guard⟩ (by simp) rfl
        have e24 : gv 41 = .bool false := P 24 (by decide) rfl h24
        have h35 : On f 35 := he ⟨35, .data⟩ (by simp) rfl
        have e35 : gv 52 = .slice y ql cy := P 35 (by decide) rfl h35
        have d0 := HX2.out _ hBx
        rw [e24, e35]
        rw [if_pos (by rfl)]
        have HQ := Lib.hid P
        clear P
        go_simp
        have P := HQ.out
        have bk : ∀ j, j ≠ 36 → On (f.setIfInBounds 36 true) j → On f j := fun j hj x => on_back (by omega) x hj
        have fw : ∀ j, On f j → On (f.setIfInBounds 36 true) j := fun j x => (on_put (by omega)).2 (.inr x)
        have fn : On (f.setIfInBounds 36 true) 36 := (on_put (by omega)).2 (.inl rfl)
        exact hKK (upd (upd (upd gv 41 (.bool false)) 52 (.slice y ql cy)) 53 (.string ⟨B2⟩)) _ (by rw [upd_same e24]; rw [upd_same e35]; exact ⟨hBx, vals_step (n := 36) (v := .string ⟨B2⟩) hD (by decide) (by omega) P (fun _ => rfl)⟩)
      | 37, _ =>
        cases hio
        have off : ¬ On f 37 := on_off (by omega) hn
        have h24 : On f 24 := he ⟨24, .guard⟩ (by simp) rfl
        have e24 : gv 41 = .bool false := P 24 (by decide) rfl h24
        have h30 : On f 30 := he ⟨30, .data⟩ (by simp) rfl
        have e30 : gv 47 = .string ⟨B1⟩ := P 30 (by decide) rfl h30
        have h36 : On f 36 := he ⟨36, .data⟩ (by simp) rfl
        have e36 : gv 53 = .string ⟨B2⟩ := P 36 (by decide) rfl h36
        have d0 := HD2.out
        rw [e24, e30, e36]
        rw [if_pos (by rfl)]
        have HQ := Lib.hid P
        clear P
        go_simp
        have P := HQ.out
        have bk : ∀ j, j ≠ 37 → On (f.setIfInBounds 37 true) j → On f j := fun j hj x => on_back (by omega) x hj
        have fw : ∀ j, On f j → On (f.setIfInBounds 37 true) j := fun j x => (on_put (by omega)).2 (.inr x)
        have fn : On (f.setIfInBounds 37 true) 37 := (on_put (by omega)).2 (.inl rfl)
        exact hKK (upd (upd (upd (upd gv 41 (.bool false)) 47 (.string ⟨B1⟩)) 53 (.string ⟨B2⟩)) 54 (.bool false)) _ (by rw [upd_same e24]; rw [upd_same e30]; rw [upd_same e36]; exact ⟨hBx, vals_step (n := 37) (v := .bool false) hD (by decide) (by omega) P (fun _ => rfl)⟩)
      | 38, _ =>
        cases hio
        have off : ¬ On f 38 := on_off (by omega) hn
        have h24 : On f 24 := he ⟨24, .data⟩ (by simp) rfl
        have e24 : gv 41 = .bool false := P 24 (by decide) rfl h24
        have h37 : On f 37 := he ⟨37, .data⟩ (by simp) rfl
        have e37 : gv 54 = .bool false := P 37 (by decide) rfl h37
        rw [e24, e37]
        have HQ := Lib.hid P
        clear P
        go_simp
        have P := HQ.out
        have bk : ∀ j, j ≠ 38 → On (f.setIfInBounds 38 true) j → On f j := fun j hj x => on_back (by omega) x hj
        have fw : ∀ j, On f j → On (f.setIfInBounds 38 true) j := fun j x => (on_put (by omega)).2 (.inr x)
        have fn : On (f.setIfInBounds 38 true) 38 := (on_put (by omega)).2 (.inl rfl)
        exact hKK (upd (upd (upd gv 41 (.bool false)) 54 (.bool false)) 55 (.bool false)) _ (by rw [upd_same e24]; rw [upd_same e37]; exact ⟨hBx, vals_step (n := 38) (v := .bool false) hD (by decide) (by omega) P (fun _ => rfl)⟩)
    · rintro f gv w5 hall hs' ⟨hBx, P⟩
      replace hs' : f.size = 39 := hs'
      have on : ∀ j, j < 39 → On f j := fun j hj => on_all hall hs' j hj
      have e6 : gv 55 = .bool false := P 38 (by decide) rfl (on 38 (by decide))
      have BX := Lib.hid hBx
      clear P hBx hall hs' on hD
      rw [e6]
      go_wp2_with fail
      refine ⟨⟨i + 1, by omega, rfl, HYE, Lib.hid (hB.out.step BX.out)⟩, ?_⟩
      simp [intOf]; omega
end Go.Proofs.Ytmeieokembjabaa
