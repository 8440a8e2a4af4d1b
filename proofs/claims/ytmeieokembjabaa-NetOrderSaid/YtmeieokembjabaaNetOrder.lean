/- The statement NetOrder, walked out of the contracts of what it calls. -/
import Derived.Test.YtmeieokembjabaaNetBound
namespace Go.Proofs.Ytmeieokembjabaa
open Go.ChangeShapes Go.WideShapes Go.ChangeAt Go.RowKit
set_option linter.unusedVariables false

/-- What Pass hands back of one under way. -/
def PassQ (o : Pk) (L n : Nat) (qs : List Pk) (w : World) (e : Ending) (w' : World) : Prop :=
  ∃ x cx a c, e = .returned (.tuple #[.agg #[.int .i64 o.fr, .int .i64 o.to, .slice x L cx], .slice a n c, .bool true]) ∧
    Rd w' x L cx o.by_ ∧ (x = none → cx = 0) ∧ Pks w' a n c qs ∧ Below w.heap.size w w'
theorem lens_at {l : List Pk} {B : Nat} (h : ∀ p ∈ l, p.by_.length ≤ B) (j : Nat) : (l.getD j noPk).by_.length ≤ B := by
  by_cases hj : j < l.length
  · rw [List.getD_eq_getElem?_getD, List.getElem?_eq_getElem hj]; exact h _ (List.getElem_mem hj)
  · rw [List.getD_eq_getElem?_getD, List.getElem?_eq_none (by omega)]; exact Nat.zero_le _
theorem pass_at (a : Option Addr) (n m c : Nat) (ps qs : List Pk) (o : Pk) (L j : Nat) (w : World) (hr : Pks w a n c ps) (hn : n ≤ 500) (hL : ∀ p ∈ ps, p.by_.length ≤ 100000) (hj : j < n) (ho : o = ps.getD j noPk) (hq : qs = ps.eraseIdx j) (hLo : L = o.by_.length) (hm : m + 1 = n) :
    Calls Try.prog 14 #[.slice a n c, .int .i64 (j : Int)] w (PassQ o L m qs w) := by
  have := pass_any a n c ps (j : Int) w hr hn (fun i _ => lens_at hL i)
  have hlen := hr.len
  obtain ⟨h1, h2, h3⟩ := passP_at (ps := ps) (k := j) (by omega)
  unfold PassP at this
  have hml : (ps.eraseIdx j).length = m := by rw [List.length_eraseIdx, if_pos (by omega)]; omega
  rw [h1, h2, h3, hml, ← ho, ← hLo, ← hq] at this
  exact this
theorem erase_erase (l : List Pk) (i k : Nat) (h : i < k + 1) : (l.eraseIdx i).eraseIdx k = (l.eraseIdx (k + 1)).eraseIdx i := by
  apply List.ext_getElem?
  intro j
  simp only [List.getElem?_eraseIdx]
  by_cases h1 : j < k <;> by_cases h2 : j < i <;> by_cases h3 : j + 1 < i <;> by_cases h4 : j + 1 < k + 1 <;> by_cases h5 : j < k + 1 <;> by_cases h6 : j + 1 + 1 < k + 1 <;> simp only [h1, h2, h3, h4, h5, if_true, if_false] <;> first | rfl | omega
theorem getD_erase_ge (l : List Pk) (i k : Nat) (h : i < k + 1) : (l.eraseIdx i).getD k noPk = l.getD (k + 1) noPk := by
  rw [List.getD_eq_getElem?_getD, List.getElem?_eraseIdx_of_ge (by omega), ← List.getD_eq_getElem?_getD]
theorem getD_erase_lt (l : List Pk) (i k : Nat) (h : i < k) : (l.eraseIdx k).getD i noPk = l.getD i noPk := by
  rw [List.getD_eq_getElem?_getD, List.getElem?_eraseIdx_of_lt h, ← List.getD_eq_getElem?_getD]

set_option maxRecDepth 100000 in
set_option maxHeartbeats 16000000 in
theorem netOrder_walk (a : Option Addr) (n c : Nat) (ps : List Pk) (p q : Pk) (x y : Option Addr) (cx cy : Nat) (i k : Int) (w : World) (hr : Pks w a n c ps) (hp : Rd w x p.by_.length cx p.by_) (hx : x = none → cx = 0) (hq : Rd w y q.by_.length cy q.by_) (hy : y = none → cy = 0) :
    Calls Try.prog 7 #[.slice a n c, .agg #[.int .i64 p.fr, .int .i64 p.to, .slice x p.by_.length cx], .agg #[.int .i64 q.fr, .int .i64 q.to, .slice y q.by_.length cy], .int .i64 i, .int .i64 k] w fun e w' => e = .returned (.bool true) ∧ Below w.heap.size w w' := by
  have hn63 : n ≤ 9223372036854775807 := Nat.le_trans hr.le hr.cap
  have HF := Lib.hid (fun w' h => few_any a n c ps 60 w' h)
  have HMP := Lib.hid (fun w' => netmay_any p x cx w' (Nat.le_trans hp.le hp.cap))
  have HMQ := Lib.hid (fun w' => netmay_any q y cy w' (Nat.le_trans hq.le hq.cap))
  have HR := Lib.hid hr
  obtain ⟨few, hfew⟩ : ∃ few, few = fewB ps 60 := ⟨_, rfl⟩
  rw [← hfew] at HF
  have HW0 := Lib.hid hfew
  obtain ⟨okp, hokp⟩ : ∃ ok, ok = okP p := ⟨_, rfl⟩
  obtain ⟨okq, hokq⟩ : ∃ ok, ok = okP q := ⟨_, rfl⟩
  rw [← hokp] at HMP
  rw [← hokq] at HMQ
  have HSE1 := Lib.hid (fun (hn : n ≤ 60) (hL : ∀ i, i < n → (ps.getD i noPk).by_.length ≤ 100000) w' (h : Pks w' a n c ps) (h' : Rd w' x p.by_.length cx p.by_) => send_any a n c ps p x cx w' h (by omega) hL h' hx)
  have HSE2 := Lib.hid (fun a n c ps (hn : n ≤ 70) (hL : ∀ i, i < n → ((ps : List Pk).getD i noPk).by_.length ≤ 100000) w' (h : Pks w' a n c ps) (h' : Rd w' y q.by_.length cy q.by_) => send_any a n c ps q y cy w' h (by omega) hL h' hy)
  unfold PksR at HSE1 HSE2
  obtain ⟨L, hLL⟩ : ∃ L, L = p.by_.length := ⟨_, rfl⟩
  obtain ⟨K, hKK⟩ : ∃ K, K = q.by_.length := ⟨_, rfl⟩
  have HX := Lib.hid (show Rd w x L cx p.by_ ∧ (x = none → cx = 0) ∧ L = p.by_.length from ⟨by rw [hLL]; exact hp, hx, hLL⟩)
  have HY := Lib.hid (show Rd w y K cy q.by_ ∧ (y = none → cy = 0) ∧ K = q.by_.length from ⟨by rw [hKK]; exact hq, hy, hKK⟩)
  rw [← hLL] at HMP HSE1
  rw [← hKK] at HMQ HSE2
  rw [← hLL, ← hKK]
  have HOP := Lib.hid hokp
  have HOQ := Lib.hid hokq
  clear hr hp hx hq hy hLL hKK hfew hokp hokq
  go_enter Try.func7, Try.ntmps7
  go_upto_region 1 with fail
  obtain ⟨b6, hb6⟩ : ∃ b6, b6 = w.heap.size := ⟨_, rfl⟩
  obtain ⟨w1, hw1⟩ : ∃ w1, w1 = w.alloc (.cells ([.int .i64 p.fr, .int .i64 p.to, .slice x L cx] : List Value).toArray 25) := ⟨_, rfl⟩
  have hb01 : Below w.heap.size w w1 := by rw [hw1]; exact (Below.refl _ _).alloc (Nat.le_refl _) _
  have HC6 := Lib.hid (show Cel w1 b6 25 [.int .i64 p.fr, .int .i64 p.to, .slice x L cx] by rw [hw1, hb6]; exact Cel.new w _ _)
  have hs1 : w1.heap.size = b6 + 1 := by rw [hw1, hb6, size_alloc']
  obtain ⟨b7, hb7⟩ : ∃ b7, b7 = w1.heap.size := ⟨_, rfl⟩
  obtain ⟨w2, hw2⟩ : ∃ w2, w2 = w1.alloc (.cells ([.int .i64 q.fr, .int .i64 q.to, .slice y K cy] : List Value).toArray 25) := ⟨_, rfl⟩
  have hb12 : Below w1.heap.size w1 w2 := by rw [hw2]; exact (Below.refl _ _).alloc (Nat.le_refl _) _
  have HC7 := Lib.hid (show Cel w2 b7 25 [.int .i64 q.fr, .int .i64 q.to, .slice y K cy] by rw [hw2, hb7]; exact Cel.new w1 _ _)
  have HC62 := Lib.hid (HC6.out.step hb12)
  have HB2 := Lib.hid (hb01.step hb12)
  have hb7' : w.heap.size + 1 = b7 := by rw [hb7, hs1, hb6]
  rw [hb7', ← hb6, ← hw1, ← hw2]
  clear hb01 hb12 hs1 hb7 hb7' hb6 hw1 hw2 HC6
  go_wp2_with fail
  refine (awake21 _).mono ?_
  rintro e w3 ⟨rfl, hb⟩
  have HB3 := Lib.hid (HB2.out.step hb)
  have HC63 := Lib.hid (HC62.out.step hb)
  have HC73 := Lib.hid (HC7.out.step hb)
  clear hb HB2 HC62 HC7
  go_wp2_with fail
  refine (HF.out _ (HR.out.below HB3.out)).mono ?_
  rintro e w' ⟨rfl, rfl⟩
  cases few with
  | false =>
    go_wp2_with fail
    go_ret
    exact ⟨rfl, HB3.out⟩
  | true =>
    have hn : n ≤ 60 := by have := (fewB_of HW0.out.symm).1; rw [HR.out.len] at this; omega
    have HLE := Lib.hid (fewB_of HW0.out.symm).2
    have p0 : w'.cell? ⟨b6, 0, none⟩ = some (.int .i64 p.fr) := HC63.out.at 0 _ rfl
    have p1 : w'.cell? ⟨b6, 1, none⟩ = some (.int .i64 p.to) := HC63.out.at 1 _ rfl
    have p2 : w'.cell? ⟨b6, 2, none⟩ = some (.slice x L cx) := HC63.out.at 2 _ rfl
    go_wp2_with fail
    refine (HMP.out _).mono ?_
    rintro e w4 ⟨rfl, hb⟩
    have HB4 := Lib.hid (HB3.out.step hb)
    have HC64 := Lib.hid (HC63.out.step hb)
    have HC74 := Lib.hid (HC73.out.step hb)
    clear hb p0 p1 p2 HB3 HC63 HC73
    cases okp with
    | false =>
      go_wp2_with fail
      go_ret
      exact ⟨rfl, HB4.out⟩
    | true =>
      have p0 : w4.cell? ⟨b7, 0, none⟩ = some (.int .i64 q.fr) := HC74.out.at 0 _ rfl
      have p1 : w4.cell? ⟨b7, 1, none⟩ = some (.int .i64 q.to) := HC74.out.at 1 _ rfl
      have p2 : w4.cell? ⟨b7, 2, none⟩ = some (.slice y K cy) := HC74.out.at 2 _ rfl
      go_wp2_with fail
      refine (HMQ.out _).mono ?_
      rintro e w5 ⟨rfl, hb⟩
      have HB5 := Lib.hid (HB4.out.step hb)
      have HC65 := Lib.hid (HC64.out.step hb)
      have HC75 := Lib.hid (HC74.out.step hb)
      clear hb p0 p1 p2 HB4 HC64 HC74
      cases okq with
      | false =>
        go_wp2_with fail
        go_ret
        exact ⟨rfl, HB5.out⟩
      | true =>
        obtain ⟨N1, hN1⟩ : ∃ N1, N1 = n + 1 := ⟨_, rfl⟩
        obtain ⟨N2, hN2⟩ : ∃ N2, N2 = n + 2 := ⟨_, rfl⟩
        obtain ⟨M1, hM1⟩ : ∃ M1, M1 = ps ++ [p] := ⟨_, rfl⟩
        obtain ⟨M2, hM2⟩ : ∃ M2, M2 = ps ++ [p] ++ [q] := ⟨_, rfl⟩
        have hlen := HR.out.len
        have hl1 : M1.length = N1 := by rw [hM1, hN1, List.length_append, hlen]; rfl
        have hl2 : M2.length = N2 := by rw [hM2, hN2, List.length_append, List.length_append, hlen]; rfl
        have hs1 : sendP ps p = M1 := by unfold sendP; rw [if_pos HOP.out.symm, show ps.length + 1 - 64 = 0 by omega, List.drop_zero, hM1]
        have hs2 : sendP M1 q = M2 := by unfold sendP; rw [if_pos HOQ.out.symm, show M1.length + 1 - 64 = 0 by omega, List.drop_zero, hM2, hM1]
        have hok : ∀ r, okP r = true → r.by_.length ≤ 100000 := fun r h => by simp only [okP, Bool.and_eq_true, decide_eq_true_eq] at h; omega
        have hLp : ∀ r ∈ ps, r.by_.length ≤ 100000 := fun r h => by
          obtain ⟨j, hj, rfl⟩ := List.mem_iff_getElem.1 h
          have := HLE.out j
          rw [List.getD_eq_getElem?_getD, List.getElem?_eq_getElem hj] at this
          exact Nat.le_trans this (by decide)
        have hL1 : ∀ r ∈ M1, r.by_.length ≤ 100000 := fun r h => by
          rw [hM1, List.mem_append, List.mem_singleton] at h
          rcases h with h | rfl
          · exact hLp r h
          · exact hok _ HOP.out.symm
        have hL2 : ∀ r ∈ M2, r.by_.length ≤ 100000 := fun r h => by
          rw [hM2, ← hM1, List.mem_append, List.mem_singleton] at h
          rcases h with h | rfl
          · exact hL1 r h
          · exact hok _ HOQ.out.symm
        have HSA := Lib.hid (fun w' h h' => HSE1.out hn (fun j _ => lens_at hLp j) w' h h')
        have HSB := Lib.hid (fun a c w' h h' => HSE2.out a N1 c M1 (by omega) (fun j _ => lens_at hL1 j) w' h h')
        rw [hs1, hl1] at HSA
        rw [hs2, hl2] at HSB
        have HM := Lib.hid (show M2.length = N2 ∧ M2.drop n = [p, q] ∧ N2 = n + 2 ∧ ∀ r ∈ M2, r.by_.length ≤ 100000 from ⟨hl2, by
          rw [hM2, List.append_assoc, ← hlen, List.drop_append_of_le_length (Nat.le_refl _), List.drop_eq_nil_of_le (Nat.le_refl _)]; rfl, hN2, hL2⟩)
        clear hs1 hs2 hl1 hl2 hok hLp hL1 hL2 hN1 hN2 hM1 hM2 hlen hn63 HSE1 HSE2 HF HMP HMQ
        go_upto_region 5 with fail
        have hD : ∀ j, j < 6 → ∀ n, n < 6 → j ≠ n → dkN [46, 47, 48, 49, 50, 13] j ≠ dkN [46, 47, 48, 49, 50, 13] n := by decide +kernel
        refine region_fun (by kernel_rfl) (by kernel_rfl) (fun gv => #[.slice a n c, .agg #[.int .i64 p.fr, .int .i64 p.to, .slice x L cx], .agg #[.int .i64 q.fr, .int .i64 q.to, .slice y K cy], .int .i64 i, .int .i64 k, undef, .pointer (some ⟨b6, 0, none⟩), .pointer (some ⟨b7, 0, none⟩), gv 8, gv 9, gv 10, gv 11, gv 12, gv 13, gv 14, gv 15, gv 16, gv 17, gv 18, gv 19, gv 20, gv 21, gv 22, gv 23, gv 24, gv 25, gv 26, gv 27, gv 28, gv 29, gv 30, gv 31, gv 32, gv 33, gv 34, gv 35, gv 36, gv 37, gv 38, gv 39, gv 40, gv 41, gv 42, gv 43, gv 44, gv 45, gv 46, gv 47, gv 48, gv 49, gv 50, gv 51, gv 52, gv 53, gv 54, gv 55, gv 56, gv 57, gv 58, gv 59, gv 60, gv 61, gv 62, gv 63, gv 64, gv 65, gv 66, gv 67, gv 68, gv 69, gv 70, gv 71, gv 72, gv 73, gv 74, gv 75, gv 76, gv 77, gv 78, gv 79, gv 80, gv 81, gv 82, gv 83, gv 84, gv 85, gv 86, gv 87, gv 88, gv 89, gv 90, gv 91, gv 92, gv 93, gv 94, gv 95, gv 96, gv 97, gv 98, gv 99, gv 100, gv 101, gv 102, gv 103, gv 104, gv 105, gv 106, gv 107, gv 108, gv 109, gv 110, gv 111, gv 112, gv 113, gv 114, gv 115, gv 116, gv 117, gv 118, gv 119, gv 120, gv 121, gv 122, gv 123, gv 124, gv 125, gv 126, gv 127, gv 128, gv 129, gv 130, gv 131, gv 132, gv 133]) rfl (fun f gv wx => Below w.heap.size w wx ∧ (∀ j, j < 6 → (fun j => Nat.beq j 2 || Nat.beq j 4 || Nat.beq j 5) j = false → On f j → gv (dkN [46, 47, 48, 49, 50, 13] j) = vkN [.slice a n c, .agg #[.int .i64 p.fr, .int .i64 p.to, .slice x L cx], undef, .agg #[.int .i64 q.fr, .int .i64 q.to, .slice y K cy], undef, undef] j) ∧ ((On f 2 → ∃ a c, gv 48 = .slice a N1 c ∧ Pks wx a N1 c M1)) ∧ ((On f 4 → ∃ a c, gv 50 = .slice a N2 c ∧ Pks wx a N2 c M2)) ∧ ((On f 5 → ∃ a c, gv 13 = .slice a N2 c ∧ Pks wx a N2 c M2)) ∧ (Below w5.heap.size w5 wx)) ?_ ?_ ?_
        · have hoff : ∀ j, ¬ On (Array.replicate 6 false) j := by
            intro j hj; simp only [On, Array.getD_eq_getD_getElem?, Array.getElem?_replicate] at hj; split at hj <;> simp at hj
          exact ⟨HB5.out.drew, fun j _ _ x => absurd x (hoff _), fun x => absurd x (hoff _), fun x => absurd x (hoff _), fun x => absurd x (hoff _), (Below.refl _ _).drew⟩
        · rintro i' o' f gv wm hio hs' hn he ⟨hBx, P, Q2, Q4, Q5, hBx2⟩ KK hKK
          have hi' : i' < 6 := (Array.getElem?_eq_some_iff.1 hio).1
          replace hs' : f.size = 6 := hs'
          match i', hi' with
          | 0, _ =>
            cases hio
            have off : ¬ On f 0 := on_off (by omega) hn
            have HQ := Lib.hid (And.intro P (And.intro Q2 (And.intro Q4 (And.intro Q5 hBx2))))
            clear P Q2 Q4 Q5 hBx2
            go_simp
            obtain ⟨P, Q2, Q4, Q5, hBx2⟩ := HQ.out
            have bk : ∀ j, j ≠ 0 → On (f.setIfInBounds 0 true) j → On f j := fun j hj x => on_back (by omega) x hj
            have fw : ∀ j, On f j → On (f.setIfInBounds 0 true) j := fun j x => (on_put (by omega)).2 (.inr x)
            have fn : On (f.setIfInBounds 0 true) 0 := (on_put (by omega)).2 (.inl rfl)
            exact hKK (upd gv 46 (.slice a n c)) _ (by exact ⟨hBx, vals_step (n := 0) (v := .slice a n c) hD (by decide) (by omega) P (fun _ => rfl), fun x => Q2 (bk 2 (by decide) x), fun x => Q4 (bk 4 (by decide) x), fun x => Q5 (bk 5 (by decide) x), hBx2⟩)
          | 1, _ =>
            cases hio
            have off : ¬ On f 1 := on_off (by omega) hn
            have d0 : wm.cell? ⟨b6, 0, none⟩ = some (.int .i64 p.fr) := (HC65.out.step hBx2).at 0 _ rfl
            have d1 : wm.cell? ⟨b6, 1, none⟩ = some (.int .i64 p.to) := (HC65.out.step hBx2).at 1 _ rfl
            have d2 : wm.cell? ⟨b6, 2, none⟩ = some (.slice x L cx) := (HC65.out.step hBx2).at 2 _ rfl
            have HQ := Lib.hid (And.intro P (And.intro Q2 (And.intro Q4 (And.intro Q5 hBx2))))
            clear P Q2 Q4 Q5 hBx2
            go_simp
            obtain ⟨P, Q2, Q4, Q5, hBx2⟩ := HQ.out
            have bk : ∀ j, j ≠ 1 → On (f.setIfInBounds 1 true) j → On f j := fun j hj x => on_back (by omega) x hj
            have fw : ∀ j, On f j → On (f.setIfInBounds 1 true) j := fun j x => (on_put (by omega)).2 (.inr x)
            have fn : On (f.setIfInBounds 1 true) 1 := (on_put (by omega)).2 (.inl rfl)
            exact hKK (upd gv 47 (.agg #[.int .i64 p.fr, .int .i64 p.to, .slice x L cx])) _ (by exact ⟨hBx, vals_step (n := 1) (v := .agg #[.int .i64 p.fr, .int .i64 p.to, .slice x L cx]) hD (by decide) (by omega) P (fun _ => rfl), fun x => Q2 (bk 2 (by decide) x), fun x => Q4 (bk 4 (by decide) x), fun x => Q5 (bk 5 (by decide) x), hBx2⟩)
          | 2, _ =>
            cases hio
            have off : ¬ On f 2 := on_off (by omega) hn
            have h0 : On f 0 := he ⟨0, .data⟩ (by simp) rfl
            have e0 : gv 46 = .slice a n c := P 0 (by decide) rfl h0
            have h1 : On f 1 := he ⟨1, .data⟩ (by simp) rfl
            have e1 : gv 47 = .agg #[.int .i64 p.fr, .int .i64 p.to, .slice x L cx] := P 1 (by decide) rfl h1
            have HA := Lib.hid (And.intro ((HR.out.below HB5.out).below hBx2) ((HX.out.1.below HB5.out).below hBx2))
            rw [e0, e1]
            have HQ := Lib.hid (And.intro P (And.intro Q2 (And.intro Q4 (And.intro Q5 hBx2))))
            clear P Q2 Q4 Q5 hBx2
            go_simp
            refine (HSA.out _ HA.out.1 HA.out.2).mono ?_
            rintro e w6 ⟨y2, z2, rfl, hk2, hb⟩
            obtain ⟨P, Q2, Q4, Q5, hBx2⟩ := HQ.out
            have bk : ∀ j, j ≠ 2 → On (f.setIfInBounds 2 true) j → On f j := fun j hj x => on_back (by omega) x hj
            have fw : ∀ j, On f j → On (f.setIfInBounds 2 true) j := fun j x => (on_put (by omega)).2 (.inr x)
            have fn : On (f.setIfInBounds 2 true) 2 := (on_put (by omega)).2 (.inl rfl)
            exact hKK (upd (upd (upd gv 46 (.slice a n c)) 47 (.agg #[.int .i64 p.fr, .int .i64 p.to, .slice x L cx])) 48 (.slice y2 N1 z2)) _ (by rw [upd_same e0]; rw [upd_same e1]; exact ⟨hBx.step hb, vals_step (n := 2) (v := .slice y2 N1 z2) hD (by decide) (by omega) P (fun h => nomatch (show true = false from h)), fun _ => ⟨y2, z2, rfl, hk2⟩, fun x => by obtain ⟨y4, z4, e9, hk4⟩ := Q4 (bk 4 (by decide) x); exact ⟨_, _, e9, hk4.below hb⟩, fun x => by obtain ⟨y5, z5, e9, hk5⟩ := Q5 (bk 5 (by decide) x); exact ⟨_, _, e9, hk5.below hb⟩, hBx2.step hb⟩)
          | 3, _ =>
            cases hio
            have off : ¬ On f 3 := on_off (by omega) hn
            have d0 : wm.cell? ⟨b7, 0, none⟩ = some (.int .i64 q.fr) := (HC75.out.step hBx2).at 0 _ rfl
            have d1 : wm.cell? ⟨b7, 1, none⟩ = some (.int .i64 q.to) := (HC75.out.step hBx2).at 1 _ rfl
            have d2 : wm.cell? ⟨b7, 2, none⟩ = some (.slice y K cy) := (HC75.out.step hBx2).at 2 _ rfl
            have HQ := Lib.hid (And.intro P (And.intro Q2 (And.intro Q4 (And.intro Q5 hBx2))))
            clear P Q2 Q4 Q5 hBx2
            go_simp
            obtain ⟨P, Q2, Q4, Q5, hBx2⟩ := HQ.out
            have bk : ∀ j, j ≠ 3 → On (f.setIfInBounds 3 true) j → On f j := fun j hj x => on_back (by omega) x hj
            have fw : ∀ j, On f j → On (f.setIfInBounds 3 true) j := fun j x => (on_put (by omega)).2 (.inr x)
            have fn : On (f.setIfInBounds 3 true) 3 := (on_put (by omega)).2 (.inl rfl)
            exact hKK (upd gv 49 (.agg #[.int .i64 q.fr, .int .i64 q.to, .slice y K cy])) _ (by exact ⟨hBx, vals_step (n := 3) (v := .agg #[.int .i64 q.fr, .int .i64 q.to, .slice y K cy]) hD (by decide) (by omega) P (fun _ => rfl), fun x => Q2 (bk 2 (by decide) x), fun x => Q4 (bk 4 (by decide) x), fun x => Q5 (bk 5 (by decide) x), hBx2⟩)
          | 4, _ =>
            cases hio
            have off : ¬ On f 4 := on_off (by omega) hn
            have h2 : On f 2 := he ⟨2, .data⟩ (by simp) rfl
            obtain ⟨y2, z2, e2, hk2⟩ := Q2 h2
            have h3 : On f 3 := he ⟨3, .data⟩ (by simp) rfl
            have e3 : gv 49 = .agg #[.int .i64 q.fr, .int .i64 q.to, .slice y K cy] := P 3 (by decide) rfl h3
            have HA := Lib.hid (And.intro hk2 ((HY.out.1.below HB5.out).below hBx2))
            rw [e2, e3]
            have HQ := Lib.hid (And.intro P (And.intro Q2 (And.intro Q4 (And.intro Q5 hBx2))))
            clear P Q2 Q4 Q5 hBx2
            go_simp
            refine (HSB.out _ _ _ HA.out.1 HA.out.2).mono ?_
            rintro e w6 ⟨y4, z4, rfl, hk4, hb⟩
            obtain ⟨P, Q2, Q4, Q5, hBx2⟩ := HQ.out
            have bk : ∀ j, j ≠ 4 → On (f.setIfInBounds 4 true) j → On f j := fun j hj x => on_back (by omega) x hj
            have fw : ∀ j, On f j → On (f.setIfInBounds 4 true) j := fun j x => (on_put (by omega)).2 (.inr x)
            have fn : On (f.setIfInBounds 4 true) 4 := (on_put (by omega)).2 (.inl rfl)
            exact hKK (upd (upd (upd gv 48 (.slice y2 N1 z2)) 49 (.agg #[.int .i64 q.fr, .int .i64 q.to, .slice y K cy])) 50 (.slice y4 N2 z4)) _ (by rw [upd_same e2]; rw [upd_same e3]; exact ⟨hBx.step hb, vals_step (n := 4) (v := .slice y4 N2 z4) hD (by decide) (by omega) P (fun h => nomatch (show true = false from h)), fun x => by obtain ⟨y2, z2, e9, hk2⟩ := Q2 (bk 2 (by decide) x); exact ⟨_, _, e9, hk2.below hb⟩, fun _ => ⟨y4, z4, rfl, hk4⟩, fun x => by obtain ⟨y5, z5, e9, hk5⟩ := Q5 (bk 5 (by decide) x); exact ⟨_, _, e9, hk5.below hb⟩, hBx2.step hb⟩)
          | 5, _ =>
            cases hio
            have off : ¬ On f 5 := on_off (by omega) hn
            have h4 : On f 4 := he ⟨4, .data⟩ (by simp) rfl
            obtain ⟨y4, z4, e4, hk4⟩ := Q4 h4
            rw [e4]
            have HQ := Lib.hid (And.intro P (And.intro Q2 (And.intro Q4 (And.intro Q5 hBx2))))
            clear P Q2 Q4 Q5 hBx2
            go_simp
            obtain ⟨P, Q2, Q4, Q5, hBx2⟩ := HQ.out
            have bk : ∀ j, j ≠ 5 → On (f.setIfInBounds 5 true) j → On f j := fun j hj x => on_back (by omega) x hj
            have fw : ∀ j, On f j → On (f.setIfInBounds 5 true) j := fun j x => (on_put (by omega)).2 (.inr x)
            have fn : On (f.setIfInBounds 5 true) 5 := (on_put (by omega)).2 (.inl rfl)
            exact hKK (upd (upd gv 50 (.slice y4 N2 z4)) 13 (.slice y4 N2 z4)) _ (by rw [upd_same e4]; exact ⟨hBx, vals_step (n := 5) (v := .slice y4 N2 z4) hD (by decide) (by omega) P (fun h => nomatch (show true = false from h)), fun x => Q2 (bk 2 (by decide) x), fun x => Q4 (bk 4 (by decide) x), fun _ => ⟨y4, z4, rfl, hk4⟩, hBx2⟩)
        · rintro f gv w5 hall hs' ⟨hBx, P, Q2, Q4, Q5, hBx2⟩
          replace hs' : f.size = 6 := hs'
          have on : ∀ j, j < 6 → On f j := fun j hj => on_all hall hs' j hj
          obtain ⟨a13, c13, e13, hk13⟩ := Q5 (on 5 (by decide))
          have HB6 := Lib.hid hBx
          have HC66 := Lib.hid (HC65.out.step hBx2)
          have HC76 := Lib.hid (HC75.out.step hBx2)
          have HK6 := Lib.hid hk13
          rw [e13]
          clear P Q2 Q4 Q5 hBx hBx2 hall hs' on hD hk13 e13 HB5 HC65 HC75
          go_upto_region 6 with fail
          obtain ⟨y1, hy1, hy1', hY1⟩ := HK6.out.l n 2 HM.out.2.2.1.symm
          have HSP := Lib.hid (fun w' b h (h' : Pks w' b 2 2 [p, q]) => show Calls Try.prog 21 #[.slice y1 2 (c13 - n), .slice b 2 2] w' (fun e w'' => e = .returned (.bool true) ∧ Below w'.heap.size w' w'') by
            have := same_any y1 b 2 2 (c13 - n) 2 _ [p, q] w' (hY1 w' h) h'
            rwa [decide_eq_true HM.out.2.1] at this)
          have hN2w : IntKind.i64.wrap ((n : Int) + 2) = (N2 : Int) := by have := HM.out.2.2.1; rw [IntWalk.i64_in _ ⟨by omega, by omega⟩]; omega
          clear hY1
          have hD : ∀ j, j < 17 → ∀ n, n < 17 → j ≠ n → dkN [51, 52, 53, 54, 55, 56, 57, 58, 59, 60, 61, 62, 63, 64, 65, 66, 67] j ≠ dkN [51, 52, 53, 54, 55, 56, 57, 58, 59, 60, 61, 62, 63, 64, 65, 66, 67] n := by decide +kernel
          refine region_fun (by kernel_rfl) (by kernel_rfl) (fun gv => #[.slice a n c, .agg #[.int .i64 p.fr, .int .i64 p.to, .slice x L cx], .agg #[.int .i64 q.fr, .int .i64 q.to, .slice y K cy], .int .i64 i, .int .i64 k, undef, .pointer (some ⟨b6, 0, none⟩), .pointer (some ⟨b7, 0, none⟩), gv 8, gv 9, gv 10, gv 11, gv 12, .slice a13 N2 c13, gv 14, gv 15, gv 16, gv 17, gv 18, gv 19, gv 20, gv 21, gv 22, gv 23, gv 24, gv 25, gv 26, gv 27, gv 28, gv 29, gv 30, gv 31, gv 32, gv 33, gv 34, gv 35, gv 36, gv 37, gv 38, gv 39, gv 40, gv 41, gv 42, gv 43, gv 44, gv 45, gv 46, gv 47, gv 48, gv 49, gv 50, gv 51, gv 52, gv 53, gv 54, gv 55, gv 56, gv 57, gv 58, gv 59, gv 60, gv 61, gv 62, gv 63, gv 64, gv 65, gv 66, gv 67, gv 68, gv 69, gv 70, gv 71, gv 72, gv 73, gv 74, gv 75, gv 76, gv 77, gv 78, gv 79, gv 80, gv 81, gv 82, gv 83, gv 84, gv 85, gv 86, gv 87, gv 88, gv 89, gv 90, gv 91, gv 92, gv 93, gv 94, gv 95, gv 96, gv 97, gv 98, gv 99, gv 100, gv 101, gv 102, gv 103, gv 104, gv 105, gv 106, gv 107, gv 108, gv 109, gv 110, gv 111, gv 112, gv 113, gv 114, gv 115, gv 116, gv 117, gv 118, gv 119, gv 120, gv 121, gv 122, gv 123, gv 124, gv 125, gv 126, gv 127, gv 128, gv 129, gv 130, gv 131, gv 132, gv 133]) rfl (fun f gv wx => Below w.heap.size w wx ∧ (∀ j, j < 17 → (fun j => Nat.beq j 13) j = false → On f j → gv (dkN [51, 52, 53, 54, 55, 56, 57, 58, 59, 60, 61, 62, 63, 64, 65, 66, 67] j) = vkN [.slice a13 N2 c13, .int .i64 (N2 : Int), .slice a n c, .int .i64 (n : Int), .int .i64 (N2 : Int), .bool false, .bool false, .slice a13 N2 c13, .slice a n c, .int .i64 (n : Int), .slice y1 2 (c13 - n), .agg #[.int .i64 p.fr, .int .i64 p.to, .slice x L cx], .agg #[.int .i64 q.fr, .int .i64 q.to, .slice y K cy], undef, .bool true, .bool false, .bool false] j) ∧ ((On f 13 → ∃ b, gv 64 = .slice (some ⟨b, 0, none⟩) 2 2 ∧ Cel wx b 25 [.int .i64 p.fr, .int .i64 p.to, .slice x L cx, .int .i64 q.fr, .int .i64 q.to, .slice y K cy])) ∧ (Below w5.heap.size w5 wx)) ?_ ?_ ?_
          · have hoff : ∀ j, ¬ On (Array.replicate 17 false) j := by
              intro j hj; simp only [On, Array.getD_eq_getD_getElem?, Array.getElem?_replicate] at hj; split at hj <;> simp at hj
            exact ⟨HB6.out.drew, fun j _ _ x => absurd x (hoff _), fun x => absurd x (hoff _), (Below.refl _ _).drew⟩
          · rintro i' o' f gv wm hio hs' hn he ⟨hBx, P, Q13, hBx2⟩ KK hKK
            have hi' : i' < 17 := (Array.getElem?_eq_some_iff.1 hio).1
            replace hs' : f.size = 17 := hs'
            match i', hi' with
            | 0, _ =>
              cases hio
              have off : ¬ On f 0 := on_off (by omega) hn
              have HQ := Lib.hid (And.intro P (And.intro Q13 hBx2))
              clear P Q13 hBx2
              go_simp
              obtain ⟨P, Q13, hBx2⟩ := HQ.out
              have bk : ∀ j, j ≠ 0 → On (f.setIfInBounds 0 true) j → On f j := fun j hj x => on_back (by omega) x hj
              have fw : ∀ j, On f j → On (f.setIfInBounds 0 true) j := fun j x => (on_put (by omega)).2 (.inr x)
              have fn : On (f.setIfInBounds 0 true) 0 := (on_put (by omega)).2 (.inl rfl)
              exact hKK (upd gv 51 (.slice a13 N2 c13)) _ (by exact ⟨hBx, vals_step (n := 0) (v := .slice a13 N2 c13) hD (by decide) (by omega) P (fun _ => rfl), fun x => Q13 (bk 13 (by decide) x), hBx2⟩)
            | 1, _ =>
              cases hio
              have off : ¬ On f 1 := on_off (by omega) hn
              have h0 : On f 0 := he ⟨0, .data⟩ (by simp) rfl
              have e0 : gv 51 = .slice a13 N2 c13 := P 0 (by decide) rfl h0
              rw [e0]
              have HQ := Lib.hid (And.intro P (And.intro Q13 hBx2))
              clear P Q13 hBx2
              go_simp
              obtain ⟨P, Q13, hBx2⟩ := HQ.out
              have bk : ∀ j, j ≠ 1 → On (f.setIfInBounds 1 true) j → On f j := fun j hj x => on_back (by omega) x hj
              have fw : ∀ j, On f j → On (f.setIfInBounds 1 true) j := fun j x => (on_put (by omega)).2 (.inr x)
              have fn : On (f.setIfInBounds 1 true) 1 := (on_put (by omega)).2 (.inl rfl)
              exact hKK (upd (upd gv 51 (.slice a13 N2 c13)) 52 (.int .i64 (N2 : Int))) _ (by rw [upd_same e0]; exact ⟨hBx, vals_step (n := 1) (v := .int .i64 (N2 : Int)) hD (by decide) (by omega) P (fun _ => rfl), fun x => Q13 (bk 13 (by decide) x), hBx2⟩)
            | 2, _ =>
              cases hio
              have off : ¬ On f 2 := on_off (by omega) hn
              have HQ := Lib.hid (And.intro P (And.intro Q13 hBx2))
              clear P Q13 hBx2
              go_simp
              obtain ⟨P, Q13, hBx2⟩ := HQ.out
              have bk : ∀ j, j ≠ 2 → On (f.setIfInBounds 2 true) j → On f j := fun j hj x => on_back (by omega) x hj
              have fw : ∀ j, On f j → On (f.setIfInBounds 2 true) j := fun j x => (on_put (by omega)).2 (.inr x)
              have fn : On (f.setIfInBounds 2 true) 2 := (on_put (by omega)).2 (.inl rfl)
              exact hKK (upd gv 53 (.slice a n c)) _ (by exact ⟨hBx, vals_step (n := 2) (v := .slice a n c) hD (by decide) (by omega) P (fun _ => rfl), fun x => Q13 (bk 13 (by decide) x), hBx2⟩)
            | 3, _ =>
              cases hio
              have off : ¬ On f 3 := on_off (by omega) hn
              have h2 : On f 2 := he ⟨2, .data⟩ (by simp) rfl
              have e2 : gv 53 = .slice a n c := P 2 (by decide) rfl h2
              rw [e2]
              have HQ := Lib.hid (And.intro P (And.intro Q13 hBx2))
              clear P Q13 hBx2
              go_simp
              obtain ⟨P, Q13, hBx2⟩ := HQ.out
              have bk : ∀ j, j ≠ 3 → On (f.setIfInBounds 3 true) j → On f j := fun j hj x => on_back (by omega) x hj
              have fw : ∀ j, On f j → On (f.setIfInBounds 3 true) j := fun j x => (on_put (by omega)).2 (.inr x)
              have fn : On (f.setIfInBounds 3 true) 3 := (on_put (by omega)).2 (.inl rfl)
              exact hKK (upd (upd gv 53 (.slice a n c)) 54 (.int .i64 (n : Int))) _ (by rw [upd_same e2]; exact ⟨hBx, vals_step (n := 3) (v := .int .i64 (n : Int)) hD (by decide) (by omega) P (fun _ => rfl), fun x => Q13 (bk 13 (by decide) x), hBx2⟩)
            | 4, _ =>
              cases hio
              have off : ¬ On f 4 := on_off (by omega) hn
              have h3 : On f 3 := he ⟨3, .data⟩ (by simp) rfl
              have e3 : gv 54 = .int .i64 (n : Int) := P 3 (by decide) rfl h3
              rw [e3]
              have HQ := Lib.hid (And.intro P (And.intro Q13 hBx2))
              clear P Q13 hBx2
              go_simp
              obtain ⟨P, Q13, hBx2⟩ := HQ.out
              have bk : ∀ j, j ≠ 4 → On (f.setIfInBounds 4 true) j → On f j := fun j hj x => on_back (by omega) x hj
              have fw : ∀ j, On f j → On (f.setIfInBounds 4 true) j := fun j x => (on_put (by omega)).2 (.inr x)
              have fn : On (f.setIfInBounds 4 true) 4 := (on_put (by omega)).2 (.inl rfl)
              exact hKK (upd (upd gv 54 (.int .i64 (n : Int))) 55 (.int .i64 (N2 : Int))) _ (by rw [upd_same e3]; exact ⟨hBx, vals_step (n := 4) (v := .int .i64 (N2 : Int)) hD (by decide) (by omega) P (fun _ => rfl), fun x => Q13 (bk 13 (by decide) x), hBx2⟩)
            | 5, _ =>
              cases hio
              have off : ¬ On f 5 := on_off (by omega) hn
              have h1 : On f 1 := he ⟨1, .data⟩ (by simp) rfl
              have e1 : gv 52 = .int .i64 (N2 : Int) := P 1 (by decide) rfl h1
              have h4 : On f 4 := he ⟨4, .data⟩ (by simp) rfl
              have e4 : gv 55 = .int .i64 (N2 : Int) := P 4 (by decide) rfl h4
              rw [e1, e4]
              have HQ := Lib.hid (And.intro P (And.intro Q13 hBx2))
              clear P Q13 hBx2
              go_simp
              obtain ⟨P, Q13, hBx2⟩ := HQ.out
              have bk : ∀ j, j ≠ 5 → On (f.setIfInBounds 5 true) j → On f j := fun j hj x => on_back (by omega) x hj
              have fw : ∀ j, On f j → On (f.setIfInBounds 5 true) j := fun j x => (on_put (by omega)).2 (.inr x)
              have fn : On (f.setIfInBounds 5 true) 5 := (on_put (by omega)).2 (.inl rfl)
              exact hKK (upd (upd (upd gv 52 (.int .i64 (N2 : Int))) 55 (.int .i64 (N2 : Int))) 56 (.bool false)) _ (by rw [upd_same e1]; rw [upd_same e4]; exact ⟨hBx, vals_step (n := 5) (v := .bool false) hD (by decide) (by omega) P (fun _ => rfl), fun x => Q13 (bk 13 (by decide) x), hBx2⟩)
            | 6, _ =>
              cases hio
              have off : ¬ On f 6 := on_off (by omega) hn
              have h5 : On f 5 := he ⟨5, .data⟩ (by simp) rfl
              have e5 : gv 56 = .bool false := P 5 (by decide) rfl h5
              rw [e5]
              have HQ := Lib.hid (And.intro P (And.intro Q13 hBx2))
              clear P Q13 hBx2
              go_simp
              obtain ⟨P, Q13, hBx2⟩ := HQ.out
              have bk : ∀ j, j ≠ 6 → On (f.setIfInBounds 6 true) j → On f j := fun j hj x => on_back (by omega) x hj
              have fw : ∀ j, On f j → On (f.setIfInBounds 6 true) j := fun j x => (on_put (by omega)).2 (.inr x)
              have fn : On (f.setIfInBounds 6 true) 6 := (on_put (by omega)).2 (.inl rfl)
              exact hKK (upd (upd gv 56 (.bool false)) 57 (.bool false)) _ (by rw [upd_same e5]; exact ⟨hBx, vals_step (n := 6) (v := .bool false) hD (by decide) (by omega) P (fun _ => rfl), fun x => Q13 (bk 13 (by decide) x), hBx2⟩)
            | 7, _ =>
              cases hio
              have off : ¬ On f 7 := on_off (by omega) hn
              have h6 : On f 6 := he ⟨6, .guard⟩ (by simp) rfl
              have e6 : gv 57 = .bool false := P 6 (by decide) rfl h6
              rw [e6]
              rw [if_pos (by rfl)]
              have HQ := Lib.hid (And.intro P (And.intro Q13 hBx2))
              clear P Q13 hBx2
              go_simp
              obtain ⟨P, Q13, hBx2⟩ := HQ.out
              have bk : ∀ j, j ≠ 7 → On (f.setIfInBounds 7 true) j → On f j := fun j hj x => on_back (by omega) x hj
              have fw : ∀ j, On f j → On (f.setIfInBounds 7 true) j := fun j x => (on_put (by omega)).2 (.inr x)
              have fn : On (f.setIfInBounds 7 true) 7 := (on_put (by omega)).2 (.inl rfl)
              exact hKK (upd (upd gv 57 (.bool false)) 58 (.slice a13 N2 c13)) _ (by rw [upd_same e6]; exact ⟨hBx, vals_step (n := 7) (v := .slice a13 N2 c13) hD (by decide) (by omega) P (fun _ => rfl), fun x => Q13 (bk 13 (by decide) x), hBx2⟩)
            | 8, _ =>
              cases hio
              have off : ¬ On f 8 := on_off (by omega) hn
              have h6 : On f 6 := he ⟨6, .guard⟩ (by simp) rfl
              have e6 : gv 57 = .bool false := P 6 (by decide) rfl h6
              rw [e6]
              rw [if_pos (by rfl)]
              have HQ := Lib.hid (And.intro P (And.intro Q13 hBx2))
              clear P Q13 hBx2
              go_simp
              obtain ⟨P, Q13, hBx2⟩ := HQ.out
              have bk : ∀ j, j ≠ 8 → On (f.setIfInBounds 8 true) j → On f j := fun j hj x => on_back (by omega) x hj
              have fw : ∀ j, On f j → On (f.setIfInBounds 8 true) j := fun j x => (on_put (by omega)).2 (.inr x)
              have fn : On (f.setIfInBounds 8 true) 8 := (on_put (by omega)).2 (.inl rfl)
              exact hKK (upd (upd gv 57 (.bool false)) 59 (.slice a n c)) _ (by rw [upd_same e6]; exact ⟨hBx, vals_step (n := 8) (v := .slice a n c) hD (by decide) (by omega) P (fun _ => rfl), fun x => Q13 (bk 13 (by decide) x), hBx2⟩)
            | 9, _ =>
              cases hio
              have off : ¬ On f 9 := on_off (by omega) hn
              have h6 : On f 6 := he ⟨6, .guard⟩ (by simp) rfl
              have e6 : gv 57 = .bool false := P 6 (by decide) rfl h6
              have h8 : On f 8 := he ⟨8, .data⟩ (by simp) rfl
              have e8 : gv 59 = .slice a n c := P 8 (by decide) rfl h8
              rw [e6, e8]
              rw [if_pos (by rfl)]
              have HQ := Lib.hid (And.intro P (And.intro Q13 hBx2))
              clear P Q13 hBx2
              go_simp
              obtain ⟨P, Q13, hBx2⟩ := HQ.out
              have bk : ∀ j, j ≠ 9 → On (f.setIfInBounds 9 true) j → On f j := fun j hj x => on_back (by omega) x hj
              have fw : ∀ j, On f j → On (f.setIfInBounds 9 true) j := fun j x => (on_put (by omega)).2 (.inr x)
              have fn : On (f.setIfInBounds 9 true) 9 := (on_put (by omega)).2 (.inl rfl)
              exact hKK (upd (upd (upd gv 57 (.bool false)) 59 (.slice a n c)) 60 (.int .i64 (n : Int))) _ (by rw [upd_same e6]; rw [upd_same e8]; exact ⟨hBx, vals_step (n := 9) (v := .int .i64 (n : Int)) hD (by decide) (by omega) P (fun _ => rfl), fun x => Q13 (bk 13 (by decide) x), hBx2⟩)
            | 10, _ =>
              cases hio
              have off : ¬ On f 10 := on_off (by omega) hn
              have h6 : On f 6 := he ⟨6, .guard⟩ (by simp) rfl
              have e6 : gv 57 = .bool false := P 6 (by decide) rfl h6
              have h7 : On f 7 := he ⟨7, .data⟩ (by simp) rfl
              have e7 : gv 58 = .slice a13 N2 c13 := P 7 (by decide) rfl h7
              have h9 : On f 9 := he ⟨9, .data⟩ (by simp) rfl
              have e9 : gv 60 = .int .i64 (n : Int) := P 9 (by decide) rfl h9
              rw [e6, e7, e9]
              rw [if_pos (by rfl)]
              have HQ := Lib.hid (And.intro P (And.intro Q13 hBx2))
              clear P Q13 hBx2
              go_simp
              obtain ⟨P, Q13, hBx2⟩ := HQ.out
              have bk : ∀ j, j ≠ 10 → On (f.setIfInBounds 10 true) j → On f j := fun j hj x => on_back (by omega) x hj
              have fw : ∀ j, On f j → On (f.setIfInBounds 10 true) j := fun j x => (on_put (by omega)).2 (.inr x)
              have fn : On (f.setIfInBounds 10 true) 10 := (on_put (by omega)).2 (.inl rfl)
              exact hKK (upd (upd (upd (upd gv 57 (.bool false)) 58 (.slice a13 N2 c13)) 60 (.int .i64 (n : Int))) 61 (.slice y1 2 (c13 - n))) _ (by rw [upd_same e6]; rw [upd_same e7]; rw [upd_same e9]; exact ⟨hBx, vals_step (n := 10) (v := .slice y1 2 (c13 - n)) hD (by decide) (by omega) P (fun _ => rfl), fun x => Q13 (bk 13 (by decide) x), hBx2⟩)
            | 11, _ =>
              cases hio
              have off : ¬ On f 11 := on_off (by omega) hn
              have h6 : On f 6 := he ⟨6, .guard⟩ (by simp) rfl
              have e6 : gv 57 = .bool false := P 6 (by decide) rfl h6
              have d0 : wm.cell? ⟨b6, 0, none⟩ = some (.int .i64 p.fr) := (HC66.out.step hBx2).at 0 _ rfl
              have d1 : wm.cell? ⟨b6, 1, none⟩ = some (.int .i64 p.to) := (HC66.out.step hBx2).at 1 _ rfl
              have d2 : wm.cell? ⟨b6, 2, none⟩ = some (.slice x L cx) := (HC66.out.step hBx2).at 2 _ rfl
              rw [e6]
              rw [if_pos (by rfl)]
              have HQ := Lib.hid (And.intro P (And.intro Q13 hBx2))
              clear P Q13 hBx2
              go_simp
              obtain ⟨P, Q13, hBx2⟩ := HQ.out
              have bk : ∀ j, j ≠ 11 → On (f.setIfInBounds 11 true) j → On f j := fun j hj x => on_back (by omega) x hj
              have fw : ∀ j, On f j → On (f.setIfInBounds 11 true) j := fun j x => (on_put (by omega)).2 (.inr x)
              have fn : On (f.setIfInBounds 11 true) 11 := (on_put (by omega)).2 (.inl rfl)
              exact hKK (upd (upd gv 57 (.bool false)) 62 (.agg #[.int .i64 p.fr, .int .i64 p.to, .slice x L cx])) _ (by rw [upd_same e6]; exact ⟨hBx, vals_step (n := 11) (v := .agg #[.int .i64 p.fr, .int .i64 p.to, .slice x L cx]) hD (by decide) (by omega) P (fun _ => rfl), fun x => Q13 (bk 13 (by decide) x), hBx2⟩)
            | 12, _ =>
              cases hio
              have off : ¬ On f 12 := on_off (by omega) hn
              have h6 : On f 6 := he ⟨6, .guard⟩ (by simp) rfl
              have e6 : gv 57 = .bool false := P 6 (by decide) rfl h6
              have d0 : wm.cell? ⟨b7, 0, none⟩ = some (.int .i64 q.fr) := (HC76.out.step hBx2).at 0 _ rfl
              have d1 : wm.cell? ⟨b7, 1, none⟩ = some (.int .i64 q.to) := (HC76.out.step hBx2).at 1 _ rfl
              have d2 : wm.cell? ⟨b7, 2, none⟩ = some (.slice y K cy) := (HC76.out.step hBx2).at 2 _ rfl
              rw [e6]
              rw [if_pos (by rfl)]
              have HQ := Lib.hid (And.intro P (And.intro Q13 hBx2))
              clear P Q13 hBx2
              go_simp
              obtain ⟨P, Q13, hBx2⟩ := HQ.out
              have bk : ∀ j, j ≠ 12 → On (f.setIfInBounds 12 true) j → On f j := fun j hj x => on_back (by omega) x hj
              have fw : ∀ j, On f j → On (f.setIfInBounds 12 true) j := fun j x => (on_put (by omega)).2 (.inr x)
              have fn : On (f.setIfInBounds 12 true) 12 := (on_put (by omega)).2 (.inl rfl)
              exact hKK (upd (upd gv 57 (.bool false)) 63 (.agg #[.int .i64 q.fr, .int .i64 q.to, .slice y K cy])) _ (by rw [upd_same e6]; exact ⟨hBx, vals_step (n := 12) (v := .agg #[.int .i64 q.fr, .int .i64 q.to, .slice y K cy]) hD (by decide) (by omega) P (fun _ => rfl), fun x => Q13 (bk 13 (by decide) x), hBx2⟩)
            | 13, _ =>
              cases hio
              have off : ¬ On f 13 := on_off (by omega) hn
              have h6 : On f 6 := he ⟨6, .guard⟩ (by simp) rfl
              have e6 : gv 57 = .bool false := P 6 (by decide) rfl h6
              have h11 : On f 11 := he ⟨11, .data⟩ (by simp) rfl
              have e11 : gv 62 = .agg #[.int .i64 p.fr, .int .i64 p.to, .slice x L cx] := P 11 (by decide) rfl h11
              have h12 : On f 12 := he ⟨12, .data⟩ (by simp) rfl
              have e12 : gv 63 = .agg #[.int .i64 q.fr, .int .i64 q.to, .slice y K cy] := P 12 (by decide) rfl h12
              rw [e6, e11, e12]
              rw [if_pos (by rfl)]
              have HQ := Lib.hid (And.intro P (And.intro Q13 hBx2))
              clear P Q13 hBx2
              go_simp
              obtain ⟨b, hbb⟩ : ∃ b, b = wm.heap.size := ⟨_, rfl⟩
              obtain ⟨w7, hw7⟩ : ∃ w7, w7 = wm.alloc (.cells ([.int .i64 p.fr, .int .i64 p.to, .slice x L cx, .int .i64 q.fr, .int .i64 q.to, .slice y K cy] : List Value).toArray 25) := ⟨_, rfl⟩
              have hb : Below wm.heap.size wm w7 := by rw [hw7]; exact (Below.refl _ _).alloc (Nat.le_refl _) _
              have hcb : Cel w7 b 25 [.int .i64 p.fr, .int .i64 p.to, .slice x L cx, .int .i64 q.fr, .int .i64 q.to, .slice y K cy] := by rw [hw7, hbb]; exact Cel.new wm _ _
              show KK ⟨#[_, _, _, _, _, _, _, _, _, _, _, _, _, _, _, _, _, _, _, _, _, _, _, _, _, _, _, _, _, _, _, _, _, _, _, _, _, _, _, _, _, _, _, _, _, _, _, _, _, _, _, _, _, _, _, _, _, _, _, _, _, _, _, _, .slice (some ⟨wm.heap.size, 0, none⟩) 2 2, _, _, _, _, _, _, _, _, _, _, _, _, _, _, _, _, _, _, _, _, _, _, _, _, _, _, _, _, _, _, _, _, _, _, _, _, _, _, _, _, _, _, _, _, _, _, _, _, _, _, _, _, _, _, _, _, _, _, _, _, _, _, _, _, _, _, _, _, _], []⟩ (wm.alloc (.cells ([.int .i64 p.fr, .int .i64 p.to, .slice x L cx, .int .i64 q.fr, .int .i64 q.to, .slice y K cy] : List Value).toArray 25))
              rw [← hbb, ← hw7]
              obtain ⟨P, Q13, hBx2⟩ := HQ.out
              have bk : ∀ j, j ≠ 13 → On (f.setIfInBounds 13 true) j → On f j := fun j hj x => on_back (by omega) x hj
              have fw : ∀ j, On f j → On (f.setIfInBounds 13 true) j := fun j x => (on_put (by omega)).2 (.inr x)
              have fn : On (f.setIfInBounds 13 true) 13 := (on_put (by omega)).2 (.inl rfl)
              exact hKK (upd (upd (upd (upd gv 57 (.bool false)) 62 (.agg #[.int .i64 p.fr, .int .i64 p.to, .slice x L cx])) 63 (.agg #[.int .i64 q.fr, .int .i64 q.to, .slice y K cy])) 64 (.slice (some ⟨b, 0, none⟩) 2 2)) _ (by rw [upd_same e6]; rw [upd_same e11]; rw [upd_same e12]; exact ⟨hBx.step hb, vals_step (n := 13) (v := .slice (some ⟨b, 0, none⟩) 2 2) hD (by decide) (by omega) P (fun h => nomatch (show true = false from h)), fun _ => ⟨b, rfl, hcb⟩, hBx2.step hb⟩)
            | 14, _ =>
              cases hio
              have off : ¬ On f 14 := on_off (by omega) hn
              have h6 : On f 6 := he ⟨6, .guard⟩ (by simp) rfl
              have e6 : gv 57 = .bool false := P 6 (by decide) rfl h6
              have h10 : On f 10 := he ⟨10, .data⟩ (by simp) rfl
              have e10 : gv 61 = .slice y1 2 (c13 - n) := P 10 (by decide) rfl h10
              have h13 : On f 13 := he ⟨13, .data⟩ (by simp) rfl
              obtain ⟨b, e13, hcb⟩ := Q13 h13
              have HA := Lib.hid (And.intro (HK6.out.below hBx2) (Pks.two (p := p) (q := q) (by rw [← HX.out.2.2, ← HY.out.2.2]; exact hcb) (by rw [← HX.out.2.2]; exact (HX.out.1.below HB6.out).below hBx2) HX.out.2.1 (by rw [← HY.out.2.2]; exact (HY.out.1.below HB6.out).below hBx2) HY.out.2.1))
              rw [e6, e10, e13]
              rw [if_pos (by rfl)]
              have HQ := Lib.hid (And.intro P (And.intro Q13 hBx2))
              clear P Q13 hBx2
              go_simp
              refine (HSP.out _ _ HA.out.1 HA.out.2).mono ?_
              rintro e w7 ⟨rfl, hb⟩
              obtain ⟨P, Q13, hBx2⟩ := HQ.out
              have bk : ∀ j, j ≠ 14 → On (f.setIfInBounds 14 true) j → On f j := fun j hj x => on_back (by omega) x hj
              have fw : ∀ j, On f j → On (f.setIfInBounds 14 true) j := fun j x => (on_put (by omega)).2 (.inr x)
              have fn : On (f.setIfInBounds 14 true) 14 := (on_put (by omega)).2 (.inl rfl)
              exact hKK (upd (upd (upd (upd gv 57 (.bool false)) 61 (.slice y1 2 (c13 - n))) 64 (.slice (some ⟨b, 0, none⟩) 2 2)) 65 (.bool true)) _ (by rw [upd_same e6]; rw [upd_same e10]; rw [upd_same e13]; exact ⟨hBx.step hb, vals_step (n := 14) (v := .bool true) hD (by decide) (by omega) P (fun _ => rfl), fun x => by obtain ⟨b, e9, hcb⟩ := Q13 (bk 13 (by decide) x); exact ⟨_, e9, hcb.step hb⟩, hBx2.step hb⟩)
            | 15, _ =>
              cases hio
              have off : ¬ On f 15 := on_off (by omega) hn
              have h6 : On f 6 := he ⟨6, .guard⟩ (by simp) rfl
              have e6 : gv 57 = .bool false := P 6 (by decide) rfl h6
              have h14 : On f 14 := he ⟨14, .data⟩ (by simp) rfl
              have e14 : gv 65 = .bool true := P 14 (by decide) rfl h14
              rw [e6, e14]
              rw [if_pos (by rfl)]
              have HQ := Lib.hid (And.intro P (And.intro Q13 hBx2))
              clear P Q13 hBx2
              go_simp
              obtain ⟨P, Q13, hBx2⟩ := HQ.out
              have bk : ∀ j, j ≠ 15 → On (f.setIfInBounds 15 true) j → On f j := fun j hj x => on_back (by omega) x hj
              have fw : ∀ j, On f j → On (f.setIfInBounds 15 true) j := fun j x => (on_put (by omega)).2 (.inr x)
              have fn : On (f.setIfInBounds 15 true) 15 := (on_put (by omega)).2 (.inl rfl)
              exact hKK (upd (upd (upd gv 57 (.bool false)) 65 (.bool true)) 66 (.bool false)) _ (by rw [upd_same e6]; rw [upd_same e14]; exact ⟨hBx, vals_step (n := 15) (v := .bool false) hD (by decide) (by omega) P (fun _ => rfl), fun x => Q13 (bk 13 (by decide) x), hBx2⟩)
            | 16, _ =>
              cases hio
              have off : ¬ On f 16 := on_off (by omega) hn
              have h6 : On f 6 := he ⟨6, .data⟩ (by simp) rfl
              have e6 : gv 57 = .bool false := P 6 (by decide) rfl h6
              have h15 : On f 15 := he ⟨15, .data⟩ (by simp) rfl
              have e15 : gv 66 = .bool false := P 15 (by decide) rfl h15
              rw [e6, e15]
              have HQ := Lib.hid (And.intro P (And.intro Q13 hBx2))
              clear P Q13 hBx2
              go_simp
              obtain ⟨P, Q13, hBx2⟩ := HQ.out
              have bk : ∀ j, j ≠ 16 → On (f.setIfInBounds 16 true) j → On f j := fun j hj x => on_back (by omega) x hj
              have fw : ∀ j, On f j → On (f.setIfInBounds 16 true) j := fun j x => (on_put (by omega)).2 (.inr x)
              have fn : On (f.setIfInBounds 16 true) 16 := (on_put (by omega)).2 (.inl rfl)
              exact hKK (upd (upd (upd gv 57 (.bool false)) 66 (.bool false)) 67 (.bool false)) _ (by rw [upd_same e6]; rw [upd_same e15]; exact ⟨hBx, vals_step (n := 16) (v := .bool false) hD (by decide) (by omega) P (fun _ => rfl), fun x => Q13 (bk 13 (by decide) x), hBx2⟩)
          · rintro f gv w5 hall hs' ⟨hBx, P, Q13, hBx2⟩
            replace hs' : f.size = 17 := hs'
            have on : ∀ j, j < 17 → On f j := fun j hj => on_all hall hs' j hj
            have e67 : gv 67 = .bool false := P 16 (by decide) rfl (on 16 (by decide))
            have HB7 := Lib.hid hBx
            have HK7 := Lib.hid (HK6.out.below hBx2)
            rw [e67]
            clear P Q13 hBx hBx2 hall hs' on hD e67 HB6 HC66 HC76 HK6
            by_cases hi0 : i < 0
            · go_wp2_with fail
              go_ret
              exact ⟨rfl, HB7.out⟩
            by_cases hki : k ≤ i
            · go_wp2_with fail
              go_ret
              exact ⟨rfl, HB7.out⟩
            by_cases hkN : k ≥ (N2 : Int)
            · go_wp2_with fail
              go_ret
              exact ⟨rfl, HB7.out⟩
            obtain ⟨i0, rfl⟩ : ∃ i0 : Nat, i = (i0 : Int) := ⟨i.toNat, by omega⟩
            obtain ⟨k1, hk1⟩ : ∃ k1 : Nat, k = ((k1 + 1 : Nat) : Int) := ⟨(k - 1).toNat, by omega⟩
            obtain ⟨k0, hk0⟩ : ∃ k0, k0 = k1 + 1 := ⟨_, rfl⟩
            rw [← hk0] at hk1
            subst hk1
            have hik : i0 < k0 := by omega
            have hkN2 : k0 < N2 := by omega
            obtain ⟨N1', hN1⟩ : ∃ N1', N1' = n + 1 := ⟨_, rfl⟩
            obtain ⟨N0', hN0⟩ : ∃ N0', N0' = n := ⟨_, rfl⟩
            have hN2 := HM.out.2.2.1
            have hl2 := HM.out.1
            obtain ⟨X, hX⟩ : ∃ X, X = M2.eraseIdx i0 := ⟨_, rfl⟩
            obtain ⟨Y, hY⟩ : ∃ Y, Y = X.eraseIdx k1 := ⟨_, rfl⟩
            obtain ⟨Z, hZ⟩ : ∃ Z, Z = M2.eraseIdx k0 := ⟨_, rfl⟩
            obtain ⟨oi, hoi⟩ : ∃ oi, oi = M2.getD i0 noPk := ⟨_, rfl⟩
            obtain ⟨ok, hok⟩ : ∃ ok, ok = M2.getD k0 noPk := ⟨_, rfl⟩
            obtain ⟨Li, hLi⟩ : ∃ Li, Li = oi.by_.length := ⟨_, rfl⟩
            obtain ⟨Lk, hLk⟩ : ∃ Lk, Lk = ok.by_.length := ⟨_, rfl⟩
            have hlX : X.length = N1' := by rw [hX, List.length_eraseIdx, if_pos (by omega)]; omega
            have hlZ : Z.length = N1' := by rw [hZ, List.length_eraseIdx, if_pos (by omega)]; omega
            have HQ1 := Lib.hid (fun w' a c h => pass_at a N2 N1' c M2 X oi Li i0 w' h (by omega) HM.out.2.2.2 (by omega) hoi hX hLi (by omega))
            have HQ2 := Lib.hid (fun w' a c h => pass_at a N1' N0' c X Y ok Lk k1 w' h (by omega) (fun r hr => HM.out.2.2.2 r (List.mem_of_mem_eraseIdx (by rw [hX] at hr; exact hr))) (by omega) (by rw [hX, hok, hk0, getD_erase_ge M2 i0 k1 (by omega)]) hY hLk (by omega))
            have HQ3 := Lib.hid (fun w' a c h => pass_at a N2 N1' c M2 Z ok Lk k0 w' h (by omega) HM.out.2.2.2 (by omega) hok hZ hLk (by omega))
            have HQ4 := Lib.hid (fun w' a c h => pass_at a N1' N0' c Z Y oi Li i0 w' h (by omega) (fun r hr => HM.out.2.2.2 r (List.mem_of_mem_eraseIdx (by rw [hZ] at hr; exact hr))) (by omega) (by rw [hZ, hoi, getD_erase_lt M2 i0 k0 hik]) (by rw [hY, hX, hZ, hk0]; exact erase_erase M2 i0 k1 (by omega)) hLi (by omega))
            have HSY := Lib.hid (fun w' a c a' c' (h : Pks w' a N0' c Y) (h' : Pks w' a' N0' c' Y) => show Calls Try.prog 21 #[.slice a N0' c, .slice a' N0' c'] w' (fun e w'' => e = .returned (.bool true) ∧ Below w'.heap.size w' w'') by
              have := same_any a a' N0' N0' c c' _ _ w' h h'
              rwa [decide_eq_true rfl] at this)
            have HS2 := Lib.hid (fun w' b b' (h : Pks w' b 2 2 [oi, ok]) (h' : Pks w' b' 2 2 [oi, ok]) => show Calls Try.prog 21 #[.slice b 2 2, .slice b' 2 2] w' (fun e w'' => e = .returned (.bool true) ∧ Below w'.heap.size w' w'') by
              have := same_any b b' 2 2 2 2 _ _ w' h h'
              rwa [decide_eq_true rfl] at this)
            unfold PassQ at HQ1 HQ2 HQ3 HQ4
            have HLL := Lib.hid (And.intro hLi hLk)
            have hk1' : (k0 : Int) - 1 = (k1 : Int) := by omega
            have hk62 : k0 ≤ 62 := by omega
            clear hN1 hN0 hN2 hl2 hX hY hZ hoi hok hLi hLk hlX hlZ hk0 HM
            go_wp2_with fail
            refine (HQ1.out _ _ _ HK7.out).mono ?_
            rintro e v8 ⟨x8, cx8, a8, c8, rfl, hx1, hx2, hk, hb⟩
            go_upto_region 11 with fail
            generalize hww : World.alloc v8 (.cells _ _) = w8
            obtain ⟨b14, hbb⟩ : ∃ b, b = v8.heap.size := ⟨_, rfl⟩
            have hb2 : Below v8.heap.size v8 w8 := by rw [← hww]; exact (Below.refl _ _).alloc (Nat.le_refl _) _
            have HC8 := Lib.hid (show Cel w8 b14 25 [.int .i64 oi.fr, .int .i64 oi.to, .slice x8 Li cx8] by rw [← hww, hbb]; exact Cel.new v8 _ _)
            rw [← hbb]
            have HB8 := Lib.hid ((HB7.out.step hb).step hb2)
            have HXX8 := Lib.hid (And.intro (hx1.below hb2) hx2)
            have HKK8 := Lib.hid (hk.below hb2)
            have HK8 := Lib.hid ((HK7.out.below hb).below hb2)
            clear hww hbb hb hb2 hx1 hx2 hk HB7 HK7
            go_wp2_with fail
            refine (HQ2.out _ _ _ HKK8.out).mono ?_
            rintro e v9 ⟨x9, cx9, a9, c9, rfl, hx1, hx2, hk, hb⟩
            go_upto_region 12 with fail
            generalize hww : World.alloc v9 (.cells _ _) = w9
            obtain ⟨b17, hbb⟩ : ∃ b, b = v9.heap.size := ⟨_, rfl⟩
            have hb2 : Below v9.heap.size v9 w9 := by rw [← hww]; exact (Below.refl _ _).alloc (Nat.le_refl _) _
            have HC9 := Lib.hid (show Cel w9 b17 25 [.int .i64 ok.fr, .int .i64 ok.to, .slice x9 Lk cx9] by rw [← hww, hbb]; exact Cel.new v9 _ _)
            rw [← hbb]
            have HB9 := Lib.hid ((HB8.out.step hb).step hb2)
            have HXX9 := Lib.hid (And.intro (hx1.below hb2) hx2)
            have HKK9 := Lib.hid (hk.below hb2)
            have HK9 := Lib.hid ((HK8.out.below hb).below hb2)
            replace HC8 := Lib.hid ((HC8.out.step hb).step hb2)
            replace HXX8 := Lib.hid (And.intro ((HXX8.out.1.below hb).below hb2) HXX8.out.2)
            replace HKK8 := Lib.hid ((HKK8.out.below hb).below hb2)
            clear hww hbb hb hb2 hx1 hx2 hk HB8 HK8
            go_wp2_with fail
            refine (HQ3.out _ _ _ HK9.out).mono ?_
            rintro e v10 ⟨x10, cx10, a10, c10, rfl, hx1, hx2, hk, hb⟩
            go_upto_region 13 with fail
            generalize hww : World.alloc v10 (.cells _ _) = w10
            obtain ⟨b20, hbb⟩ : ∃ b, b = v10.heap.size := ⟨_, rfl⟩
            have hb2 : Below v10.heap.size v10 w10 := by rw [← hww]; exact (Below.refl _ _).alloc (Nat.le_refl _) _
            have HC10 := Lib.hid (show Cel w10 b20 25 [.int .i64 ok.fr, .int .i64 ok.to, .slice x10 Lk cx10] by rw [← hww, hbb]; exact Cel.new v10 _ _)
            rw [← hbb]
            have HB10 := Lib.hid ((HB9.out.step hb).step hb2)
            have HXX10 := Lib.hid (And.intro (hx1.below hb2) hx2)
            have HKK10 := Lib.hid (hk.below hb2)
            have HK10 := Lib.hid ((HK9.out.below hb).below hb2)
            replace HC8 := Lib.hid ((HC8.out.step hb).step hb2)
            replace HXX8 := Lib.hid (And.intro ((HXX8.out.1.below hb).below hb2) HXX8.out.2)
            replace HKK8 := Lib.hid ((HKK8.out.below hb).below hb2)
            replace HC9 := Lib.hid ((HC9.out.step hb).step hb2)
            replace HXX9 := Lib.hid (And.intro ((HXX9.out.1.below hb).below hb2) HXX9.out.2)
            replace HKK9 := Lib.hid ((HKK9.out.below hb).below hb2)
            clear hww hbb hb hb2 hx1 hx2 hk HB9 HK9
            go_wp2_with fail
            refine (HQ4.out _ _ _ HKK10.out).mono ?_
            rintro e v11 ⟨x11, cx11, a11, c11, rfl, hx1, hx2, hk, hb⟩
            go_upto_region 14 with fail
            generalize hww : World.alloc v11 (.cells _ _) = w11
            obtain ⟨b23, hbb⟩ : ∃ b, b = v11.heap.size := ⟨_, rfl⟩
            have hb2 : Below v11.heap.size v11 w11 := by rw [← hww]; exact (Below.refl _ _).alloc (Nat.le_refl _) _
            have HC11 := Lib.hid (show Cel w11 b23 25 [.int .i64 oi.fr, .int .i64 oi.to, .slice x11 Li cx11] by rw [← hww, hbb]; exact Cel.new v11 _ _)
            rw [← hbb]
            have HB11 := Lib.hid ((HB10.out.step hb).step hb2)
            have HXX11 := Lib.hid (And.intro (hx1.below hb2) hx2)
            have HKK11 := Lib.hid (hk.below hb2)
            have HK11 := Lib.hid ((HK10.out.below hb).below hb2)
            replace HC8 := Lib.hid ((HC8.out.step hb).step hb2)
            replace HXX8 := Lib.hid (And.intro ((HXX8.out.1.below hb).below hb2) HXX8.out.2)
            replace HKK8 := Lib.hid ((HKK8.out.below hb).below hb2)
            replace HC9 := Lib.hid ((HC9.out.step hb).step hb2)
            replace HXX9 := Lib.hid (And.intro ((HXX9.out.1.below hb).below hb2) HXX9.out.2)
            replace HKK9 := Lib.hid ((HKK9.out.below hb).below hb2)
            replace HC10 := Lib.hid ((HC10.out.step hb).step hb2)
            replace HXX10 := Lib.hid (And.intro ((HXX10.out.1.below hb).below hb2) HXX10.out.2)
            replace HKK10 := Lib.hid ((HKK10.out.below hb).below hb2)
            clear hww hbb hb hb2 hx1 hx2 hk HB10 HK10
            go_wp2_with fail
            refine (HSY.out _ _ _ _ _ HKK9.out HKK11.out).mono ?_
            rintro e w12 ⟨rfl, hb⟩
            have HB12 := Lib.hid (HB11.out.step hb)
            have hbA : Below w12.heap.size w12 (w12.alloc (.cells #[.int .i64 oi.fr, .int .i64 oi.to, .slice x8 Li cx8, .int .i64 ok.fr, .int .i64 ok.to, .slice x9 Lk cx9] 25)) := (Below.refl _ _).alloc (Nat.le_refl _) _
            replace HC8 := Lib.hid (HC8.out.step hb)
            replace HXX8 := Lib.hid (And.intro (HXX8.out.1.below hb) HXX8.out.2)
            replace HC9 := Lib.hid (HC9.out.step hb)
            replace HXX9 := Lib.hid (And.intro (HXX9.out.1.below hb) HXX9.out.2)
            replace HC10 := Lib.hid (HC10.out.step hb)
            replace HXX10 := Lib.hid (And.intro (HXX10.out.1.below hb) HXX10.out.2)
            replace HC11 := Lib.hid (HC11.out.step hb)
            replace HXX11 := Lib.hid (And.intro (HXX11.out.1.below hb) HXX11.out.2)
            have p0 : w12.cell? ⟨b14, 0, none⟩ = some (.int .i64 oi.fr) := HC8.out.at 0 _ rfl
            have p1 : w12.cell? ⟨b14, 1, none⟩ = some (.int .i64 oi.to) := HC8.out.at 1 _ rfl
            have p2 : w12.cell? ⟨b14, 2, none⟩ = some (.slice x8 Li cx8) := HC8.out.at 2 _ rfl
            have q0 : w12.cell? ⟨b17, 0, none⟩ = some (.int .i64 ok.fr) := HC9.out.at 0 _ rfl
            have q1 : w12.cell? ⟨b17, 1, none⟩ = some (.int .i64 ok.to) := HC9.out.at 1 _ rfl
            have q2 : w12.cell? ⟨b17, 2, none⟩ = some (.slice x9 Lk cx9) := HC9.out.at 2 _ rfl
            have r0 : (w12.alloc (.cells #[.int .i64 oi.fr, .int .i64 oi.to, .slice x8 Li cx8, .int .i64 ok.fr, .int .i64 ok.to, .slice x9 Lk cx9] 25)).cell? ⟨b23, 0, none⟩ = some (.int .i64 oi.fr) := (HC11.out.step hbA).at 0 _ rfl
            have r1 : (w12.alloc (.cells #[.int .i64 oi.fr, .int .i64 oi.to, .slice x8 Li cx8, .int .i64 ok.fr, .int .i64 ok.to, .slice x9 Lk cx9] 25)).cell? ⟨b23, 1, none⟩ = some (.int .i64 oi.to) := (HC11.out.step hbA).at 1 _ rfl
            have r2 : (w12.alloc (.cells #[.int .i64 oi.fr, .int .i64 oi.to, .slice x8 Li cx8, .int .i64 ok.fr, .int .i64 ok.to, .slice x9 Lk cx9] 25)).cell? ⟨b23, 2, none⟩ = some (.slice x11 Li cx11) := (HC11.out.step hbA).at 2 _ rfl
            have s0 : (w12.alloc (.cells #[.int .i64 oi.fr, .int .i64 oi.to, .slice x8 Li cx8, .int .i64 ok.fr, .int .i64 ok.to, .slice x9 Lk cx9] 25)).cell? ⟨b20, 0, none⟩ = some (.int .i64 ok.fr) := (HC10.out.step hbA).at 0 _ rfl
            have s1 : (w12.alloc (.cells #[.int .i64 oi.fr, .int .i64 oi.to, .slice x8 Li cx8, .int .i64 ok.fr, .int .i64 ok.to, .slice x9 Lk cx9] 25)).cell? ⟨b20, 1, none⟩ = some (.int .i64 ok.to) := (HC10.out.step hbA).at 1 _ rfl
            have s2 : (w12.alloc (.cells #[.int .i64 oi.fr, .int .i64 oi.to, .slice x8 Li cx8, .int .i64 ok.fr, .int .i64 ok.to, .slice x9 Lk cx9] 25)).cell? ⟨b20, 2, none⟩ = some (.slice x10 Lk cx10) := (HC10.out.step hbA).at 2 _ rfl
            clear hb HB11
            go_wp2_with fail
            obtain ⟨w13, hw13⟩ : ∃ w13, w13 = w12.alloc (.cells #[.int .i64 oi.fr, .int .i64 oi.to, .slice x8 Li cx8, .int .i64 ok.fr, .int .i64 ok.to, .slice x9 Lk cx9] 25) := ⟨_, rfl⟩
            obtain ⟨w14, hw14⟩ : ∃ w14, w14 = w13.alloc (.cells #[.int .i64 oi.fr, .int .i64 oi.to, .slice x11 Li cx11, .int .i64 ok.fr, .int .i64 ok.to, .slice x10 Lk cx10] 25) := ⟨_, rfl⟩
            have hbA' : Below w12.heap.size w12 w13 := by rw [hw13]; exact hbA
            have hbB : Below w13.heap.size w13 w14 := by rw [hw14]; exact (Below.refl _ _).alloc (Nat.le_refl _) _
            have hz : w13.heap.size = w12.heap.size + 1 := by rw [hw13, size_alloc']
            have hcA : Cel w14 w12.heap.size 25 [.int .i64 oi.fr, .int .i64 oi.to, .slice x8 Li cx8, .int .i64 ok.fr, .int .i64 ok.to, .slice x9 Lk cx9] := (show Cel w13 w12.heap.size 25 [.int .i64 oi.fr, .int .i64 oi.to, .slice x8 Li cx8, .int .i64 ok.fr, .int .i64 ok.to, .slice x9 Lk cx9] by rw [hw13]; exact Cel.new w12 _ _).step hbB
            have hcB : Cel w14 (w12.heap.size + 1) 25 [.int .i64 oi.fr, .int .i64 oi.to, .slice x11 Li cx11, .int .i64 ok.fr, .int .i64 ok.to, .slice x10 Lk cx10] := by rw [← hz, hw14]; exact Cel.new w13 _ _
            have hrd : ∀ x L cx l, Rd w12 x L cx l → Rd w14 x L cx l := fun x L cx l h => (h.below hbA').below hbB
            have hPA : Pks w14 (some ⟨w12.heap.size, 0, none⟩) 2 2 [oi, ok] := Pks.two (p := oi) (q := ok) (by rw [← HLL.out.1, ← HLL.out.2]; exact hcA) (by rw [← HLL.out.1]; exact hrd _ _ _ _ HXX8.out.1) HXX8.out.2 (by rw [← HLL.out.2]; exact hrd _ _ _ _ HXX9.out.1) HXX9.out.2
            have hPB : Pks w14 (some ⟨w12.heap.size + 1, 0, none⟩) 2 2 [oi, ok] := Pks.two (p := oi) (q := ok) (by rw [← HLL.out.1, ← HLL.out.2]; exact hcB) (by rw [← HLL.out.1]; exact hrd _ _ _ _ HXX11.out.1) HXX11.out.2 (by rw [← HLL.out.2]; exact hrd _ _ _ _ HXX10.out.1) HXX10.out.2
            rw [← hw13, ← hw14]
            refine (HS2.out _ _ _ hPA hPB).mono ?_
            rintro e w15 ⟨rfl, hb⟩
            have HB15 := Lib.hid ((HB12.out.step hbA').step (hbB.step hb))
            clear hb hbA hbA' hbB hcA hcB hPA hPB hw13 hw14 hz hrd p0 p1 p2 q0 q1 q2 r0 r1 r2 s0 s1 s2
            go_wp2_with fail
            go_ret
            exact ⟨rfl, HB15.out⟩
end Go.Proofs.Ytmeieokembjabaa
