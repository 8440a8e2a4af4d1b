/- The walk of Send, of the layer net. -/
import Derived.Test.YtmeieokembjabaaNetApp
namespace Go.Proofs.Ytmeieokembjabaa
open Go.ChangeShapes Go.WideShapes Go.ChangeAt Go.RowKit
set_option linter.unusedVariables false

/-- Packets are handed back. -/
def PksR (ps : List Pk) (w : World) (e : Ending) (w' : World) : Prop := ∃ a c, e = .returned (.slice a ps.length c) ∧ Pks w' a ps.length c ps ∧ Below w.heap.size w w'
theorem Pks.drop {w : World} {a : Option Addr} {n c : Nat} {ps : List Pk} (h : Pks w a n c ps) (k : Nat) (hk : k ≤ n) : ∃ a', sliced a k n c 3 = .slice a' (n - k) (c - k) ∧ ∀ w', Pks w' a n c ps → Pks w' a' (n - k) (c - k) (ps.drop k) := by
  have hle := h.le
  refine ⟨if c = k then a else a.map (·.add (k * 3)), rfl, fun w' h => ?_⟩
  have hl := h.len
  have hcap := h.cap
  refine ⟨by rw [List.length_drop, hl], by omega, by omega, fun hx => ?_, ?_⟩
  · by_cases hc : c = k
    · omega
    · rw [if_neg hc] at hx
      cases a with
      | none => have := h.non rfl; omega
      | some x => cases hx
  · by_cases h0 : n - k = 0
    · exact .inl h0
    rcases h.cells with h1 | ⟨b, off, rfl, hc⟩
    · omega
    · refine .inr ⟨b, off + k * 3, ?_, fun i hi => ?_⟩
      · rw [if_neg (by omega)]
        show some (Addr.add _ (k * 3)) = _
        unfold Addr.add
        split
        · rename_i e; rw [e]; rfl
        · rfl
      · have e : (ps.drop k).getD i noPk = ps.getD (k + i) noPk := by rw [List.getD_eq_getElem?_getD, List.getElem?_drop, ← List.getD_eq_getElem?_getD]
        have := hc (k + i) (by omega)
        rw [e, show off + k * 3 + i * 3 = off + (k + i) * 3 by omega]
        exact this
theorem size_pk (w : World) : (sizeOf (Try.prog.elem 22)).run Try.prog w = .ok 3 w := by kernel_rfl
theorem slice_pl (w : World) (a : Option Addr) (n c i : Nat) (hi : i ≤ n) : (Instr.slice 22 (.slice a n c) (some (.int .i64 (i : Int))) none none).run Try.prog w = .ok (sliced a i n c 3) w := by
  rw [run_slice_l (P := Try.prog) (w := w) 22 a n c (by kernel_rfl) .i64 (i : Int) (by omega) (by omega), size_pk]; rfl
theorem slice_p_at (w : World) (x : Value) (lo hi mx : Option Value) : (Instr.sliceAt 22 x lo hi mx).run Try.prog w = (Instr.slice 22 x lo hi mx).run Try.prog w := run_sliceAt_slice (P := Try.prog) (w := w) _ x lo hi mx (by kernel_rfl)
/-- An append whose run is known, as a step of a region. -/
theorem app_run_at {P : Program} {ops : Array Oper} {o : Oper} {ts : Array Value} {ds : List Deferred} {w : World} {K : Act → World → Prop} {Q : Exit → Act → World → Prop} {E : Prop}
    (hw : Region.wanted o (yielded ops ts) = true) (s x : Operand) (t : TypeId) (hop : o.op = Op.call { callee := Callee.builtin Builtin.append, args := #[s, x], argTypes := #[t, t] })
    {v y v' : Value} {w' : World} (hs : Act.eval ⟨ts, ds⟩ s = v) (hx : Act.eval ⟨ts, ds⟩ x = y) (hrun : (Builtin.append_ #[t, t] o.type #[v, y]).run P w = .ok v' w') (hK : K (Act.put ⟨ts, ds⟩ o.dst v') w') :
    if Region.wanted o (yielded ops ts) = true then o.wp P ⟨ts, ds⟩ w K Q else E := by
  rw [if_pos hw]
  exact Lib.wp_append_run w s x t t hop v y hs hx v' w' hrun hK

theorem ownsRow_mono3 {w : World} {base base' size : Nat} {e : TypeId} {v : Value} {n : Nat} {xs : List Value} (h : w.ownsRow base e size v n xs) (hb : base' ≤ base) : w.ownsRow base' e size v n xs := by
  refine ⟨h.1, ?_⟩
  rcases h.2 with h2 | ⟨g, cap, cur, h2, hg, r⟩
  · exact .inl h2
  · exact .inr ⟨g, cap, cur, h2, Nat.le_trans hb hg, r⟩

set_option maxRecDepth 100000 in
set_option maxHeartbeats 2000000 in
theorem send_any (a : Option Addr) (n c : Nat) (ps : List Pk) (p : Pk) (x : Option Addr) (cx : Nat) (w : World) (hr : Pks w a n c ps) (hn : n ≤ 500) (hL : ∀ i, i < n → (ps.getD i noPk).by_.length ≤ 100000) (hp : Rd w x p.by_.length cx p.by_) (hx : x = none → cx = 0) :
    Calls Try.prog 12 #[.slice a n c, .agg #[.int .i64 p.fr, .int .i64 p.to, .slice x p.by_.length cx]] w (PksR (sendP ps p) w) := by
  obtain ⟨L, hLL⟩ : ∃ L, L = p.by_.length := ⟨_, rfl⟩
  have hL63 : L ≤ 9223372036854775807 := by rw [hLL]; exact Nat.le_trans hp.le hp.cap
  have HMAY := Lib.hid (fun w' => netmay_any p x cx w' (by rw [← hLL]; exact hL63))
  have HR := Lib.hid hr
  have HL := Lib.hid hL
  have HX := Lib.hid (show Rd w x L cx p.by_ ∧ (x = none → cx = 0) ∧ L = p.by_.length from ⟨by rw [hLL]; exact hp, hx, hLL⟩)
  rw [← hLL] at HMAY ⊢
  clear hr hL hp hx hLL
  go_enter Try.func12, Try.ntmps12
  go_upto_region 1 with fail
  obtain ⟨b0, hb0⟩ : ∃ b0, b0 = w.heap.size := ⟨_, rfl⟩
  have hC0 := Cel.new w 25 [.int .i64 p.fr, .int .i64 p.to, .slice x L cx]
  rw [← hb0] at hC0 ⊢
  generalize hw1 : w.alloc (.cells _ _) = w1
  have HC1 := Lib.hid (show Cel w1 b0 25 [.int .i64 p.fr, .int .i64 p.to, .slice x L cx] by rw [← hw1]; exact hC0)
  have HB1 := Lib.hid (show Below w.heap.size w w1 by rw [← hw1]; exact (Below.refl _ _).alloc (Nat.le_refl _) _)
  clear hC0 hw1 hb0
  have p0 : w1.cell? ⟨b0, 0, none⟩ = some (.int .i64 p.fr) := HC1.out.at 0 _ rfl
  have p1 : w1.cell? ⟨b0, 1, none⟩ = some (.int .i64 p.to) := HC1.out.at 1 _ rfl
  have p2 : w1.cell? ⟨b0, 2, none⟩ = some (.slice x L cx) := HC1.out.at 2 _ rfl
  go_wp2_with fail
  refine (HMAY.out _).mono ?_
  rintro e w2 ⟨rfl, hb⟩
  have HB2 := Lib.hid (HB1.out.step hb)
  have HC2 := Lib.hid (HC1.out.step hb)
  clear hb p0 p1 p2 HC1 HB1
  cases hok : okP p with
  | false =>
    have HE := Lib.hid (show sendP ps p = ps by unfold sendP; rw [hok, if_neg (by decide)])
    clear hok
    go_wp2_with fail
    refine (own_any a n c ps w2 (HR.out.below HB2.out) (by omega) HL.out).mono ?_
    rintro e w3 ⟨v, vs, rfl, ho, hb⟩
    obtain ⟨a3, c3, rfl, hk⟩ := ho.pks
    have HK := Lib.hid (show Pks w3 a3 ps.length c3 ps ∧ Below w.heap.size w w3 from ⟨hk, HB2.out.step hb⟩)
    clear ho hb hk
    go_wp2_with fail
    go_ret
    rw [HE.out]
    exact ⟨a3, c3, rfl, HK.out⟩
  | true =>
    have HE := Lib.hid (show sendP ps p = (ps ++ [p]).drop (n + 1 - 64) by unfold sendP; rw [hok, if_pos rfl, HR.out.len])
    have HL2 := Lib.hid (show ∀ i, i < n + 1 → ((ps ++ [p]).getD i noPk).by_.length ≤ 100000 from fun i hi => by
      have hl := HR.out.len
      by_cases e : i < n
      · rw [List.getD_eq_getElem?_getD, List.getElem?_append_left (by omega), ← List.getD_eq_getElem?_getD]; exact HL.out i e
      · obtain rfl : i = n := by omega
        rw [List.getD_eq_getElem?_getD, List.getElem?_append_right (by omega), hl]
        simp only [Nat.sub_self, List.getElem?_cons_zero, Option.getD_some]
        simp only [okP, Bool.and_eq_true, decide_eq_true_eq] at hok
        omega)
    have hs1 : ∀ w', (Instr.slice 22 (.slice a n c) none (some (.int .i64 (n : Int))) (some (.int .i64 (n : Int)))).run Try.prog w' = .ok (.slice a n n) w' := fun w' => by
      rw [run_slice_hm (P := Try.prog) (w := w') 22 a n c (by kernel_rfl) .i64 .i64 (n : Int) (n : Int) (by omega) (Int.le_refl _) (by have := HR.out.le; omega), size_pk]
      show Result.ok (sliced a 0 ((n : Int).toNat) ((n : Int).toNat) 3) w' = _
      unfold sliced
      simp only [Int.toNat_natCast, Nat.sub_zero, Nat.zero_mul]
      cases a with
      | none => simp
      | some y => simp [Addr.add]
    have hs2 : ∀ w', (Instr.sliceAt 22 (.slice a n c) none (some (.int .i64 (n : Int))) (some (.int .i64 (n : Int)))).run Try.prog w' = .ok (.slice a n n) w' := fun w' => by rw [slice_p_at]; exact hs1 w'
    have hn63 : n ≤ 9223372036854775807 := by omega
    clear hok
    go_upto_region 3 with fail
    have hD : ∀ j, j < 11 → ∀ n, n < 11 → j ≠ n → dkN [11, 12, 13, 14, 15, 16, 17, 18, 19, 20, 5] j ≠ dkN [11, 12, 13, 14, 15, 16, 17, 18, 19, 20, 5] n := by decide +kernel
    refine region_fun (by kernel_rfl) (by kernel_rfl) (fun gv => #[.slice a n c, .agg #[.int .i64 p.fr, .int .i64 p.to, .slice x L cx], undef, .pointer (some ⟨b0, 0, none⟩), .slice none 0 0, gv 5, .agg #[.int .i64 p.fr, .int .i64 p.to, .slice x L cx], .bool true, .bool false, gv 9, gv 10, gv 11, gv 12, gv 13, gv 14, gv 15, gv 16, gv 17, gv 18, gv 19, gv 20, gv 21, gv 22, gv 23, gv 24, gv 25, gv 26]) rfl (fun f gv wx => Below w.heap.size w wx ∧ (∀ j, j < 11 → (fun j => Nat.beq j 7 || Nat.beq j 8 || Nat.beq j 9 || Nat.beq j 10) j = false → On f j → gv (dkN [11, 12, 13, 14, 15, 16, 17, 18, 19, 20, 5] j) = vkN [.slice a n c, .slice a n c, .int .i64 (n : Int), .slice a n c, .int .i64 (n : Int), .slice a n n, .agg #[.int .i64 p.fr, .int .i64 p.to, .slice x L cx], undef, undef, undef, undef] j) ∧ ((On f 7 → ∃ b, gv 18 = .slice (some ⟨b, 0, none⟩) 1 1 ∧ Cel wx b 25 [.int .i64 p.fr, .int .i64 p.to, .slice x L cx])) ∧ ((On f 8 → ∃ g cap, gv 19 = .slice (some ⟨g, 0, none⟩) (n + 1) cap ∧ Pks wx (some ⟨g, 0, none⟩) (n + 1) cap (ps ++ [p]))) ∧ ((On f 9 → ∃ v vs, gv 20 = v ∧ OwnPk wx w.heap.size v vs (ps ++ [p]))) ∧ ((On f 10 → ∃ v vs, gv 5 = v ∧ OwnPk wx w.heap.size v vs (ps ++ [p]))) ∧ (Below w2.heap.size w2 wx)) ?_ ?_ ?_
    · have hoff : ∀ j, ¬ On (Array.replicate 11 false) j := by
        intro j hj; simp only [On, Array.getD_eq_getD_getElem?, Array.getElem?_replicate] at hj; split at hj <;> simp at hj
      exact ⟨HB2.out.drew, fun j _ _ x => absurd x (hoff _), fun x => absurd x (hoff _), fun x => absurd x (hoff _), fun x => absurd x (hoff _), fun x => absurd x (hoff _), (Below.refl _ _).drew⟩
    · rintro i' o' f gv wm hio hs' hn he ⟨hBx, P, Q7, Q8, Q9, Q10, hBx2⟩ KK hKK
      have hi' : i' < 11 := (Array.getElem?_eq_some_iff.1 hio).1
      replace hs' : f.size = 11 := hs'
      match i', hi' with
      | 0, _ =>
        cases hio
        have off : ¬ On f 0 := on_off (by omega) hn
        have HQ := Lib.hid (And.intro P (And.intro Q7 (And.intro Q8 (And.intro Q9 (And.intro Q10 hBx2)))))
        clear P Q7 Q8 Q9 Q10 hBx2
        go_simp
        obtain ⟨P, Q7, Q8, Q9, Q10, hBx2⟩ := HQ.out
        have bk : ∀ j, j ≠ 0 → On (f.setIfInBounds 0 true) j → On f j := fun j hj x => on_back (by omega) x hj
        have fw : ∀ j, On f j → On (f.setIfInBounds 0 true) j := fun j x => (on_put (by omega)).2 (.inr x)
        have fn : On (f.setIfInBounds 0 true) 0 := (on_put (by omega)).2 (.inl rfl)
        exact hKK (upd gv 11 (.slice a n c)) _ (by exact ⟨hBx, vals_step (n := 0) (v := .slice a n c) hD (by decide) (by omega) P (fun _ => rfl), fun x => Q7 (bk 7 (by decide) x), fun x => Q8 (bk 8 (by decide) x), fun x => Q9 (bk 9 (by decide) x), fun x => Q10 (bk 10 (by decide) x), hBx2⟩)
      | 1, _ =>
        cases hio
        have off : ¬ On f 1 := on_off (by omega) hn
        have HQ := Lib.hid (And.intro P (And.intro Q7 (And.intro Q8 (And.intro Q9 (And.intro Q10 hBx2)))))
        clear P Q7 Q8 Q9 Q10 hBx2
        go_simp
        obtain ⟨P, Q7, Q8, Q9, Q10, hBx2⟩ := HQ.out
        have bk : ∀ j, j ≠ 1 → On (f.setIfInBounds 1 true) j → On f j := fun j hj x => on_back (by omega) x hj
        have fw : ∀ j, On f j → On (f.setIfInBounds 1 true) j := fun j x => (on_put (by omega)).2 (.inr x)
        have fn : On (f.setIfInBounds 1 true) 1 := (on_put (by omega)).2 (.inl rfl)
        exact hKK (upd gv 12 (.slice a n c)) _ (by exact ⟨hBx, vals_step (n := 1) (v := .slice a n c) hD (by decide) (by omega) P (fun _ => rfl), fun x => Q7 (bk 7 (by decide) x), fun x => Q8 (bk 8 (by decide) x), fun x => Q9 (bk 9 (by decide) x), fun x => Q10 (bk 10 (by decide) x), hBx2⟩)
      | 2, _ =>
        cases hio
        have off : ¬ On f 2 := on_off (by omega) hn
        have h1 : On f 1 := he ⟨1, .data⟩ (by simp) rfl
        have e1 : gv 12 = .slice a n c := P 1 (by decide) rfl h1
        rw [e1]
        have HQ := Lib.hid (And.intro P (And.intro Q7 (And.intro Q8 (And.intro Q9 (And.intro Q10 hBx2)))))
        clear P Q7 Q8 Q9 Q10 hBx2
        go_simp
        obtain ⟨P, Q7, Q8, Q9, Q10, hBx2⟩ := HQ.out
        have bk : ∀ j, j ≠ 2 → On (f.setIfInBounds 2 true) j → On f j := fun j hj x => on_back (by omega) x hj
        have fw : ∀ j, On f j → On (f.setIfInBounds 2 true) j := fun j x => (on_put (by omega)).2 (.inr x)
        have fn : On (f.setIfInBounds 2 true) 2 := (on_put (by omega)).2 (.inl rfl)
        exact hKK (upd (upd gv 12 (.slice a n c)) 13 (.int .i64 (n : Int))) _ (by rw [upd_same e1]; exact ⟨hBx, vals_step (n := 2) (v := .int .i64 (n : Int)) hD (by decide) (by omega) P (fun _ => rfl), fun x => Q7 (bk 7 (by decide) x), fun x => Q8 (bk 8 (by decide) x), fun x => Q9 (bk 9 (by decide) x), fun x => Q10 (bk 10 (by decide) x), hBx2⟩)
      | 3, _ =>
        cases hio
        have off : ¬ On f 3 := on_off (by omega) hn
        have HQ := Lib.hid (And.intro P (And.intro Q7 (And.intro Q8 (And.intro Q9 (And.intro Q10 hBx2)))))
        clear P Q7 Q8 Q9 Q10 hBx2
        go_simp
        obtain ⟨P, Q7, Q8, Q9, Q10, hBx2⟩ := HQ.out
        have bk : ∀ j, j ≠ 3 → On (f.setIfInBounds 3 true) j → On f j := fun j hj x => on_back (by omega) x hj
        have fw : ∀ j, On f j → On (f.setIfInBounds 3 true) j := fun j x => (on_put (by omega)).2 (.inr x)
        have fn : On (f.setIfInBounds 3 true) 3 := (on_put (by omega)).2 (.inl rfl)
        exact hKK (upd gv 14 (.slice a n c)) _ (by exact ⟨hBx, vals_step (n := 3) (v := .slice a n c) hD (by decide) (by omega) P (fun _ => rfl), fun x => Q7 (bk 7 (by decide) x), fun x => Q8 (bk 8 (by decide) x), fun x => Q9 (bk 9 (by decide) x), fun x => Q10 (bk 10 (by decide) x), hBx2⟩)
      | 4, _ =>
        cases hio
        have off : ¬ On f 4 := on_off (by omega) hn
        have h3 : On f 3 := he ⟨3, .data⟩ (by simp) rfl
        have e3 : gv 14 = .slice a n c := P 3 (by decide) rfl h3
        rw [e3]
        have HQ := Lib.hid (And.intro P (And.intro Q7 (And.intro Q8 (And.intro Q9 (And.intro Q10 hBx2)))))
        clear P Q7 Q8 Q9 Q10 hBx2
        go_simp
        obtain ⟨P, Q7, Q8, Q9, Q10, hBx2⟩ := HQ.out
        have bk : ∀ j, j ≠ 4 → On (f.setIfInBounds 4 true) j → On f j := fun j hj x => on_back (by omega) x hj
        have fw : ∀ j, On f j → On (f.setIfInBounds 4 true) j := fun j x => (on_put (by omega)).2 (.inr x)
        have fn : On (f.setIfInBounds 4 true) 4 := (on_put (by omega)).2 (.inl rfl)
        exact hKK (upd (upd gv 14 (.slice a n c)) 15 (.int .i64 (n : Int))) _ (by rw [upd_same e3]; exact ⟨hBx, vals_step (n := 4) (v := .int .i64 (n : Int)) hD (by decide) (by omega) P (fun _ => rfl), fun x => Q7 (bk 7 (by decide) x), fun x => Q8 (bk 8 (by decide) x), fun x => Q9 (bk 9 (by decide) x), fun x => Q10 (bk 10 (by decide) x), hBx2⟩)
      | 5, _ =>
        cases hio
        have off : ¬ On f 5 := on_off (by omega) hn
        have h0 : On f 0 := he ⟨0, .data⟩ (by simp) rfl
        have e0 : gv 11 = .slice a n c := P 0 (by decide) rfl h0
        have h2 : On f 2 := he ⟨2, .data⟩ (by simp) rfl
        have e2 : gv 13 = .int .i64 (n : Int) := P 2 (by decide) rfl h2
        have h4 : On f 4 := he ⟨4, .data⟩ (by simp) rfl
        have e4 : gv 15 = .int .i64 (n : Int) := P 4 (by decide) rfl h4
        rw [e0, e2, e4]
        have HQ := Lib.hid (And.intro P (And.intro Q7 (And.intro Q8 (And.intro Q9 (And.intro Q10 hBx2)))))
        clear P Q7 Q8 Q9 Q10 hBx2
        go_simp
        obtain ⟨P, Q7, Q8, Q9, Q10, hBx2⟩ := HQ.out
        have bk : ∀ j, j ≠ 5 → On (f.setIfInBounds 5 true) j → On f j := fun j hj x => on_back (by omega) x hj
        have fw : ∀ j, On f j → On (f.setIfInBounds 5 true) j := fun j x => (on_put (by omega)).2 (.inr x)
        have fn : On (f.setIfInBounds 5 true) 5 := (on_put (by omega)).2 (.inl rfl)
        exact hKK (upd (upd (upd (upd gv 11 (.slice a n c)) 13 (.int .i64 (n : Int))) 15 (.int .i64 (n : Int))) 16 (.slice a n n)) _ (by rw [upd_same e0]; rw [upd_same e2]; rw [upd_same e4]; exact ⟨hBx, vals_step (n := 5) (v := .slice a n n) hD (by decide) (by omega) P (fun _ => rfl), fun x => Q7 (bk 7 (by decide) x), fun x => Q8 (bk 8 (by decide) x), fun x => Q9 (bk 9 (by decide) x), fun x => Q10 (bk 10 (by decide) x), hBx2⟩)
      | 6, _ =>
        cases hio
        have off : ¬ On f 6 := on_off (by omega) hn
        have d0 : wm.cell? ⟨b0, 0, none⟩ = some (.int .i64 p.fr) := (HC2.out.step hBx2).at 0 _ rfl
        have d1 : wm.cell? ⟨b0, 1, none⟩ = some (.int .i64 p.to) := (HC2.out.step hBx2).at 1 _ rfl
        have d2 : wm.cell? ⟨b0, 2, none⟩ = some (.slice x L cx) := (HC2.out.step hBx2).at 2 _ rfl
        have HQ := Lib.hid (And.intro P (And.intro Q7 (And.intro Q8 (And.intro Q9 (And.intro Q10 hBx2)))))
        clear P Q7 Q8 Q9 Q10 hBx2
        go_simp
        obtain ⟨P, Q7, Q8, Q9, Q10, hBx2⟩ := HQ.out
        have bk : ∀ j, j ≠ 6 → On (f.setIfInBounds 6 true) j → On f j := fun j hj x => on_back (by omega) x hj
        have fw : ∀ j, On f j → On (f.setIfInBounds 6 true) j := fun j x => (on_put (by omega)).2 (.inr x)
        have fn : On (f.setIfInBounds 6 true) 6 := (on_put (by omega)).2 (.inl rfl)
        exact hKK (upd gv 17 (.agg #[.int .i64 p.fr, .int .i64 p.to, .slice x L cx])) _ (by exact ⟨hBx, vals_step (n := 6) (v := .agg #[.int .i64 p.fr, .int .i64 p.to, .slice x L cx]) hD (by decide) (by omega) P (fun _ => rfl), fun x => Q7 (bk 7 (by decide) x), fun x => Q8 (bk 8 (by decide) x), fun x => Q9 (bk 9 (by decide) x), fun x => Q10 (bk 10 (by decide) x), hBx2⟩)
      | 7, _ =>
        cases hio
        have off : ¬ On f 7 := on_off (by omega) hn
        have h6 : On f 6 := he ⟨6, .data⟩ (by simp) rfl
        have e6 : gv 17 = .agg #[.int .i64 p.fr, .int .i64 p.to, .slice x L cx] := P 6 (by decide) rfl h6
        rw [e6]
        have HQ := Lib.hid (And.intro P (And.intro Q7 (And.intro Q8 (And.intro Q9 (And.intro Q10 hBx2)))))
        clear P Q7 Q8 Q9 Q10 hBx2
        go_simp
        obtain ⟨b, hbb⟩ : ∃ b, b = wm.heap.size := ⟨_, rfl⟩
        obtain ⟨w6, hw6⟩ : ∃ w6, w6 = wm.alloc (.cells ([.int .i64 p.fr, .int .i64 p.to, .slice x L cx] : List Value).toArray 25) := ⟨_, rfl⟩
        have hb : Below wm.heap.size wm w6 := by rw [hw6]; exact (Below.refl _ _).alloc (Nat.le_refl _) _
        have hcb : Cel w6 b 25 [.int .i64 p.fr, .int .i64 p.to, .slice x L cx] := by rw [hw6, hbb]; exact Cel.new wm _ _
        show KK ⟨#[_, _, _, _, _, _, _, _, _, _, _, _, _, _, _, _, _, _, .slice (some ⟨wm.heap.size, 0, none⟩) 1 1, _, _, _, _, _, _, _, _], []⟩ (wm.alloc (.cells ([.int .i64 p.fr, .int .i64 p.to, .slice x L cx] : List Value).toArray 25))
        rw [← hbb, ← hw6]
        obtain ⟨P, Q7, Q8, Q9, Q10, hBx2⟩ := HQ.out
        have bk : ∀ j, j ≠ 7 → On (f.setIfInBounds 7 true) j → On f j := fun j hj x => on_back (by omega) x hj
        have fw : ∀ j, On f j → On (f.setIfInBounds 7 true) j := fun j x => (on_put (by omega)).2 (.inr x)
        have fn : On (f.setIfInBounds 7 true) 7 := (on_put (by omega)).2 (.inl rfl)
        exact hKK (upd (upd gv 17 (.agg #[.int .i64 p.fr, .int .i64 p.to, .slice x L cx])) 18 (.slice (some ⟨b, 0, none⟩) 1 1)) _ (by rw [upd_same e6]; exact ⟨hBx.step hb, vals_step (n := 7) (v := .slice (some ⟨b, 0, none⟩) 1 1) hD (by decide) (by omega) P (fun h => nomatch (show true = false from h)), fun _ => ⟨b, rfl, hcb⟩, fun x => by obtain ⟨g8, cap8, e9, hk8⟩ := Q8 (bk 8 (by decide) x); exact ⟨_, _, e9, hk8.below hb⟩, fun x => by obtain ⟨v9, vs9, e9, ho9⟩ := Q9 (bk 9 (by decide) x); exact ⟨_, _, e9, ho9.below hb⟩, fun x => by obtain ⟨v10, vs10, e9, ho10⟩ := Q10 (bk 10 (by decide) x); exact ⟨_, _, e9, ho10.below hb⟩, hBx2.step hb⟩)
      | 8, _ =>
        cases hio
        have off : ¬ On f 8 := on_off (by omega) hn
        have h5 : On f 5 := he ⟨5, .data⟩ (by simp) rfl
        have e5 : gv 16 = .slice a n n := P 5 (by decide) rfl h5
        have h7 : On f 7 := he ⟨7, .data⟩ (by simp) rfl
        obtain ⟨b, e7, hcb⟩ := Q7 h7
        obtain ⟨g8, cap8, w6, hrun8, hk8, hb⟩ := app_grow (p := p) (x := x) (cx := cx) ((HR.out.below HB2.out).below hBx2) (by omega) (by rw [← HX.out.2.2]; exact hcb) (by rw [← HX.out.2.2]; exact ((HX.out.1.below HB2.out).below hBx2)) HX.out.2.1
        rw [e5, e7]
        have HQ := Lib.hid (And.intro P (And.intro Q7 (And.intro Q8 (And.intro Q9 (And.intro Q10 hBx2)))))
        clear P Q7 Q8 Q9 Q10 hBx2
        refine app_run_at (by rfl) (.tmp 16) (.tmp 18) 22 rfl (by rfl) (by rfl) hrun8 ?_
        simp only [Act.put, List.setIfInBounds_toArray]
        obtain ⟨P, Q7, Q8, Q9, Q10, hBx2⟩ := HQ.out
        have bk : ∀ j, j ≠ 8 → On (f.setIfInBounds 8 true) j → On f j := fun j hj x => on_back (by omega) x hj
        have fw : ∀ j, On f j → On (f.setIfInBounds 8 true) j := fun j x => (on_put (by omega)).2 (.inr x)
        have fn : On (f.setIfInBounds 8 true) 8 := (on_put (by omega)).2 (.inl rfl)
        exact hKK (upd (upd (upd gv 16 (.slice a n n)) 18 (.slice (some ⟨b, 0, none⟩) 1 1)) 19 (.slice (some ⟨g8, 0, none⟩) (n + 1) cap8)) _ (by rw [upd_same e5]; rw [upd_same e7]; exact ⟨hBx.step hb, vals_step (n := 8) (v := .slice (some ⟨g8, 0, none⟩) (n + 1) cap8) hD (by decide) (by omega) P (fun h => nomatch (show true = false from h)), fun x => by obtain ⟨b, e9, hcb⟩ := Q7 (bk 7 (by decide) x); exact ⟨_, e9, hcb.step hb⟩, fun _ => ⟨g8, cap8, rfl, hk8⟩, fun x => by obtain ⟨v9, vs9, e9, ho9⟩ := Q9 (bk 9 (by decide) x); exact ⟨_, _, e9, ho9.below hb⟩, fun x => by obtain ⟨v10, vs10, e9, ho10⟩ := Q10 (bk 10 (by decide) x); exact ⟨_, _, e9, ho10.below hb⟩, hBx2.step hb⟩)
      | 9, _ =>
        cases hio
        have off : ¬ On f 9 := on_off (by omega) hn
        have h8 : On f 8 := he ⟨8, .data⟩ (by simp) rfl
        obtain ⟨g8, cap8, e8, hk8⟩ := Q8 h8
        rw [e8]
        have HQ := Lib.hid (And.intro P (And.intro Q7 (And.intro Q8 (And.intro Q9 (And.intro Q10 hBx2)))))
        clear P Q7 Q8 Q9 Q10 hBx2
        go_simp
        refine (own_any (some ⟨g8, 0, none⟩) (n + 1) cap8 (ps ++ [p]) wm hk8 (by omega) HL2.out).mono ?_
        rintro e w6 ⟨v9, vs9, rfl, ho, hb⟩
        have ho9 : OwnPk w6 w.heap.size v9 vs9 (ps ++ [p]) := ⟨ownsRow_mono3 ho.row hBx.size, ho.num, fun i hi => ownsRow_mono (ho.each i hi) hBx.size, ho.apart⟩
        obtain ⟨P, Q7, Q8, Q9, Q10, hBx2⟩ := HQ.out
        have bk : ∀ j, j ≠ 9 → On (f.setIfInBounds 9 true) j → On f j := fun j hj x => on_back (by omega) x hj
        have fw : ∀ j, On f j → On (f.setIfInBounds 9 true) j := fun j x => (on_put (by omega)).2 (.inr x)
        have fn : On (f.setIfInBounds 9 true) 9 := (on_put (by omega)).2 (.inl rfl)
        exact hKK (upd (upd gv 19 (.slice (some ⟨g8, 0, none⟩) (n + 1) cap8)) 20 (v9)) _ (by rw [upd_same e8]; exact ⟨hBx.step hb, vals_step (n := 9) (v := v9) hD (by decide) (by omega) P (fun h => nomatch (show true = false from h)), fun x => by obtain ⟨b, e9, hcb⟩ := Q7 (bk 7 (by decide) x); exact ⟨_, e9, hcb.step hb⟩, fun x => by obtain ⟨g8, cap8, e9, hk8⟩ := Q8 (bk 8 (by decide) x); exact ⟨_, _, e9, hk8.below hb⟩, fun _ => ⟨v9, vs9, rfl, ho9⟩, fun x => by obtain ⟨v10, vs10, e9, ho10⟩ := Q10 (bk 10 (by decide) x); exact ⟨_, _, e9, ho10.below hb⟩, hBx2.step hb⟩)
      | 10, _ =>
        cases hio
        have off : ¬ On f 10 := on_off (by omega) hn
        have h9 : On f 9 := he ⟨9, .data⟩ (by simp) rfl
        obtain ⟨v9, vs9, e9, ho9⟩ := Q9 h9
        rw [e9]
        have HQ := Lib.hid (And.intro P (And.intro Q7 (And.intro Q8 (And.intro Q9 (And.intro Q10 hBx2)))))
        clear P Q7 Q8 Q9 Q10 hBx2
        go_simp
        obtain ⟨P, Q7, Q8, Q9, Q10, hBx2⟩ := HQ.out
        have bk : ∀ j, j ≠ 10 → On (f.setIfInBounds 10 true) j → On f j := fun j hj x => on_back (by omega) x hj
        have fw : ∀ j, On f j → On (f.setIfInBounds 10 true) j := fun j x => (on_put (by omega)).2 (.inr x)
        have fn : On (f.setIfInBounds 10 true) 10 := (on_put (by omega)).2 (.inl rfl)
        exact hKK (upd (upd gv 20 (v9)) 5 (v9)) _ (by rw [upd_same e9]; exact ⟨hBx, vals_step (n := 10) (v := v9) hD (by decide) (by omega) P (fun h => nomatch (show true = false from h)), fun x => Q7 (bk 7 (by decide) x), fun x => Q8 (bk 8 (by decide) x), fun x => Q9 (bk 9 (by decide) x), fun _ => ⟨v9, vs9, rfl, ho9⟩, hBx2⟩)
    · rintro f gv w5 hall hs' ⟨hBx, P, Q7, Q8, Q9, Q10, hBx2⟩
      replace hs' : f.size = 11 := hs'
      have on : ∀ j, j < 11 → On f j := fun j hj => on_all hall hs' j hj
      obtain ⟨v5, vs5, e5, ho5⟩ := Q10 (on 10 (by decide))
      have HB5 := Lib.hid hBx
      obtain ⟨a5, c5, rfl, hk5⟩ := ho5.pks
      have hlen5 : (ps ++ [p]).length = n + 1 := by rw [List.length_append, HR.out.len]; rfl
      rw [hlen5] at hk5
      obtain ⟨k, hk⟩ : ∃ k, k = n + 1 - 64 := ⟨_, rfl⟩
      obtain ⟨a6, hsl, hk6⟩ := hk5.drop k (by omega)
      have HK6 := Lib.hid (show Pks w5 a6 (n + 1 - k) (c5 - k) ((ps ++ [p]).drop k) ∧ ((ps ++ [p]).drop k).length = n + 1 - k ∧ sendP ps p = (ps ++ [p]).drop k from ⟨hk6 _ hk5, by rw [List.length_drop, hlen5], by rw [HE.out, hk]⟩)
      have e6 : ∀ w', (Instr.slice 22 (.slice a5 (n + 1) c5) (some (.int .i64 (k : Int))) none none).run Try.prog w' = .ok (.slice a6 (n + 1 - k) (c5 - k)) w' := fun w' => by rw [slice_pl w' a5 (n + 1) c5 k (by omega), hsl]
      have e7 : ∀ w', (Instr.sliceAt 22 (.slice a5 (n + 1) c5) (some (.int .i64 (k : Int))) none none).run Try.prog w' = .ok (.slice a6 (n + 1 - k) (c5 - k)) w' := fun w' => by rw [slice_p_at]; exact e6 w'
      have hmax : max (0 : Int) ((n : Int) + 1 - 64) = (k : Int) := by omega
      rw [e5, hlen5]
      clear P Q7 Q8 Q9 Q10 hBx2 hBx hall hs' on e5 ho5 hk5 hlen5 hk hsl hk6 hD
      go_wp2_with fail
      go_ret
      rw [HK6.out.2.2]
      exact ⟨a6, c5 - k, by rw [HK6.out.2.1]; rfl, by rw [HK6.out.2.1]; exact HK6.out.1, HB5.out⟩
end Go.Proofs.Ytmeieokembjabaa
