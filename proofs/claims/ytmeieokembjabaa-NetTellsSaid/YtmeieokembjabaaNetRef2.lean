/- The walks of the reference's Send, Pass, Twice of the layer net. -/
import Derived.Test.YtmeieokembjabaaNetRef
namespace Go.Proofs.Ytmeieokembjabaa
open Go.ChangeShapes Go.WideShapes Go.ChangeAt Go.RowKit
set_option linter.unusedVariables false

theorem pkC_append : ∀ (vs : List Value) (ps : List Pk) (us : List Value) (qs : List Pk), vs.length = ps.length → pkC (vs ++ us) (ps ++ qs) = pkC vs ps ++ pkC us qs
  | [], [], us, qs, _ => by simp [pkC]
  | [], _ :: _, _, _, h => by simp at h
  | _ :: _, [], _, _, h => by simp at h
  | x :: vs, y :: ps, us, qs, h => by
    simp only [List.cons_append, pkC]
    rw [pkC_append vs ps us qs (by simpa using h)]
theorem pkC_one : ∀ (vs : List Value) (ps : List Pk), (∀ v ∈ vs, v.oneCell' = true) → ∀ u ∈ pkC vs ps, u.oneCell' = true
  | [], _, _, u, hu => by simp [pkC] at hu
  | _ :: _, [], _, u, hu => by simp [pkC] at hu
  | v :: vs, p :: ps, h, u, hu => by
    simp only [pkC, List.mem_cons] at hu
    rcases hu with rfl | rfl | rfl | hu
    · rfl
    · rfl
    · exact h _ (by simp)
    · exact pkC_one vs ps (fun v hv => h v (by simp [hv])) u hu
theorem Vals.one {w : World} {vs : List Value} {ps : List Pk} (h : Vals w vs ps) : ∀ v ∈ vs, v.oneCell' = true := by
  intro v hv
  obtain ⟨i, hi, rfl⟩ := List.mem_iff_getElem.1 hv
  obtain ⟨a', c', e, _⟩ := h.2 i (by rw [← h.1]; exact hi)
  rw [List.getD_eq_getElem?_getD, List.getElem?_eq_getElem hi] at e
  simp only [Option.getD_some] at e
  rw [e]
  rfl
theorem Vals.append {w : World} {vs us : List Value} {ps qs : List Pk} (h : Vals w vs ps) (k : Vals w us qs) : Vals w (vs ++ us) (ps ++ qs) := by
  refine ⟨by simp [h.1, k.1], fun i hi => ?_⟩
  rw [List.length_append] at hi
  by_cases e : i < ps.length
  · have e1 : (vs ++ us).getD i undef = vs.getD i undef := by rw [List.getD_eq_getElem?_getD, List.getElem?_append_left (by rw [h.1]; exact e), ← List.getD_eq_getElem?_getD]
    have e2 : (ps ++ qs).getD i noPk = ps.getD i noPk := by rw [List.getD_eq_getElem?_getD, List.getElem?_append_left e, ← List.getD_eq_getElem?_getD]
    rw [e1, e2]; exact h.2 i e
  · have e1 : (vs ++ us).getD i undef = us.getD (i - ps.length) undef := by rw [List.getD_eq_getElem?_getD, List.getElem?_append_right (by rw [h.1]; omega), h.1, ← List.getD_eq_getElem?_getD]
    have e2 : (ps ++ qs).getD i noPk = qs.getD (i - ps.length) noPk := by rw [List.getD_eq_getElem?_getD, List.getElem?_append_right (by omega), ← List.getD_eq_getElem?_getD]
    rw [e1, e2]; exact k.2 _ (by omega)
/-- A row of packets of the call's own, from block base on; their bytes are read, as they were at the world w0. -/
def Pko (w0 : World) (base : Nat) (w : World) (v : Value) (ps : List Pk) : Prop := ∃ vs, Vals w0 vs ps ∧ w.ownsRow base 25 3 v ps.length (pkC vs ps)
theorem Pko.nil (w0 : World) (base : Nat) (w : World) : Pko w0 base w (.slice none 0 0) [] := ⟨[], ⟨rfl, fun i hi => by simp at hi⟩, World.ownsRow_nil _ _ _ _⟩
theorem Pko.below {w0 w w' : World} {base : Nat} {v : Value} {ps : List Pk} (h : Pko w0 base w v ps) (hb : Below w.heap.size w w') : Pko w0 base w' v ps := by
  obtain ⟨vs, h1, h2⟩ := h
  exact ⟨vs, h1, ownsRow_low h2 fun k hk => hb.block k (h2.lt k hk).2⟩
theorem Pko.only {w0 w w' : World} {base : Nat} {v : Value} {ps : List Pk} {b : Nat} (h : Pko w0 base w v ps) (hb : Only w w' b) (hlt : b < base) : Pko w0 base w' v ps := by
  obtain ⟨vs, h1, h2⟩ := h
  exact ⟨vs, h1, ownsRow_low h2 fun k hk => hb.block k (by have := (h2.lt k hk).1; omega)⟩
theorem Pko.pks {w0 w : World} {base : Nat} {v : Value} {ps : List Pk} (h : Pko w0 base w v ps) (hb : Below w0.heap.size w0 w) : ∃ a c, v = .slice a ps.length c ∧ Pks w a ps.length c ps := by
  obtain ⟨vs, h1, h2⟩ := h
  exact Pks.of_row h2 (h1.below hb)
theorem Pko.lo {w0 w : World} {base : Nat} {v : Value} {ps : List Pk} (h : Pko w0 base w v ps) : ∀ k, v.ownBlock = some k → base ≤ k ∧ k < w.heap.size := by
  obtain ⟨vs, h1, h2⟩ := h
  exact fun k hk => h2.lt k hk
theorem Cel.grown {w w' : World} {b : Nat} {t : TypeId} {vs : List Value} {row : Option Nat} (h : Cel w b t vs) (hg : w.grownBy w' row) (hne : ∀ k, row = some k → b < k) : Cel w' b t vs := by
  obtain ⟨_, _, _, _, h5⟩ := hg
  exact (h5 b h.lt (by
    intro e
    have := hne b e.symm
    omega)).trans h
/-- 'append(v, qs...)', v the call's own. -/
theorem Pko.app {w0 w : World} {base : Nat} {v : Value} {ps qs : List Pk} (h : Pko w0 base w v ps) (hb : base ≤ w.heap.size) {a : Option Addr} {m c : Nat} (hq : Pks w a m c qs) {us : List Value} (hu : Vals w0 us qs) (hcell : ∀ x, a = some x → ∀ j u, (pkC us qs)[j]? = some u → w.cell? (x.add j) = some u) (hn : ps.length + m ≤ 10000) :
    ∃ v' w', (Builtin.append_ #[22, 22] 22 #[v, .slice a m c]).run Try.prog w = .ok v' w' ∧ Pko w0 base w' v' (ps ++ qs) ∧ w.grownBy w' v.ownBlock := by
  obtain ⟨i0, hi, hz0, hz1, hz2⟩ := info_parts info_pk
  obtain ⟨vs, h1, h2⟩ := h
  cases a with
  | none =>
    obtain rfl := hq.non rfl
    obtain rfl : m = 0 := by have := hq.le; omega
    have : qs = [] := List.eq_nil_of_length_eq_zero hq.len
    subst this
    exact ⟨v, w, run_append_owned_none (P := Try.prog) w base 22 22 25 i0 3 Try.underlying22 hi v _ _ h2, by rw [List.append_nil]; exact ⟨vs, h1, h2⟩, ⟨rfl, rfl, rfl, Nat.le_refl _, fun _ _ _ => rfl⟩⟩
  | some x =>
    obtain ⟨v', w', g1, g2, g3, _⟩ := run_append_own (P := Try.prog) w base 22 22 25 i0 _ 3 40 Try.underlying22 hi hz0 hz1 hz2 rfl (by decide) v ps.length _ h2 x m c (pkC us qs) (by rw [pkC_length _ _ hu.1, hq.len]) (hcell x rfl) (pkC_one us qs hu.one) (by unfold maxLen; omega) (by omega) hb
    refine ⟨v', w', g1, ⟨vs ++ us, h1.append hu, ?_⟩, g3⟩
    rw [pkC_append vs ps us qs h1.1, List.length_append, hq.len]
    exact g2
def lenOf : Value → Nat
  | .slice _ n _ => n
  | _ => 0

set_option maxRecDepth 100000 in
set_option maxHeartbeats 2000000 in
theorem send_ref (a : Option Addr) (n c : Nat) (ps : List Pk) (p : Pk) (x : Option Addr) (cx : Nat) (w : World) (hr : Pks w a n c ps) (hn : n ≤ 500) (hp : Rd w x p.by_.length cx p.by_) (hx : x = none → cx = 0) :
    Calls Try.prog 13 #[.slice a n c, .agg #[.int .i64 p.fr, .int .i64 p.to, .slice x p.by_.length cx]] w (PksR (sendP ps p) w) := by
  obtain ⟨L, hLL⟩ : ∃ L, L = p.by_.length := ⟨_, rfl⟩
  have hL63 : L ≤ 9223372036854775807 := by rw [hLL]; exact Nat.le_trans hp.le hp.cap
  have HMAY := Lib.hid (fun w' => may_ref p x cx w' (by rw [← hLL]; exact hL63))
  have HR := Lib.hid hr
  have HX := Lib.hid (show Rd w x L cx p.by_ ∧ (x = none → cx = 0) ∧ L = p.by_.length from ⟨by rw [hLL]; exact hp, hx, hLL⟩)
  rw [← hLL] at HMAY ⊢
  clear hr hp hx hLL
  go_enter Try.func13, Try.ntmps13
  go_upto_region 1 with fail
  obtain ⟨b0, hb0⟩ : ∃ b0, b0 = w.heap.size := ⟨_, rfl⟩
  have hC0 := Cel.new w 25 [.int .i64 p.fr, .int .i64 p.to, .slice x L cx]
  rw [← hb0] at hC0 ⊢
  generalize hw1 : w.alloc (.cells _ _) = w1
  have HC1 := Lib.hid (show Cel w1 b0 25 [.int .i64 p.fr, .int .i64 p.to, .slice x L cx] by rw [← hw1]; exact hC0)
  have HB1 := Lib.hid (show Below w.heap.size w w1 by rw [← hw1]; exact (Below.refl _ _).alloc (Nat.le_refl _) _)
  clear hC0 hw1 hb0
  have p0 : w1.cell? ⟨b0, 0, none⟩ = some (.int .i64 p.fr) := HC1.out.at 0 _ rfl
  have p1 : w1.cell? ⟨b0, 1, none⟩ = some (.int .i64 p.to) := HC1.out.at 1 _ rfl
  have p2 : w1.cell? ⟨b0, 2, none⟩ = some (.slice x L cx) := HC1.out.at 2 _ rfl
  go_wp2_with fail
  refine (HMAY.out _).mono ?_
  rintro e w2 ⟨rfl, hb⟩
  have HB2 := Lib.hid (HB1.out.step hb)
  have HC2 := Lib.hid (HC1.out.step hb)
  clear hb p0 p1 p2 HC1 HB1
  cases hok : okP p with
  | false =>
    have HE := Lib.hid (show sendP ps p = ps by unfold sendP; rw [hok, if_neg (by decide)])
    have HLN := Lib.hid HR.out.len
    clear hok
    go_wp2_with fail
    go_ret
    rw [HE.out]
    exact ⟨a, c, by rw [HLN.out] <;> rfl, by rw [HLN.out]; exact HR.out.below HB2.out, HB2.out⟩
  | true =>
    have HE := Lib.hid (show sendP ps p = (ps ++ [p]).drop (n + 1 - 64) by unfold sendP; rw [hok, if_pos rfl, HR.out.len])
    have HLN := Lib.hid (show (ps ++ [p]).length = n + 1 by rw [List.length_append, HR.out.len]; rfl)
    obtain ⟨us, hus, huc⟩ := (HR.out.below HB2.out).vals
    have HU := Lib.hid (And.intro hus huc)
    clear hok hus huc
    go_upto_region 4 with fail
    have hD : ∀ j, j < 6 → ∀ n, n < 6 → j ≠ n → dkN [12, 13, 14, 15, 16, 6] j ≠ dkN [12, 13, 14, 15, 16, 6] n := by decide +kernel
    refine region_fun (by kernel_rfl) (by kernel_rfl) (fun gv => #[.slice a n c, .agg #[.int .i64 p.fr, .int .i64 p.to, .slice x L cx], undef, .pointer (some ⟨b0, 0, none⟩), .slice none 0 0, .bool true, gv 6, .agg #[.int .i64 p.fr, .int .i64 p.to, .slice x L cx], .bool true, .bool true, .bool false, gv 11, gv 12, gv 13, gv 14, gv 15, gv 16, gv 17, gv 18, gv 19, gv 20, gv 21, gv 22]) rfl (fun f gv wx => Below w2.heap.size w2 wx ∧ (∀ j, j < 6 → (fun j => Nat.beq j 1 || Nat.beq j 3 || Nat.beq j 4 || Nat.beq j 5) j = false → On f j → gv (dkN [12, 13, 14, 15, 16, 6] j) = vkN [.slice a n c, undef, .agg #[.int .i64 p.fr, .int .i64 p.to, .slice x L cx], undef, undef, undef] j) ∧ ((On f 1 → ∃ v, gv 13 = v ∧ (On f 4 ∨ Pko w2 w2.heap.size wx v ps))) ∧ ((On f 3 → ∃ b, gv 15 = .slice (some ⟨b, 0, none⟩) 1 1 ∧ (On f 4 ∨ Cel wx b 25 [.int .i64 p.fr, .int .i64 p.to, .slice x L cx]))) ∧ ((On f 4 → ∃ v, gv 16 = v ∧ Pko w2 w2.heap.size wx v (ps ++ [p]))) ∧ ((On f 5 → ∃ v, gv 6 = v ∧ (On f 4 ∧ Pko w2 w2.heap.size wx v (ps ++ [p]))))) ?_ ?_ ?_
    · have hoff : ∀ j, ¬ On (Array.replicate 6 false) j := by
        intro j hj; simp only [On, Array.getD_eq_getD_getElem?, Array.getElem?_replicate] at hj; split at hj <;> simp at hj
      exact ⟨(Below.refl _ _).drew, fun j _ _ x => absurd x (hoff _), fun x => absurd x (hoff _), fun x => absurd x (hoff _), fun x => absurd x (hoff _), fun x => absurd x (hoff _)⟩
    · rintro i' o' f gv wm hio hs' hn he ⟨hBx, P, Q1, Q3, Q4, Q5⟩ KK hKK
      have hi' : i' < 6 := (Array.getElem?_eq_some_iff.1 hio).1
      replace hs' : f.size = 6 := hs'
      match i', hi' with
      | 0, _ =>
        cases hio
        have off : ¬ On f 0 := on_off (by omega) hn
        have HQ := Lib.hid (And.intro P (And.intro Q1 (And.intro Q3 (And.intro Q4 Q5))))
        clear P Q1 Q3 Q4 Q5
        go_simp
        obtain ⟨P, Q1, Q3, Q4, Q5⟩ := HQ.out
        have bk : ∀ j, j ≠ 0 → On (f.setIfInBounds 0 true) j → On f j := fun j hj x => on_back (by omega) x hj
        have fw : ∀ j, On f j → On (f.setIfInBounds 0 true) j := fun j x => (on_put (by omega)).2 (.inr x)
        have fn : On (f.setIfInBounds 0 true) 0 := (on_put (by omega)).2 (.inl rfl)
        exact hKK (upd gv 12 (.slice a n c)) _ (by exact ⟨hBx, vals_step (n := 0) (v := .slice a n c) hD (by decide) (by omega) P (fun _ => rfl), fun x => by obtain ⟨v1, e9, h1r⟩ := Q1 (bk 1 (by decide) x); exact ⟨_, e9, h1r.imp (fw 4) id⟩, fun x => by obtain ⟨b, e9, h3r⟩ := Q3 (bk 3 (by decide) x); exact ⟨_, e9, h3r.imp (fw 4) id⟩, fun x => Q4 (bk 4 (by decide) x), fun x => by obtain ⟨v5, e9, h5a, ho5⟩ := Q5 (bk 5 (by decide) x); exact ⟨_, e9, fw 4 h5a, ho5⟩⟩)
      | 1, _ =>
        cases hio
        have off : ¬ On f 1 := on_off (by omega) hn
        have h0 : On f 0 := he ⟨0, .data⟩ (by simp) rfl
        have e0 : gv 12 = .slice a n c := P 0 (by decide) rfl h0
        obtain ⟨v6, w6, hrun, hk6, hg⟩ := (Pko.nil w2 w2.heap.size wm).app hBx.size ((HR.out.below HB2.out).below hBx) HU.out.1 (fun x hx j u hu => carry_cell (HU.out.2 x hx j u hu) hBx) (by show 0 + n ≤ _; omega)
        have hb : Below wm.heap.size wm w6 := (Below.refl _ wm).grown hg (Nat.le_refl _) (fun k hk => by cases hk)
        rw [e0]
        have HQ := Lib.hid (And.intro P (And.intro Q1 (And.intro Q3 (And.intro Q4 Q5))))
        clear P Q1 Q3 Q4 Q5
        refine app_run_at (by rfl) (.const (.slice none 0 0)) (.tmp 12) 22 rfl (by rfl) (by rfl) hrun ?_
        simp only [Act.put, List.setIfInBounds_toArray]
        obtain ⟨P, Q1, Q3, Q4, Q5⟩ := HQ.out
        have bk : ∀ j, j ≠ 1 → On (f.setIfInBounds 1 true) j → On f j := fun j hj x => on_back (by omega) x hj
        have fw : ∀ j, On f j → On (f.setIfInBounds 1 true) j := fun j x => (on_put (by omega)).2 (.inr x)
        have fn : On (f.setIfInBounds 1 true) 1 := (on_put (by omega)).2 (.inl rfl)
        exact hKK (upd (upd gv 12 (.slice a n c)) 13 (v6)) _ (by rw [upd_same e0]; exact ⟨hBx.step hb, vals_step (n := 1) (v := v6) hD (by decide) (by omega) P (fun h => nomatch (show true = false from h)), fun _ => ⟨v6, rfl, .inr hk6⟩, fun x => by obtain ⟨b, e9, h3r⟩ := Q3 (bk 3 (by decide) x); exact ⟨_, e9, h3r.imp (fw 4) (fun h => h.step hb)⟩, fun x => by obtain ⟨v4, e9, ho4⟩ := Q4 (bk 4 (by decide) x); exact ⟨_, e9, ho4.below hb⟩, fun x => by obtain ⟨v5, e9, h5a, ho5⟩ := Q5 (bk 5 (by decide) x); exact ⟨_, e9, fw 4 h5a, ho5.below hb⟩⟩)
      | 2, _ =>
        cases hio
        have off : ¬ On f 2 := on_off (by omega) hn
        have d0 : wm.cell? ⟨b0, 0, none⟩ = some (.int .i64 p.fr) := (HC2.out.step hBx).at 0 _ rfl
        have d1 : wm.cell? ⟨b0, 1, none⟩ = some (.int .i64 p.to) := (HC2.out.step hBx).at 1 _ rfl
        have d2 : wm.cell? ⟨b0, 2, none⟩ = some (.slice x L cx) := (HC2.out.step hBx).at 2 _ rfl
        have HQ := Lib.hid (And.intro P (And.intro Q1 (And.intro Q3 (And.intro Q4 Q5))))
        clear P Q1 Q3 Q4 Q5
        go_simp
        obtain ⟨P, Q1, Q3, Q4, Q5⟩ := HQ.out
        have bk : ∀ j, j ≠ 2 → On (f.setIfInBounds 2 true) j → On f j := fun j hj x => on_back (by omega) x hj
        have fw : ∀ j, On f j → On (f.setIfInBounds 2 true) j := fun j x => (on_put (by omega)).2 (.inr x)
        have fn : On (f.setIfInBounds 2 true) 2 := (on_put (by omega)).2 (.inl rfl)
        exact hKK (upd gv 14 (.agg #[.int .i64 p.fr, .int .i64 p.to, .slice x L cx])) _ (by exact ⟨hBx, vals_step (n := 2) (v := .agg #[.int .i64 p.fr, .int .i64 p.to, .slice x L cx]) hD (by decide) (by omega) P (fun _ => rfl), fun x => by obtain ⟨v1, e9, h1r⟩ := Q1 (bk 1 (by decide) x); exact ⟨_, e9, h1r.imp (fw 4) id⟩, fun x => by obtain ⟨b, e9, h3r⟩ := Q3 (bk 3 (by decide) x); exact ⟨_, e9, h3r.imp (fw 4) id⟩, fun x => Q4 (bk 4 (by decide) x), fun x => by obtain ⟨v5, e9, h5a, ho5⟩ := Q5 (bk 5 (by decide) x); exact ⟨_, e9, fw 4 h5a, ho5⟩⟩)
      | 3, _ =>
        cases hio
        have off : ¬ On f 3 := on_off (by omega) hn
        have h2 : On f 2 := he ⟨2, .data⟩ (by simp) rfl
        have e2 : gv 14 = .agg #[.int .i64 p.fr, .int .i64 p.to, .slice x L cx] := P 2 (by decide) rfl h2
        rw [e2]
        have HQ := Lib.hid (And.intro P (And.intro Q1 (And.intro Q3 (And.intro Q4 Q5))))
        clear P Q1 Q3 Q4 Q5
        go_simp
        obtain ⟨b, hbb⟩ : ∃ b, b = wm.heap.size := ⟨_, rfl⟩
        obtain ⟨w6, hw6⟩ : ∃ w6, w6 = wm.alloc (.cells ([.int .i64 p.fr, .int .i64 p.to, .slice x L cx] : List Value).toArray 25) := ⟨_, rfl⟩
        have hb : Below wm.heap.size wm w6 := by rw [hw6]; exact (Below.refl _ _).alloc (Nat.le_refl _) _
        have hcb : Cel w6 b 25 [.int .i64 p.fr, .int .i64 p.to, .slice x L cx] := by rw [hw6, hbb]; exact Cel.new wm _ _
        show KK ⟨#[_, _, _, _, _, _, _, _, _, _, _, _, _, _, _, .slice (some ⟨wm.heap.size, 0, none⟩) 1 1, _, _, _, _, _, _, _], []⟩ (wm.alloc (.cells ([.int .i64 p.fr, .int .i64 p.to, .slice x L cx] : List Value).toArray 25))
        rw [← hbb, ← hw6]
        obtain ⟨P, Q1, Q3, Q4, Q5⟩ := HQ.out
        have bk : ∀ j, j ≠ 3 → On (f.setIfInBounds 3 true) j → On f j := fun j hj x => on_back (by omega) x hj
        have fw : ∀ j, On f j → On (f.setIfInBounds 3 true) j := fun j x => (on_put (by omega)).2 (.inr x)
        have fn : On (f.setIfInBounds 3 true) 3 := (on_put (by omega)).2 (.inl rfl)
        exact hKK (upd (upd gv 14 (.agg #[.int .i64 p.fr, .int .i64 p.to, .slice x L cx])) 15 (.slice (some ⟨b, 0, none⟩) 1 1)) _ (by rw [upd_same e2]; exact ⟨hBx.step hb, vals_step (n := 3) (v := .slice (some ⟨b, 0, none⟩) 1 1) hD (by decide) (by omega) P (fun h => nomatch (show true = false from h)), fun x => by obtain ⟨v1, e9, h1r⟩ := Q1 (bk 1 (by decide) x); exact ⟨_, e9, h1r.imp (fw 4) (fun h => h.below hb)⟩, fun _ => ⟨b, rfl, .inr hcb⟩, fun x => by obtain ⟨v4, e9, ho4⟩ := Q4 (bk 4 (by decide) x); exact ⟨_, e9, ho4.below hb⟩, fun x => by obtain ⟨v5, e9, h5a, ho5⟩ := Q5 (bk 5 (by decide) x); exact ⟨_, e9, fw 4 h5a, ho5.below hb⟩⟩)
      | 4, _ =>
        cases hio
        have off : ¬ On f 4 := on_off (by omega) hn
        have h1 : On f 1 := he ⟨1, .data⟩ (by simp) rfl
        obtain ⟨v1, e1, h1r⟩ := Q1 h1
        have h3 : On f 3 := he ⟨3, .data⟩ (by simp) rfl
        obtain ⟨b, e3, h3r⟩ := Q3 h3
        have hk1 := h1r.resolve_left off
        have hc3 := h3r.resolve_left off
        have hX2 := (HX.out.1.below HB2.out)
        have hv1 : Vals w2 [.slice x L cx] [p] := by rw [HX.out.2.2]; exact Vals.snoc (vs := []) (ps := []) ⟨rfl, fun i hi => by simp at hi⟩ (by rw [← HX.out.2.2]; exact hX2) HX.out.2.1
        have hq1 : Pks wm (some ⟨b, 0, none⟩) 1 1 [p] := Pks.one (by rw [← HX.out.2.2]; exact hc3) (by rw [← HX.out.2.2]; exact hX2.below hBx) HX.out.2.1
        obtain ⟨v6, w6, hrun, hk6, hg⟩ := hk1.app hBx.size hq1 hv1 (fun y hy j u hu => by
          cases hy
          have hadd : (⟨b, 0, none⟩ : Addr).add j = ⟨b, j, none⟩ := by unfold Addr.add; split <;> simp_all
          rw [hadd]; exact hc3.at j u hu) (by have := HR.out.len; omega)
        have hb6 : Below w2.heap.size w2 w6 := hBx.grown hg hBx.size (fun k hk => (hk1.lo k hk).1)
        rw [e1, e3]
        have HQ := Lib.hid (And.intro P (And.intro Q1 (And.intro Q3 (And.intro Q4 Q5))))
        clear P Q1 Q3 Q4 Q5
        refine app_run_at (by rfl) (.tmp 13) (.tmp 15) 22 rfl (by rfl) (by rfl) hrun ?_
        simp only [Act.put, List.setIfInBounds_toArray]
        obtain ⟨P, Q1, Q3, Q4, Q5⟩ := HQ.out
        have bk : ∀ j, j ≠ 4 → On (f.setIfInBounds 4 true) j → On f j := fun j hj x => on_back (by omega) x hj
        have fw : ∀ j, On f j → On (f.setIfInBounds 4 true) j := fun j x => (on_put (by omega)).2 (.inr x)
        have fn : On (f.setIfInBounds 4 true) 4 := (on_put (by omega)).2 (.inl rfl)
        exact hKK (upd (upd (upd gv 13 (v1)) 15 (.slice (some ⟨b, 0, none⟩) 1 1)) 16 (v6)) _ (by rw [upd_same e1]; rw [upd_same e3]; exact ⟨hb6, vals_step (n := 4) (v := v6) hD (by decide) (by omega) P (fun h => nomatch (show true = false from h)), fun x => by obtain ⟨v1, e9, h1r⟩ := Q1 (bk 1 (by decide) x); exact ⟨_, e9, .inl fn⟩, fun x => by obtain ⟨b, e9, h3r⟩ := Q3 (bk 3 (by decide) x); exact ⟨_, e9, .inl fn⟩, fun _ => ⟨v6, rfl, hk6⟩, fun x => by obtain ⟨v5, e9, h5a, _⟩ := Q5 (bk 5 (by decide) x); exact absurd h5a off⟩)
      | 5, _ =>
        cases hio
        have off : ¬ On f 5 := on_off (by omega) hn
        have h4 : On f 4 := he ⟨4, .data⟩ (by simp) rfl
        obtain ⟨v4, e4, ho4⟩ := Q4 h4
        rw [e4]
        have HQ := Lib.hid (And.intro P (And.intro Q1 (And.intro Q3 (And.intro Q4 Q5))))
        clear P Q1 Q3 Q4 Q5
        go_simp
        obtain ⟨P, Q1, Q3, Q4, Q5⟩ := HQ.out
        have bk : ∀ j, j ≠ 5 → On (f.setIfInBounds 5 true) j → On f j := fun j hj x => on_back (by omega) x hj
        have fw : ∀ j, On f j → On (f.setIfInBounds 5 true) j := fun j x => (on_put (by omega)).2 (.inr x)
        have fn : On (f.setIfInBounds 5 true) 5 := (on_put (by omega)).2 (.inl rfl)
        exact hKK (upd (upd gv 16 (v4)) 6 (v4)) _ (by rw [upd_same e4]; exact ⟨hBx, vals_step (n := 5) (v := v4) hD (by decide) (by omega) P (fun h => nomatch (show true = false from h)), fun x => by obtain ⟨v1, e9, h1r⟩ := Q1 (bk 1 (by decide) x); exact ⟨_, e9, h1r.imp (fw 4) id⟩, fun x => by obtain ⟨b, e9, h3r⟩ := Q3 (bk 3 (by decide) x); exact ⟨_, e9, h3r.imp (fw 4) id⟩, fun x => Q4 (bk 4 (by decide) x), fun _ => ⟨v4, rfl, fw 4 h4, ho4⟩⟩)
    · rintro f gv w5 hall hs' ⟨hBx, P, Q1, Q3, Q4, Q5⟩
      replace hs' : f.size = 6 := hs'
      have on : ∀ j, j < 6 → On f j := fun j hj => on_all hall hs' j hj
      obtain ⟨v5, e5, _, ho5⟩ := Q5 (on 5 (by decide))
      obtain ⟨a5, c5, rfl, hk5⟩ := ho5.pks hBx
      have HB5 := Lib.hid (HB2.out.step hBx)
      rw [HLN.out] at hk5 e5
      have HK5 := Lib.hid hk5
      rw [e5]
      clear P Q1 Q3 Q4 Q5 hBx hall hs' on e5 ho5 hk5 hD
      go_wp2_with fail
      go_loop [6] (fun v6 => ∃ (k : Nat) (a' : Option Addr) (c' : Nat), k ≤ n + 1 - 64 ∧ v6 = .slice a' (n + 1 - k) c' ∧ Hid (Pks w5 a' (n + 1 - k) c' ((ps ++ [p]).drop k))) (fun v6 => lenOf v6)
      case atStart => exact ⟨0, a5, c5, Nat.zero_le _, rfl, Lib.hid (by rw [List.drop_zero]; exact HK5.out)⟩
      case round =>
        obtain ⟨k, a', c', hk, rfl, hK⟩ := hrel
        by_cases hlt : 64 < n + 1 - k
        · have ht : ((n + 1 - k : Nat) : Int) > 64 := by omega
          obtain ⟨a6, h1, h2, h3⟩ := hK.out.l 1 (n + 1 - (k + 1)) (by omega)
          have HK6 := Lib.hid (show Pks w5 a6 (n + 1 - (k + 1)) (c' - 1) ((ps ++ [p]).drop (k + 1)) by
            have := h3 _ hK.out
            rwa [List.drop_drop] at this)
          have h1' : ∀ w', (Instr.sliceAt 22 (.slice a' (n + 1 - k) c') (some (.int .i64 1)) none none).run Try.prog w' = .ok (.slice a6 (n + 1 - (k + 1)) (c' - 1)) w' := h1
          have h2' : ∀ w', (Instr.slice 22 (.slice a' (n + 1 - k) c') (some (.int .i64 1)) none none).run Try.prog w' = .ok (.slice a6 (n + 1 - (k + 1)) (c' - 1)) w' := h2
          clear h1 h2 h3
          go_wp2_with fail
          refine ⟨⟨k + 1, a6, c' - 1, by omega, by rw [Nat.add_sub_add_right] <;> rfl, HK6⟩, ?_⟩
          simp [lenOf]; omega
        · have ht : ¬ ((n + 1 - k : Nat) : Int) > 64 := by omega
          have HK6 := Lib.hid (show sendP ps p = (ps ++ [p]).drop k ∧ ((ps ++ [p]).drop k).length = n + 1 - k from ⟨by rw [HE.out, show n + 1 - 64 = k by omega], by rw [List.length_drop, HLN.out]⟩)
          go_wp2_with fail
          go_ret
          rw [HK6.out.1]
          exact ⟨a', c', by rw [HK6.out.2] <;> rfl, by rw [HK6.out.2]; exact hK.out, HB5.out⟩

set_option maxRecDepth 100000 in
set_option maxHeartbeats 2000000 in
theorem pass_ref (a : Option Addr) (n c : Nat) (ps : List Pk) (i : Int) (w : World) (hr : Pks w a n c ps) (hn : n ≤ 500) :
    Calls Try.prog 15 #[.slice a n c, .int .i64 i] w (PassP ps i w) := by
  have HR := Lib.hid hr
  have HLN := Lib.hid hr.len
  clear hr
  go_enter Try.func15, Try.ntmps15
  go_upto_region 1 with fail
  obtain ⟨b4, hb4⟩ : ∃ b4, b4 = w.heap.size := ⟨_, rfl⟩
  have hC0 := Cel.new w 25 [.int .i64 0, .int .i64 0, .slice none 0 0]
  rw [← hb4] at hC0 ⊢
  generalize hw1 : w.alloc (.cells _ _) = w1
  have HC1 := Lib.hid (show Cel w1 b4 25 [.int .i64 0, .int .i64 0, .slice none 0 0] by rw [← hw1]; exact hC0)
  have HB1 := Lib.hid (show Below w.heap.size w w1 by rw [← hw1]; exact (Below.refl _ _).alloc (Nat.le_refl _) _)
  have HLO := Lib.hid (show w.heap.size ≤ b4 from Nat.le_of_eq hb4.symm)
  clear hC0 hw1 hb4
  by_cases hi : 0 ≤ i ∧ i < (n : Int)
  case neg =>
    have HH := Lib.hid (show hasP ps i = false by unfold hasP; rw [HLN.out]; simp only [Bool.and_eq_false_iff, decide_eq_false_iff_not]; omega)
    have HF := Lib.hid (show PassP ps i w (.returned (.tuple #[.agg #[.int .i64 0, .int .i64 0, .slice none 0 0], .slice a n c, .bool false])) w1 → True from fun _ => trivial)
    have p0 : w1.cell? ⟨b4, 0, none⟩ = some (.int .i64 0) := HC1.out.at 0 _ rfl
    have p1 : w1.cell? ⟨b4, 1, none⟩ = some (.int .i64 0) := HC1.out.at 1 _ rfl
    have p2 : w1.cell? ⟨b4, 2, none⟩ = some (.slice none 0 0) := HC1.out.at 2 _ rfl
    have f0 : w1.frozen? ⟨b4, 0, none⟩ = false := HC1.out.free 0
    have f1 : w1.frozen? ⟨b4, 1, none⟩ = false := HC1.out.free 1
    have f2 : w1.frozen? ⟨b4, 2, none⟩ = false := HC1.out.free 2
    have fin : ∀ wF, Only w1 wF b4 → PassP ps i w (.returned (.tuple #[.agg #[.int .i64 0, .int .i64 0, .slice none 0 0], .slice a n c, .bool false])) wF := fun wF ho => by
      have hb := ho.below HB1.out HLO.out
      unfold PassP outP passP
      rw [HH.out, if_neg (by decide), if_neg (by decide)]
      exact ⟨none, 0, a, c, by rw [HLN.out]; rfl, Rd.zero _ _ _ (by decide), fun _ => rfl, by rw [HLN.out]; exact HR.out.below hb, hb⟩
    have HFIN := Lib.hid fin
    clear fin HF
    by_cases h0 : i < 0
    · clear hi
      go_wp2_with fail
      generalize hwF : World.setCell (World.setCell (World.setCell w1 _ _) _ _) _ _ = wF
      have hoF : Only w1 wF b4 := by rw [← hwF]; exact ((only_set _ _ _ _).trans (only_set _ _ _ _)).trans (only_set _ _ _ _)
      have HCF := Lib.hid (show Cel wF b4 25 [.int .i64 0, .int .i64 0, .slice none 0 0] by rw [← hwF]; exact ((HC1.out.set 0 _).set 1 _).set 2 _)
      refine bodyPost_ret (v := .tuple #[.agg #[.int .i64 0, .int .i64 0, .slice none 0 0], .slice a n c, .bool false]) ?_ rfl (HFIN.out wF hoF)
      have hl := run_loadVar_mid (P := Try.prog) wF b4 0 25 _ _ HCF.out.range Try.underlying25 rfl (by kernel_rfl)
      simp [results, Try.results15, asAddr, hl, Result.andThen]
    · have h1 : i ≥ (n : Int) := by omega
      clear hi
      go_wp2_with fail
      generalize hwF : World.setCell (World.setCell (World.setCell w1 _ _) _ _) _ _ = wF
      have hoF : Only w1 wF b4 := by rw [← hwF]; exact ((only_set _ _ _ _).trans (only_set _ _ _ _)).trans (only_set _ _ _ _)
      have HCF := Lib.hid (show Cel wF b4 25 [.int .i64 0, .int .i64 0, .slice none 0 0] by rw [← hwF]; exact ((HC1.out.set 0 _).set 1 _).set 2 _)
      refine bodyPost_ret (v := .tuple #[.agg #[.int .i64 0, .int .i64 0, .slice none 0 0], .slice a n c, .bool false]) ?_ rfl (HFIN.out wF hoF)
      have hl := run_loadVar_mid (P := Try.prog) wF b4 0 25 _ _ HCF.out.range Try.underlying25 rfl (by kernel_rfl)
      simp [results, Try.results15, asAddr, hl, Result.andThen]
  obtain ⟨k, rfl⟩ : ∃ k : Nat, i = (k : Int) := ⟨i.toNat, by omega⟩
  have hkn : k < n := by omega
  obtain ⟨b, fo, e1, f1⟩ := HR.out.cells.resolve_left (by omega)
  obtain ⟨x, cx, g0, g1, g2, g3, g4⟩ := f1 k hkn
  obtain ⟨p, hp⟩ : ∃ p, p = ps.getD k noPk := ⟨_, rfl⟩
  rw [← hp] at g0 g1 g2 g3
  obtain ⟨L, hLL⟩ : ∃ L, L = p.by_.length := ⟨_, rfl⟩
  rw [← hLL] at g2 g3
  have HP := Lib.hid (show p = ps.getD k noPk ∧ L = p.by_.length from ⟨hp, hLL⟩)
  have H3 := Lib.hid (And.intro g3 g4)
  have HG := Lib.hid (show w.cell? ⟨b, fo + k * 3, none⟩ = some (.int .i64 p.fr) ∧ w.cell? ⟨b, fo + k * 3 + 1, none⟩ = some (.int .i64 p.to) ∧ w.cell? ⟨b, fo + k * 3 + 2, none⟩ = some (.slice x L cx) from ⟨g0, g1, g2⟩)
  have HBL := Lib.hid (show b < b4 from Nat.lt_of_lt_of_le (block_lt_of_cell g0) HLO.out)
  subst e1
  have HR1 := Lib.hid (HR.out.below HB1.out)
  obtain ⟨k1, hk1⟩ : ∃ k1, k1 = k + 1 := ⟨_, rfl⟩
  obtain ⟨r, hr⟩ : ∃ r, k1 + r = n := ⟨n - k1, by omega⟩
  obtain ⟨y1, hy1, hy1', hY1⟩ := HR1.out.h k (by omega)
  obtain ⟨y2, hy2, hy2', hY2⟩ := HR1.out.l k1 r hr
  obtain ⟨us1, hu1, hc1⟩ := (hY1 w HR.out).vals
  obtain ⟨us2, hu2, hc2⟩ := (hY2 w HR.out).vals
  have HY1 := Lib.hid (And.intro hY1 (And.intro hu1 hc1))
  have HY2 := Lib.hid (And.intro hY2 (And.intro hu2 hc2))
  have hwk : IntKind.i64.wrap ((k : Int) + 1) = (k1 : Int) := by rw [IntWalk.i64_in _ ⟨by omega, by omega⟩]; omega
  have HPP := Lib.hid (show passP ps (k : Int) = ps.take k ++ ps.drop k1 ∧ outP ps (k : Int) = p ∧ hasP ps (k : Int) = true from by
    have h := passP_at (ps := ps) (k := k) (by rw [HLN.out]; exact hkn)
    exact ⟨by rw [h.2.1, List.eraseIdx_eq_take_drop_succ, hk1], by rw [h.2.2, hp], h.1⟩)
  have h0 : ¬ (k : Int) < 0 := by omega
  have h1 : ¬ (k : Int) ≥ (n : Int) := by omega
  have HLT := Lib.hid (show b4 < w1.heap.size from HC1.out.lt)
  clear f1 hp hLL g0 g1 g2 g3 g4 hi hk1 hY1 hY2 hu1 hu2 hc1 hc2
  have hn63 : n ≤ 9223372036854775807 := by omega
  have hkn' : (k : Int) < (n : Int) := by omega
  have hk0 : 0 ≤ (k : Int) := by omega
  go_upto_region 3 with fail
  have hD : ∀ j, j < 16 → ∀ n, n < 16 → j ≠ n → dkN [17, 18, 19, 20, 21, 22, 23, 24, 25, 26, 27, 28, 29, 1013, 5, 6] j ≠ dkN [17, 18, 19, 20, 21, 22, 23, 24, 25, 26, 27, 28, 29, 1013, 5, 6] n := by decide +kernel
  refine region_fun (by kernel_rfl) (by kernel_rfl) (fun gv => #[.slice (some ⟨b, fo, none⟩) n c, .int .i64 (k : Int), undef, undef, .pointer (some ⟨b4, 0, none⟩), gv 5, gv 6, .int .i64 (k : Int), .bool false, .bool false, .int .i64 (k : Int), .slice (some ⟨b, fo, none⟩) n c, .int .i64 (n : Int), .bool false, .bool false, undef, undef, gv 17, gv 18, gv 19, gv 20, gv 21, gv 22, gv 23, gv 24, gv 25, gv 26, gv 27, gv 28, gv 29]) rfl (fun f gv wx => Below w.heap.size w wx ∧ (∀ j, j < 16 → (fun j => Nat.beq j 7 || Nat.beq j 12 || Nat.beq j 14 || Nat.beq j 13) j = false → On f j → gv (dkN [17, 18, 19, 20, 21, 22, 23, 24, 25, 26, 27, 28, 29, 1013, 5, 6] j) = vkN [.slice (some ⟨b, fo, none⟩) n c, .int .i64 (k : Int), .pointer (some ⟨b, fo + k * 3, none⟩), .agg #[.int .i64 p.fr, .int .i64 p.to, .slice x L cx], .slice (some ⟨b, fo, none⟩) n c, .int .i64 (k : Int), .slice y1 k c, undef, .slice (some ⟨b, fo, none⟩) n c, .int .i64 (k : Int), .int .i64 (k1 : Int), .slice y2 r (c - k1), undef, undef, undef, .bool true] j) ∧ ((On f 7 → ∃ v, gv 24 = v ∧ (On f 12 ∨ Pko w w1.heap.size wx v (ps.take k)))) ∧ ((On f 12 → ∃ v, gv 29 = v ∧ Pko w w1.heap.size wx v (ps.take k ++ ps.drop k1))) ∧ ((On f 14 → ∃ v, gv 5 = v ∧ (On f 12 ∧ Pko w w1.heap.size wx v (ps.take k ++ ps.drop k1)))) ∧ (PastN w1 wx b4) ∧ ((¬ On f 13 → Cel wx b4 25 [.int .i64 0, .int .i64 0, .slice none 0 0]) ∧ (On f 13 → Cel wx b4 25 [.int .i64 p.fr, .int .i64 p.to, .slice x L cx]))) ?_ ?_ ?_
  · have hoff : ∀ j, ¬ On (Array.replicate 16 false) j := by
      intro j hj; simp only [On, Array.getD_eq_getD_getElem?, Array.getElem?_replicate] at hj; split at hj <;> simp at hj
    exact ⟨HB1.out.drew, fun j _ _ x => absurd x (hoff _), fun x => absurd x (hoff _), fun x => absurd x (hoff _), fun x => absurd x (hoff _), (PastN.refl _ _).step (Below.refl _ _).drew, ⟨fun _ => HC1.out, fun x => absurd x (hoff _)⟩⟩
  · rintro i' o' f gv wm hio hs' hn he ⟨hBx, P, Q7, Q12, Q14, hP, QC⟩ KK hKK
    have hi' : i' < 16 := (Array.getElem?_eq_some_iff.1 hio).1
    replace hs' : f.size = 16 := hs'
    match i', hi' with
    | 0, _ =>
      cases hio
      have off : ¬ On f 0 := on_off (by omega) hn
      have HQ := Lib.hid (And.intro P (And.intro Q7 (And.intro Q12 (And.intro Q14 (And.intro hP QC)))))
      clear P Q7 Q12 Q14 hP QC
      go_simp
      obtain ⟨P, Q7, Q12, Q14, hP, QC⟩ := HQ.out
      have bk : ∀ j, j ≠ 0 → On (f.setIfInBounds 0 true) j → On f j := fun j hj x => on_back (by omega) x hj
      have fw : ∀ j, On f j → On (f.setIfInBounds 0 true) j := fun j x => (on_put (by omega)).2 (.inr x)
      have fn : On (f.setIfInBounds 0 true) 0 := (on_put (by omega)).2 (.inl rfl)
      exact hKK (upd gv 17 (.slice (some ⟨b, fo, none⟩) n c)) _ (by exact ⟨hBx, vals_step (n := 0) (v := .slice (some ⟨b, fo, none⟩) n c) hD (by decide) (by omega) P (fun _ => rfl), fun x => by obtain ⟨v7, e9, h7r⟩ := Q7 (bk 7 (by decide) x); exact ⟨_, e9, h7r.imp (fw 12) id⟩, fun x => Q12 (bk 12 (by decide) x), fun x => by obtain ⟨v14, e9, h14a, ho14⟩ := Q14 (bk 14 (by decide) x); exact ⟨_, e9, fw 12 h14a, ho14⟩, hP, ⟨fun x => QC.1 (fun y => x (fw 13 y)), fun x => QC.2 (bk 13 (by decide) x)⟩⟩)
    | 1, _ =>
      cases hio
      have off : ¬ On f 1 := on_off (by omega) hn
      have HQ := Lib.hid (And.intro P (And.intro Q7 (And.intro Q12 (And.intro Q14 (And.intro hP QC)))))
      clear P Q7 Q12 Q14 hP QC
      go_simp
      obtain ⟨P, Q7, Q12, Q14, hP, QC⟩ := HQ.out
      have bk : ∀ j, j ≠ 1 → On (f.setIfInBounds 1 true) j → On f j := fun j hj x => on_back (by omega) x hj
      have fw : ∀ j, On f j → On (f.setIfInBounds 1 true) j := fun j x => (on_put (by omega)).2 (.inr x)
      have fn : On (f.setIfInBounds 1 true) 1 := (on_put (by omega)).2 (.inl rfl)
      exact hKK (upd gv 18 (.int .i64 (k : Int))) _ (by exact ⟨hBx, vals_step (n := 1) (v := .int .i64 (k : Int)) hD (by decide) (by omega) P (fun _ => rfl), fun x => by obtain ⟨v7, e9, h7r⟩ := Q7 (bk 7 (by decide) x); exact ⟨_, e9, h7r.imp (fw 12) id⟩, fun x => Q12 (bk 12 (by decide) x), fun x => by obtain ⟨v14, e9, h14a, ho14⟩ := Q14 (bk 14 (by decide) x); exact ⟨_, e9, fw 12 h14a, ho14⟩, hP, ⟨fun x => QC.1 (fun y => x (fw 13 y)), fun x => QC.2 (bk 13 (by decide) x)⟩⟩)
    | 2, _ =>
      cases hio
      have off : ¬ On f 2 := on_off (by omega) hn
      have h0 : On f 0 := he ⟨0, .data⟩ (by simp) rfl
      have e0 : gv 17 = .slice (some ⟨b, fo, none⟩) n c := P 0 (by decide) rfl h0
      have h1 : On f 1 := he ⟨1, .data⟩ (by simp) rfl
      have e1 : gv 18 = .int .i64 (k : Int) := P 1 (by decide) rfl h1
      rw [e0, e1]
      have HQ := Lib.hid (And.intro P (And.intro Q7 (And.intro Q12 (And.intro Q14 (And.intro hP QC)))))
      clear P Q7 Q12 Q14 hP QC
      go_simp
      obtain ⟨P, Q7, Q12, Q14, hP, QC⟩ := HQ.out
      have bk : ∀ j, j ≠ 2 → On (f.setIfInBounds 2 true) j → On f j := fun j hj x => on_back (by omega) x hj
      have fw : ∀ j, On f j → On (f.setIfInBounds 2 true) j := fun j x => (on_put (by omega)).2 (.inr x)
      have fn : On (f.setIfInBounds 2 true) 2 := (on_put (by omega)).2 (.inl rfl)
      exact hKK (upd (upd (upd gv 17 (.slice (some ⟨b, fo, none⟩) n c)) 18 (.int .i64 (k : Int))) 19 (.pointer (some ⟨b, fo + k * 3, none⟩))) _ (by rw [upd_same e0]; rw [upd_same e1]; exact ⟨hBx, vals_step (n := 2) (v := .pointer (some ⟨b, fo + k * 3, none⟩)) hD (by decide) (by omega) P (fun _ => rfl), fun x => by obtain ⟨v7, e9, h7r⟩ := Q7 (bk 7 (by decide) x); exact ⟨_, e9, h7r.imp (fw 12) id⟩, fun x => Q12 (bk 12 (by decide) x), fun x => by obtain ⟨v14, e9, h14a, ho14⟩ := Q14 (bk 14 (by decide) x); exact ⟨_, e9, fw 12 h14a, ho14⟩, hP, ⟨fun x => QC.1 (fun y => x (fw 13 y)), fun x => QC.2 (bk 13 (by decide) x)⟩⟩)
    | 3, _ =>
      cases hio
      have off : ¬ On f 3 := on_off (by omega) hn
      have h2 : On f 2 := he ⟨2, .data⟩ (by simp) rfl
      have e2 : gv 19 = .pointer (some ⟨b, fo + k * 3, none⟩) := P 2 (by decide) rfl h2
      have d0 := carry_cell HG.out.1 hBx
      have d1 := carry_cell HG.out.2.1 hBx
      have d2 := carry_cell HG.out.2.2 hBx
      rw [e2]
      have HQ := Lib.hid (And.intro P (And.intro Q7 (And.intro Q12 (And.intro Q14 (And.intro hP QC)))))
      clear P Q7 Q12 Q14 hP QC
      go_simp
      obtain ⟨P, Q7, Q12, Q14, hP, QC⟩ := HQ.out
      have bk : ∀ j, j ≠ 3 → On (f.setIfInBounds 3 true) j → On f j := fun j hj x => on_back (by omega) x hj
      have fw : ∀ j, On f j → On (f.setIfInBounds 3 true) j := fun j x => (on_put (by omega)).2 (.inr x)
      have fn : On (f.setIfInBounds 3 true) 3 := (on_put (by omega)).2 (.inl rfl)
      exact hKK (upd (upd gv 19 (.pointer (some ⟨b, fo + k * 3, none⟩))) 20 (.agg #[.int .i64 p.fr, .int .i64 p.to, .slice x L cx])) _ (by rw [upd_same e2]; exact ⟨hBx, vals_step (n := 3) (v := .agg #[.int .i64 p.fr, .int .i64 p.to, .slice x L cx]) hD (by decide) (by omega) P (fun _ => rfl), fun x => by obtain ⟨v7, e9, h7r⟩ := Q7 (bk 7 (by decide) x); exact ⟨_, e9, h7r.imp (fw 12) id⟩, fun x => Q12 (bk 12 (by decide) x), fun x => by obtain ⟨v14, e9, h14a, ho14⟩ := Q14 (bk 14 (by decide) x); exact ⟨_, e9, fw 12 h14a, ho14⟩, hP, ⟨fun x => QC.1 (fun y => x (fw 13 y)), fun x => QC.2 (bk 13 (by decide) x)⟩⟩)
    | 4, _ =>
      cases hio
      have off : ¬ On f 4 := on_off (by omega) hn
      have HQ := Lib.hid (And.intro P (And.intro Q7 (And.intro Q12 (And.intro Q14 (And.intro hP QC)))))
      clear P Q7 Q12 Q14 hP QC
      go_simp
      obtain ⟨P, Q7, Q12, Q14, hP, QC⟩ := HQ.out
      have bk : ∀ j, j ≠ 4 → On (f.setIfInBounds 4 true) j → On f j := fun j hj x => on_back (by omega) x hj
      have fw : ∀ j, On f j → On (f.setIfInBounds 4 true) j := fun j x => (on_put (by omega)).2 (.inr x)
      have fn : On (f.setIfInBounds 4 true) 4 := (on_put (by omega)).2 (.inl rfl)
      exact hKK (upd gv 21 (.slice (some ⟨b, fo, none⟩) n c)) _ (by exact ⟨hBx, vals_step (n := 4) (v := .slice (some ⟨b, fo, none⟩) n c) hD (by decide) (by omega) P (fun _ => rfl), fun x => by obtain ⟨v7, e9, h7r⟩ := Q7 (bk 7 (by decide) x); exact ⟨_, e9, h7r.imp (fw 12) id⟩, fun x => Q12 (bk 12 (by decide) x), fun x => by obtain ⟨v14, e9, h14a, ho14⟩ := Q14 (bk 14 (by decide) x); exact ⟨_, e9, fw 12 h14a, ho14⟩, hP, ⟨fun x => QC.1 (fun y => x (fw 13 y)), fun x => QC.2 (bk 13 (by decide) x)⟩⟩)
    | 5, _ =>
      cases hio
      have off : ¬ On f 5 := on_off (by omega) hn
      have HQ := Lib.hid (And.intro P (And.intro Q7 (And.intro Q12 (And.intro Q14 (And.intro hP QC)))))
      clear P Q7 Q12 Q14 hP QC
      go_simp
      obtain ⟨P, Q7, Q12, Q14, hP, QC⟩ := HQ.out
      have bk : ∀ j, j ≠ 5 → On (f.setIfInBounds 5 true) j → On f j := fun j hj x => on_back (by omega) x hj
      have fw : ∀ j, On f j → On (f.setIfInBounds 5 true) j := fun j x => (on_put (by omega)).2 (.inr x)
      have fn : On (f.setIfInBounds 5 true) 5 := (on_put (by omega)).2 (.inl rfl)
      exact hKK (upd gv 22 (.int .i64 (k : Int))) _ (by exact ⟨hBx, vals_step (n := 5) (v := .int .i64 (k : Int)) hD (by decide) (by omega) P (fun _ => rfl), fun x => by obtain ⟨v7, e9, h7r⟩ := Q7 (bk 7 (by decide) x); exact ⟨_, e9, h7r.imp (fw 12) id⟩, fun x => Q12 (bk 12 (by decide) x), fun x => by obtain ⟨v14, e9, h14a, ho14⟩ := Q14 (bk 14 (by decide) x); exact ⟨_, e9, fw 12 h14a, ho14⟩, hP, ⟨fun x => QC.1 (fun y => x (fw 13 y)), fun x => QC.2 (bk 13 (by decide) x)⟩⟩)
    | 6, _ =>
      cases hio
      have off : ¬ On f 6 := on_off (by omega) hn
      have h4 : On f 4 := he ⟨4, .data⟩ (by simp) rfl
      have e4 : gv 21 = .slice (some ⟨b, fo, none⟩) n c := P 4 (by decide) rfl h4
      have h5 : On f 5 := he ⟨5, .data⟩ (by simp) rfl
      have e5 : gv 22 = .int .i64 (k : Int) := P 5 (by decide) rfl h5
      rw [e4, e5]
      have HQ := Lib.hid (And.intro P (And.intro Q7 (And.intro Q12 (And.intro Q14 (And.intro hP QC)))))
      clear P Q7 Q12 Q14 hP QC
      go_simp
      obtain ⟨P, Q7, Q12, Q14, hP, QC⟩ := HQ.out
      have bk : ∀ j, j ≠ 6 → On (f.setIfInBounds 6 true) j → On f j := fun j hj x => on_back (by omega) x hj
      have fw : ∀ j, On f j → On (f.setIfInBounds 6 true) j := fun j x => (on_put (by omega)).2 (.inr x)
      have fn : On (f.setIfInBounds 6 true) 6 := (on_put (by omega)).2 (.inl rfl)
      exact hKK (upd (upd (upd gv 21 (.slice (some ⟨b, fo, none⟩) n c)) 22 (.int .i64 (k : Int))) 23 (.slice y1 k c)) _ (by rw [upd_same e4]; rw [upd_same e5]; exact ⟨hBx, vals_step (n := 6) (v := .slice y1 k c) hD (by decide) (by omega) P (fun _ => rfl), fun x => by obtain ⟨v7, e9, h7r⟩ := Q7 (bk 7 (by decide) x); exact ⟨_, e9, h7r.imp (fw 12) id⟩, fun x => Q12 (bk 12 (by decide) x), fun x => by obtain ⟨v14, e9, h14a, ho14⟩ := Q14 (bk 14 (by decide) x); exact ⟨_, e9, fw 12 h14a, ho14⟩, hP, ⟨fun x => QC.1 (fun y => x (fw 13 y)), fun x => QC.2 (bk 13 (by decide) x)⟩⟩)
    | 7, _ =>
      cases hio
      have off : ¬ On f 7 := on_off (by omega) hn
      have h6 : On f 6 := he ⟨6, .data⟩ (by simp) rfl
      have e6 : gv 23 = .slice y1 k c := P 6 (by decide) rfl h6
      obtain ⟨v6, w6, hrun, hk6, hg⟩ := (Pko.nil w w1.heap.size wm).app hP.size (HY1.out.1 _ (HR.out.below hBx)) HY1.out.2.1 (fun x hx j u hu => carry_cell (HY1.out.2.2 x hx j u hu) hBx) (by show 0 + k ≤ _; omega)
      have hb : Below wm.heap.size wm w6 := (Below.refl _ wm).grown hg (Nat.le_refl _) (fun k hk => by cases hk)
      rw [e6]
      have HQ := Lib.hid (And.intro P (And.intro Q7 (And.intro Q12 (And.intro Q14 (And.intro hP QC)))))
      clear P Q7 Q12 Q14 hP QC
      refine app_run_at (by rfl) (.const (.slice none 0 0)) (.tmp 23) 22 rfl (by rfl) (by rfl) hrun ?_
      simp only [Act.put, List.setIfInBounds_toArray]
      obtain ⟨P, Q7, Q12, Q14, hP, QC⟩ := HQ.out
      have bk : ∀ j, j ≠ 7 → On (f.setIfInBounds 7 true) j → On f j := fun j hj x => on_back (by omega) x hj
      have fw : ∀ j, On f j → On (f.setIfInBounds 7 true) j := fun j x => (on_put (by omega)).2 (.inr x)
      have fn : On (f.setIfInBounds 7 true) 7 := (on_put (by omega)).2 (.inl rfl)
      exact hKK (upd (upd gv 23 (.slice y1 k c)) 24 (v6)) _ (by rw [upd_same e6]; exact ⟨hBx.step hb, vals_step (n := 7) (v := v6) hD (by decide) (by omega) P (fun h => nomatch (show true = false from h)), fun _ => ⟨v6, rfl, .inr hk6⟩, fun x => by obtain ⟨v12, e9, ho12⟩ := Q12 (bk 12 (by decide) x); exact ⟨_, e9, ho12.below hb⟩, fun x => by obtain ⟨v14, e9, h14a, ho14⟩ := Q14 (bk 14 (by decide) x); exact ⟨_, e9, fw 12 h14a, ho14.below hb⟩, hP.step hb, ⟨fun x => (QC.1 (fun y => x (fw 13 y))).step hb, fun x => (QC.2 (bk 13 (by decide) x)).step hb⟩⟩)
    | 8, _ =>
      cases hio
      have off : ¬ On f 8 := on_off (by omega) hn
      have HQ := Lib.hid (And.intro P (And.intro Q7 (And.intro Q12 (And.intro Q14 (And.intro hP QC)))))
      clear P Q7 Q12 Q14 hP QC
      go_simp
      obtain ⟨P, Q7, Q12, Q14, hP, QC⟩ := HQ.out
      have bk : ∀ j, j ≠ 8 → On (f.setIfInBounds 8 true) j → On f j := fun j hj x => on_back (by omega) x hj
      have fw : ∀ j, On f j → On (f.setIfInBounds 8 true) j := fun j x => (on_put (by omega)).2 (.inr x)
      have fn : On (f.setIfInBounds 8 true) 8 := (on_put (by omega)).2 (.inl rfl)
      exact hKK (upd gv 25 (.slice (some ⟨b, fo, none⟩) n c)) _ (by exact ⟨hBx, vals_step (n := 8) (v := .slice (some ⟨b, fo, none⟩) n c) hD (by decide) (by omega) P (fun _ => rfl), fun x => by obtain ⟨v7, e9, h7r⟩ := Q7 (bk 7 (by decide) x); exact ⟨_, e9, h7r.imp (fw 12) id⟩, fun x => Q12 (bk 12 (by decide) x), fun x => by obtain ⟨v14, e9, h14a, ho14⟩ := Q14 (bk 14 (by decide) x); exact ⟨_, e9, fw 12 h14a, ho14⟩, hP, ⟨fun x => QC.1 (fun y => x (fw 13 y)), fun x => QC.2 (bk 13 (by decide) x)⟩⟩)
    | 9, _ =>
      cases hio
      have off : ¬ On f 9 := on_off (by omega) hn
      have HQ := Lib.hid (And.intro P (And.intro Q7 (And.intro Q12 (And.intro Q14 (And.intro hP QC)))))
      clear P Q7 Q12 Q14 hP QC
      go_simp
      obtain ⟨P, Q7, Q12, Q14, hP, QC⟩ := HQ.out
      have bk : ∀ j, j ≠ 9 → On (f.setIfInBounds 9 true) j → On f j := fun j hj x => on_back (by omega) x hj
      have fw : ∀ j, On f j → On (f.setIfInBounds 9 true) j := fun j x => (on_put (by omega)).2 (.inr x)
      have fn : On (f.setIfInBounds 9 true) 9 := (on_put (by omega)).2 (.inl rfl)
      exact hKK (upd gv 26 (.int .i64 (k : Int))) _ (by exact ⟨hBx, vals_step (n := 9) (v := .int .i64 (k : Int)) hD (by decide) (by omega) P (fun _ => rfl), fun x => by obtain ⟨v7, e9, h7r⟩ := Q7 (bk 7 (by decide) x); exact ⟨_, e9, h7r.imp (fw 12) id⟩, fun x => Q12 (bk 12 (by decide) x), fun x => by obtain ⟨v14, e9, h14a, ho14⟩ := Q14 (bk 14 (by decide) x); exact ⟨_, e9, fw 12 h14a, ho14⟩, hP, ⟨fun x => QC.1 (fun y => x (fw 13 y)), fun x => QC.2 (bk 13 (by decide) x)⟩⟩)
    | 10, _ =>
      cases hio
      have off : ¬ On f 10 := on_off (by omega) hn
      have h9 : On f 9 := he ⟨9, .data⟩ (by simp) rfl
      have e9 : gv 26 = .int .i64 (k : Int) := P 9 (by decide) rfl h9
      rw [e9]
      have HQ := Lib.hid (And.intro P (And.intro Q7 (And.intro Q12 (And.intro Q14 (And.intro hP QC)))))
      clear P Q7 Q12 Q14 hP QC
      go_simp
      obtain ⟨P, Q7, Q12, Q14, hP, QC⟩ := HQ.out
      have bk : ∀ j, j ≠ 10 → On (f.setIfInBounds 10 true) j → On f j := fun j hj x => on_back (by omega) x hj
      have fw : ∀ j, On f j → On (f.setIfInBounds 10 true) j := fun j x => (on_put (by omega)).2 (.inr x)
      have fn : On (f.setIfInBounds 10 true) 10 := (on_put (by omega)).2 (.inl rfl)
      exact hKK (upd (upd gv 26 (.int .i64 (k : Int))) 27 (.int .i64 (k1 : Int))) _ (by rw [upd_same e9]; exact ⟨hBx, vals_step (n := 10) (v := .int .i64 (k1 : Int)) hD (by decide) (by omega) P (fun _ => rfl), fun x => by obtain ⟨v7, e9, h7r⟩ := Q7 (bk 7 (by decide) x); exact ⟨_, e9, h7r.imp (fw 12) id⟩, fun x => Q12 (bk 12 (by decide) x), fun x => by obtain ⟨v14, e9, h14a, ho14⟩ := Q14 (bk 14 (by decide) x); exact ⟨_, e9, fw 12 h14a, ho14⟩, hP, ⟨fun x => QC.1 (fun y => x (fw 13 y)), fun x => QC.2 (bk 13 (by decide) x)⟩⟩)
    | 11, _ =>
      cases hio
      have off : ¬ On f 11 := on_off (by omega) hn
      have h8 : On f 8 := he ⟨8, .data⟩ (by simp) rfl
      have e8 : gv 25 = .slice (some ⟨b, fo, none⟩) n c := P 8 (by decide) rfl h8
      have h10 : On f 10 := he ⟨10, .data⟩ (by simp) rfl
      have e10 : gv 27 = .int .i64 (k1 : Int) := P 10 (by decide) rfl h10
      rw [e8, e10]
      have HQ := Lib.hid (And.intro P (And.intro Q7 (And.intro Q12 (And.intro Q14 (And.intro hP QC)))))
      clear P Q7 Q12 Q14 hP QC
      go_simp
      obtain ⟨P, Q7, Q12, Q14, hP, QC⟩ := HQ.out
      have bk : ∀ j, j ≠ 11 → On (f.setIfInBounds 11 true) j → On f j := fun j hj x => on_back (by omega) x hj
      have fw : ∀ j, On f j → On (f.setIfInBounds 11 true) j := fun j x => (on_put (by omega)).2 (.inr x)
      have fn : On (f.setIfInBounds 11 true) 11 := (on_put (by omega)).2 (.inl rfl)
      exact hKK (upd (upd (upd gv 25 (.slice (some ⟨b, fo, none⟩) n c)) 27 (.int .i64 (k1 : Int))) 28 (.slice y2 r (c - k1))) _ (by rw [upd_same e8]; rw [upd_same e10]; exact ⟨hBx, vals_step (n := 11) (v := .slice y2 r (c - k1)) hD (by decide) (by omega) P (fun _ => rfl), fun x => by obtain ⟨v7, e9, h7r⟩ := Q7 (bk 7 (by decide) x); exact ⟨_, e9, h7r.imp (fw 12) id⟩, fun x => Q12 (bk 12 (by decide) x), fun x => by obtain ⟨v14, e9, h14a, ho14⟩ := Q14 (bk 14 (by decide) x); exact ⟨_, e9, fw 12 h14a, ho14⟩, hP, ⟨fun x => QC.1 (fun y => x (fw 13 y)), fun x => QC.2 (bk 13 (by decide) x)⟩⟩)
    | 12, _ =>
      cases hio
      have off : ¬ On f 12 := on_off (by omega) hn
      have h7 : On f 7 := he ⟨7, .data⟩ (by simp) rfl
      obtain ⟨v7, e7, h7r⟩ := Q7 h7
      have h11 : On f 11 := he ⟨11, .data⟩ (by simp) rfl
      have e11 : gv 28 = .slice y2 r (c - k1) := P 11 (by decide) rfl h11
      have hk7 := h7r.resolve_left off
      obtain ⟨v6, w6, hrun, hk6, hg⟩ := hk7.app hP.size (HY2.out.1 _ (HR.out.below hBx)) HY2.out.2.1 (fun x hx j u hu => carry_cell (HY2.out.2.2 x hx j u hu) hBx) (by have := List.length_take_le k ps; omega)
      have hb6 : Below w.heap.size w w6 := hBx.grown hg hBx.size (fun k hk => Nat.le_trans HB1.out.size (hk7.lo k hk).1)
      rw [e7, e11]
      have HQ := Lib.hid (And.intro P (And.intro Q7 (And.intro Q12 (And.intro Q14 (And.intro hP QC)))))
      clear P Q7 Q12 Q14 hP QC
      refine app_run_at (by rfl) (.tmp 24) (.tmp 28) 22 rfl (by rfl) (by rfl) hrun ?_
      simp only [Act.put, List.setIfInBounds_toArray]
      obtain ⟨P, Q7, Q12, Q14, hP, QC⟩ := HQ.out
      have bk : ∀ j, j ≠ 12 → On (f.setIfInBounds 12 true) j → On f j := fun j hj x => on_back (by omega) x hj
      have fw : ∀ j, On f j → On (f.setIfInBounds 12 true) j := fun j x => (on_put (by omega)).2 (.inr x)
      have fn : On (f.setIfInBounds 12 true) 12 := (on_put (by omega)).2 (.inl rfl)
      exact hKK (upd (upd (upd gv 24 (v7)) 28 (.slice y2 r (c - k1))) 29 (v6)) _ (by rw [upd_same e7]; rw [upd_same e11]; exact ⟨hb6, vals_step (n := 12) (v := v6) hD (by decide) (by omega) P (fun h => nomatch (show true = false from h)), fun x => by obtain ⟨v7, e9, h7r⟩ := Q7 (bk 7 (by decide) x); exact ⟨_, e9, .inl fn⟩, fun _ => ⟨v6, rfl, hk6⟩, fun x => by obtain ⟨v14, e9, h14a, _⟩ := Q14 (bk 14 (by decide) x); exact absurd h14a off, hP.grown hg (fun k hk => (hk7.lo k hk).1), ⟨fun x => (QC.1 (fun y => x (fw 13 y))).grown hg (fun k hk => Nat.lt_of_lt_of_le HLT.out (hk7.lo k hk).1), fun x => (QC.2 (bk 13 (by decide) x)).grown hg (fun k hk => Nat.lt_of_lt_of_le HLT.out (hk7.lo k hk).1)⟩⟩)
    | 13, _ =>
      cases hio
      have off : ¬ On f 13 := on_off (by omega) hn
      have h3 : On f 3 := he ⟨3, .data⟩ (by simp) rfl
      have e3 : gv 20 = .agg #[.int .i64 p.fr, .int .i64 p.to, .slice x L cx] := P 3 (by decide) rfl h3
      have hCz := QC.1 off
      rw [e3]
      have HQ := Lib.hid (And.intro P (And.intro Q7 (And.intro Q12 (And.intro Q14 (And.intro hP QC)))))
      clear P Q7 Q12 Q14 hP QC
      refine cel_store (by rfl) rfl 25 (.tmp 4) (.tmp 20) rfl (by rfl) [.int .i64 p.fr, .int .i64 p.to, .slice x L cx] (by rfl) hCz rfl (by kernel_rfl) (by intro v hv; simp at hv; rcases hv with rfl | rfl | rfl <;> rfl) ?_
      intro w6 hc6 ho6
      obtain ⟨P, Q7, Q12, Q14, hP, QC⟩ := HQ.out
      have bk : ∀ j, j ≠ 13 → On (f.setIfInBounds 13 true) j → On f j := fun j hj x => on_back (by omega) x hj
      have fw : ∀ j, On f j → On (f.setIfInBounds 13 true) j := fun j x => (on_put (by omega)).2 (.inr x)
      have fn : On (f.setIfInBounds 13 true) 13 := (on_put (by omega)).2 (.inl rfl)
      exact hKK (upd gv 20 (.agg #[.int .i64 p.fr, .int .i64 p.to, .slice x L cx])) _ (by rw [upd_same e3]; exact ⟨ho6.below hBx HLO.out, vals_keep (n := 13) (by omega) rfl P, fun x => by obtain ⟨v7, e9, h7r⟩ := Q7 (bk 7 (by decide) x); exact ⟨_, e9, h7r.imp (fw 12) (fun h => h.only ho6 HLT.out)⟩, fun x => by obtain ⟨v12, e9, h⟩ := Q12 (bk 12 (by decide) x); exact ⟨_, e9, h.only ho6 HLT.out⟩, fun x => by obtain ⟨v14, e9, h14a, h⟩ := Q14 (bk 14 (by decide) x); exact ⟨_, e9, fw 12 h14a, h.only ho6 HLT.out⟩, hP.only ho6, ⟨fun x => absurd fn x, fun _ => hc6⟩⟩)
    | 14, _ =>
      cases hio
      have off : ¬ On f 14 := on_off (by omega) hn
      have h12 : On f 12 := he ⟨12, .data⟩ (by simp) rfl
      obtain ⟨v12, e12, ho12⟩ := Q12 h12
      rw [e12]
      have HQ := Lib.hid (And.intro P (And.intro Q7 (And.intro Q12 (And.intro Q14 (And.intro hP QC)))))
      clear P Q7 Q12 Q14 hP QC
      go_simp
      obtain ⟨P, Q7, Q12, Q14, hP, QC⟩ := HQ.out
      have bk : ∀ j, j ≠ 14 → On (f.setIfInBounds 14 true) j → On f j := fun j hj x => on_back (by omega) x hj
      have fw : ∀ j, On f j → On (f.setIfInBounds 14 true) j := fun j x => (on_put (by omega)).2 (.inr x)
      have fn : On (f.setIfInBounds 14 true) 14 := (on_put (by omega)).2 (.inl rfl)
      exact hKK (upd (upd gv 29 (v12)) 5 (v12)) _ (by rw [upd_same e12]; exact ⟨hBx, vals_step (n := 14) (v := v12) hD (by decide) (by omega) P (fun h => nomatch (show true = false from h)), fun x => by obtain ⟨v7, e9, h7r⟩ := Q7 (bk 7 (by decide) x); exact ⟨_, e9, h7r.imp (fw 12) id⟩, fun x => Q12 (bk 12 (by decide) x), fun _ => ⟨v12, rfl, fw 12 h12, ho12⟩, hP, ⟨fun x => QC.1 (fun y => x (fw 13 y)), fun x => QC.2 (bk 13 (by decide) x)⟩⟩)
    | 15, _ =>
      cases hio
      have off : ¬ On f 15 := on_off (by omega) hn
      have HQ := Lib.hid (And.intro P (And.intro Q7 (And.intro Q12 (And.intro Q14 (And.intro hP QC)))))
      clear P Q7 Q12 Q14 hP QC
      go_simp
      obtain ⟨P, Q7, Q12, Q14, hP, QC⟩ := HQ.out
      have bk : ∀ j, j ≠ 15 → On (f.setIfInBounds 15 true) j → On f j := fun j hj x => on_back (by omega) x hj
      have fw : ∀ j, On f j → On (f.setIfInBounds 15 true) j := fun j x => (on_put (by omega)).2 (.inr x)
      have fn : On (f.setIfInBounds 15 true) 15 := (on_put (by omega)).2 (.inl rfl)
      exact hKK (upd gv 6 (.bool true)) _ (by exact ⟨hBx, vals_step (n := 15) (v := .bool true) hD (by decide) (by omega) P (fun _ => rfl), fun x => by obtain ⟨v7, e9, h7r⟩ := Q7 (bk 7 (by decide) x); exact ⟨_, e9, h7r.imp (fw 12) id⟩, fun x => Q12 (bk 12 (by decide) x), fun x => by obtain ⟨v14, e9, h14a, ho14⟩ := Q14 (bk 14 (by decide) x); exact ⟨_, e9, fw 12 h14a, ho14⟩, hP, ⟨fun x => QC.1 (fun y => x (fw 13 y)), fun x => QC.2 (bk 13 (by decide) x)⟩⟩)
  · rintro f gv w5 hall hs' ⟨hBx, P, Q7, Q12, Q14, hP, QC⟩
    replace hs' : f.size = 16 := hs'
    have on : ∀ j, j < 16 → On f j := fun j hj => on_all hall hs' j hj
    obtain ⟨v5, e5, _, ho5⟩ := Q14 (on 14 (by decide))
    have e6 : gv 6 = .bool true := P 15 (by decide) rfl (on 15 (by decide))
    have hC := QC.2 (on 13 (by decide))
    obtain ⟨a5, c5, rfl, hk5⟩ := ho5.pks hBx
    have HE := Lib.hid (show PassP ps (k : Int) w (.returned (.tuple #[.agg #[.int .i64 p.fr, .int .i64 p.to, .slice x L cx], .slice a5 (ps.take k ++ ps.drop k1).length c5, .bool true])) w5 from by
      unfold PassP
      rw [HPP.out.1, HPP.out.2.1, HPP.out.2.2]
      exact ⟨x, cx, a5, c5, by rw [HP.out.2], by rw [← HP.out.2]; exact H3.out.1.below hBx, H3.out.2, hk5, hBx⟩)
    have HCF := Lib.hid hC
    obtain ⟨ml, hml⟩ : ∃ ml, ml = (ps.take k ++ ps.drop k1).length := ⟨_, rfl⟩
    rw [← hml] at HE e5
    rw [e5, e6]
    clear P Q7 Q12 Q14 QC hP hBx hall hs' on e5 e6 ho5 hk5 hD hml hC
    go_wp2_with fail
    refine bodyPost_ret (v := .tuple #[.agg #[.int .i64 p.fr, .int .i64 p.to, .slice x L cx], .slice a5 ml c5, .bool true]) ?_ rfl HE.out
    have hl := run_loadVar_mid (P := Try.prog) w5 b4 0 25 _ _ HCF.out.range Try.underlying25 rfl (by kernel_rfl)
    simp [results, Try.results15, asAddr, hl, Result.andThen]

set_option maxRecDepth 100000 in
set_option maxHeartbeats 2000000 in
theorem twice_ref (a : Option Addr) (n c : Nat) (ps : List Pk) (i : Int) (w : World) (hr : Pks w a n c ps) (hn : n ≤ 500) :
    Calls Try.prog 17 #[.slice a n c, .int .i64 i] w (PksT (twiceP ps i) (hasP ps i) w) := by
  have HR := Lib.hid hr
  have HLN := Lib.hid hr.len
  have hn63 : n ≤ 9223372036854775807 := by omega
  clear hr
  by_cases hi : 0 ≤ i ∧ i < (n : Int)
  case neg =>
    have HH := Lib.hid (show hasP ps i = false by unfold hasP; rw [HLN.out]; simp only [Bool.and_eq_false_iff, decide_eq_false_iff_not]; omega)
    have HF := Lib.hid (show PksT (twiceP ps i) (hasP ps i) w (.returned (.tuple #[.slice a n c, .bool false])) w by
      unfold PksT twiceP
      rw [HH.out, if_neg (by decide)]
      exact ⟨a, c, by rw [HLN.out] <;> rfl, by rw [HLN.out]; exact HR.out, Below.refl _ _⟩)
    by_cases h0 : i < 0
    · clear hi
      go_enter Try.func17, Try.ntmps17
      go_wp2_with fail
      go_ret2
      exact HF.out
    · have h1 : i ≥ (n : Int) := by omega
      clear hi
      go_enter Try.func17, Try.ntmps17
      go_wp2_with fail
      go_ret2
      exact HF.out
  obtain ⟨j, rfl⟩ : ∃ j : Nat, i = (j : Int) := ⟨i.toNat, by omega⟩
  have hj : j < n := by omega
  obtain ⟨b, fo, e1, f1⟩ := HR.out.cells.resolve_left (by omega)
  obtain ⟨x, cx, g0, g1, g2, g3, g4⟩ := f1 j hj
  obtain ⟨p, hp⟩ : ∃ p, p = ps.getD j noPk := ⟨_, rfl⟩
  rw [← hp] at g0 g1 g2 g3
  have hP := passP_at (ps := ps) (k := j) (by rw [HLN.out]; exact hj)
  have HE2 := Lib.hid (show twiceP ps (j : Int) = sendP ps p ∧ hasP ps (j : Int) = true from ⟨by unfold twiceP; rw [hP.1, if_pos rfl, hp]; rfl, hP.1⟩)
  have HS := Lib.hid (send_ref a n c ps p x cx w HR.out hn g3 g4)
  obtain ⟨L, hLL⟩ : ∃ L, L = p.by_.length := ⟨_, rfl⟩
  rw [← hLL] at g2 HS
  subst e1
  have h0 : ¬ (j : Int) < 0 := by omega
  have h1 : ¬ (j : Int) ≥ (n : Int) := by omega
  clear f1 hp hLL g3 g4 hi hP
  go_enter Try.func17, Try.ntmps17
  go_wp2_with fail
  refine HS.out.mono ?_
  rintro e w3 ⟨a3, c3, rfl, hk, hb⟩
  have HK := Lib.hid (And.intro hk hb)
  obtain ⟨m, hm⟩ : ∃ m, m = (sendP ps p).length := ⟨_, rfl⟩
  rw [← hm]
  have HM := Lib.hid hm
  clear hk hb hm
  go_wp2_with fail
  go_ret2
  show PksT (twiceP ps (j : Int)) (hasP ps (j : Int)) _ _ _
  rw [HE2.out.1, HE2.out.2]
  exact ⟨a3, c3, by rw [← HM.out]; rfl, HK.out⟩
end Go.Proofs.Ytmeieokembjabaa
