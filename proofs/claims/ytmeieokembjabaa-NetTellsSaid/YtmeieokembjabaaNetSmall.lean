/- The walks of the small functions of the layer net. -/
import Derived.Test.YtmeieokembjabaaNetOwn
namespace Go.Proofs.Ytmeieokembjabaa
open Go.ChangeShapes Go.WideShapes Go.ChangeAt Go.RowKit
set_option linter.unusedVariables false

theorem in_any (n : Int) (w : World) : Calls Try.prog 24 #[.int .i64 n] w fun e w' => e = .returned (.bool (decide (0 ≤ n) && decide (n < 8))) ∧ w' = w := by
  by_cases h0 : 0 ≤ n
  · by_cases h1 : n < 8
    · have e0 := decide_eq_true h0
      have e1 := decide_eq_true h1
      go_enter Try.func24, Try.ntmps24
      go_wp2_with fail
      go_ret
      exact ⟨retb (by rw [e0, e1]; rfl), rfl⟩
    · have e1 := decide_eq_false h1
      go_enter Try.func24, Try.ntmps24
      go_wp2_with fail
      go_ret
      exact ⟨retb (by first | rfl | rw [e1, Bool.and_false]), rfl⟩
  · have e0 := decide_eq_false h0
    go_enter Try.func24, Try.ntmps24
    go_wp2_with fail
    go_ret
    exact ⟨retb (by first | rfl | (rw [e0]; rfl)), rfl⟩

theorem has_any (a : Option Addr) (n c : Nat) (i : Int) (ps : List Pk) (w : World) (hl : ps.length = n) (hn : n ≤ 9223372036854775807) : Calls Try.prog 23 #[.slice a n c, .int .i64 i] w fun e w' => e = .returned (.bool (hasP ps i)) ∧ w' = w := by
  have HH := Lib.hid (show hasP ps i = (decide (0 ≤ i) && decide (i < (n : Int))) by unfold hasP; rw [hl])
  clear hl
  by_cases h0 : 0 ≤ i
  · by_cases h1 : i < (n : Int)
    · have HE := Lib.hid (show hasP ps i = true by rw [HH.out, decide_eq_true h0, decide_eq_true h1]; rfl)
      go_enter Try.func23, Try.ntmps23
      go_wp2_with fail
      go_ret
      exact ⟨retb HE.out.symm, rfl⟩
    · have HE := Lib.hid (show hasP ps i = false by rw [HH.out, decide_eq_false h1, Bool.and_false])
      go_enter Try.func23, Try.ntmps23
      go_wp2_with fail
      go_ret
      exact ⟨retb HE.out.symm, rfl⟩
  · have HE := Lib.hid (show hasP ps i = false by rw [HH.out, decide_eq_false h0]; rfl)
    go_enter Try.func23, Try.ntmps23
    go_wp2_with fail
    go_ret
    exact ⟨retb HE.out.symm, rfl⟩

set_option maxRecDepth 100000 in
set_option maxHeartbeats 1000000 in
theorem netmay_any (p : Pk) (a : Option Addr) (c : Nat) (w : World) (hl : p.by_.length ≤ 9223372036854775807) : Calls Try.prog 20 #[.agg #[.int .i64 p.fr, .int .i64 p.to, .slice a p.by_.length c]] w fun e w' => e = .returned (.bool (okP p)) ∧ Below w.heap.size w w' := by
  obtain ⟨L, hL⟩ : ∃ L, L = p.by_.length := ⟨_, rfl⟩
  rw [← hL] at hl ⊢
  obtain ⟨x, hx⟩ : ∃ x, x = (decide (0 ≤ p.fr) && decide (p.fr < 8)) := ⟨_, rfl⟩
  obtain ⟨y, hy⟩ : ∃ y, y = (decide (0 ≤ p.to) && decide (p.to < 8)) := ⟨_, rfl⟩
  have HX := Lib.hid (fun w' => in_any p.fr w')
  have HY := Lib.hid (fun w' => in_any p.to w')
  rw [← hx] at HX
  rw [← hy] at HY
  have HO := Lib.hid (show okP p = (x && y && decide (L ≤ 4000)) by rw [hx, hy, hL]; rfl)
  clear hL hx hy
  go_enter Try.func20, Try.ntmps20
  go_upto_region 1 with fail
  generalize hw1 : w.alloc (.cells _ _) = w1
  obtain ⟨b, hb⟩ : ∃ b, b = w.heap.size := ⟨_, rfl⟩
  have p0 : w1.cell? ⟨b, 0, none⟩ = some (.int .i64 p.fr) := by rw [← hw1, hb]; exact new_cell rfl
  have p1 : w1.cell? ⟨b, 1, none⟩ = some (.int .i64 p.to) := by rw [← hw1, hb]; exact new_cell rfl
  have p2 : w1.cell? ⟨b, 2, none⟩ = some (.slice a L c) := by rw [← hw1, hb]; exact new_cell rfl
  have HB := Lib.hid (show Below w.heap.size w w1 by rw [← hw1]; exact (Below.refl _ _).alloc (Nat.le_refl _) _)
  rw [← hb]
  clear hw1 hb
  go_wp2_with fail
  refine (HX.out _).mono ?_
  rintro e w' ⟨rfl, rfl⟩
  cases x with
  | false =>
    go_wp2_with fail
    go_ret
    exact ⟨retb (by rw [HO.out]; rfl), HB.out⟩
  | true =>
    go_wp2_with fail
    refine (HY.out _).mono ?_
    rintro e w' ⟨rfl, rfl⟩
    cases y with
    | false =>
      go_wp2_with fail
      go_ret
      exact ⟨retb (by rw [HO.out]; rfl), HB.out⟩
    | true =>
      by_cases h : (L : Int) ≤ 4000
      · have hd : decide ((L : Int) ≤ 4000) = true := decide_eq_true h
        go_wp2_with fail
        go_ret
        exact ⟨retb (by rw [HO.out, decide_eq_true (show L ≤ 4000 by omega)]; rfl), HB.out⟩
      · have hd : decide ((L : Int) ≤ 4000) = false := decide_eq_false h
        have H4 := Lib.hid h
        clear h
        go_wp2_with fail
        go_ret
        exact ⟨retb (by rw [HO.out, decide_eq_false (show ¬ L ≤ 4000 by have := H4.out; omega)]; rfl), HB.out⟩

set_option maxHeartbeats 1000000 in
theorem equal_any (a a' : Option Addr) (n n' c c' : Nat) (l l' : List UInt8) (w : World) (h : Rd w a n c l) (h' : Rd w a' n' c' l') : Calls Try.prog 25 #[.slice a n c, .slice a' n' c'] w fun e w' => e = .returned (.bool (l == l')) ∧ w' = w := by
  have x1 : (convert 23 9 (.slice a n c)).run Try.prog w = .ok (.string ⟨l.toArray⟩) w := str_drew h 0
  have x2 : (convert 23 9 (.slice a' n' c')).run Try.prog w = .ok (.string ⟨l'.toArray⟩) w := str_drew h' 0
  have ht := toList_bytes l
  have ht' := toList_bytes l'
  clear h h'
  go_enter Try.func25, Try.ntmps25
  go_wp2_with fail
  go_ret
  exact ⟨rfl, rfl⟩

/-- 'p == q', packets. -/
def eqP (p q : Pk) : Bool := decide (p = q)
theorem eqP_parts (p q : Pk) : eqP p q = (decide (p.fr = q.fr) && decide (p.to = q.to) && (p.by_ == q.by_)) := by
  obtain ⟨a, b, c⟩ := p
  obtain ⟨a', b', c'⟩ := q
  unfold eqP
  by_cases h1 : a = a' <;> by_cases h2 : b = b' <;> by_cases h3 : c = c' <;> simp [h1, h2, h3]

set_option maxRecDepth 100000 in
set_option maxHeartbeats 2000000 in
theorem same_any (a1 a2 : Option Addr) (n1 n2 c1 c2 : Nat) (ps qs : List Pk) (w : World) (h1 : Pks w a1 n1 c1 ps) (h2 : Pks w a2 n2 c2 qs) : Calls Try.prog 21 #[.slice a1 n1 c1, .slice a2 n2 c2] w fun e w' => e = .returned (.bool (decide (ps = qs))) ∧ Below w.heap.size w w' := by
  have hm1 : n1 ≤ 9223372036854775807 := Nat.le_trans h1.le h1.cap
  have hm2 : n2 ≤ 9223372036854775807 := Nat.le_trans h2.le h2.cap
  have H1 := Lib.hid h1
  have H2 := Lib.hid h2
  clear h1 h2
  by_cases hn : n1 = n2
  case neg =>
    have HNO := Lib.hid (show decide (ps = qs) = false from decide_eq_false (fun h => hn (by rw [← H1.out.len, ← H2.out.len, h])))
    have hn' : ((n1 : Int) == (n2 : Int)) = false := by simp; omega
    clear hn
    go_enter Try.func21, Try.ntmps21
    go_wp2_with fail
    go_ret
    exact ⟨retb HNO.out.symm, Below.refl _ _⟩
  subst hn
  go_enter Try.func21, Try.ntmps21
  go_wp2_with fail
  go_loopw [5, 6, 7, 15] (fun v5 v6 v7 v15 wr => ∃ i : Nat, i ≤ n1 ∧ v15 = .int .i64 (i : Int) ∧ Hid (ps.take i = qs.take i) ∧ Hid (Below w.heap.size w wr)) (fun _ _ _ v15 _ => n1 - (intOf v15).toNat)
  case atStart => exact ⟨0, Nat.zero_le _, rfl, Lib.hid rfl, Lib.hid (Below.refl _ _)⟩
  case round =>
    obtain ⟨i, hi, rfl, hE, hB⟩ := hrel
    by_cases hin : i < n1
    case neg =>
      obtain rfl : i = n1 := by omega
      have HY := Lib.hid (show decide (ps = qs) = true from decide_eq_true (by
        have := hE.out
        rwa [List.take_of_length_le (Nat.le_of_eq H1.out.len), List.take_of_length_le (Nat.le_of_eq H2.out.len)] at this))
      clear hE
      go_wp2_with fail
      go_ret
      exact ⟨retb HY.out.symm, hB.out⟩
    obtain ⟨b, off, e1, f1⟩ := ((H1.out.below hB.out).cells).resolve_left (by omega)
    obtain ⟨b', off', e2, f2⟩ := ((H2.out.below hB.out).cells).resolve_left (by omega)
    subst e1 e2
    obtain ⟨x, cx, g0, g1, g2, g3, _⟩ := f1 i hin
    obtain ⟨y, cy, k0, k1, k2, k3, _⟩ := f2 i hin
    obtain ⟨p, hp⟩ : ∃ p, p = ps.getD i noPk := ⟨_, rfl⟩
    obtain ⟨q, hq⟩ : ∃ q, q = qs.getD i noPk := ⟨_, rfl⟩
    rw [← hp] at g0 g1 g2 g3
    rw [← hq] at k0 k1 k2 k3
    have hl1 := H1.out.len
    have hl2 := H2.out.len
    have ht1 : ps.take (i + 1) = ps.take i ++ [p] := by rw [List.take_add_one, hp, List.getD_eq_getElem?_getD, List.getElem?_eq_getElem (by omega)]; rfl
    have ht2 : qs.take (i + 1) = qs.take i ++ [q] := by rw [List.take_add_one, hq, List.getD_eq_getElem?_getD, List.getElem?_eq_getElem (by omega)]; rfl
    have HT := Lib.hid (show p = q → ps.take (i + 1) = qs.take (i + 1) from fun h => by rw [ht1, ht2, hE.out, h])
    have HN := Lib.hid (show p ≠ q → decide (ps = qs) = false from fun h => decide_eq_false (fun h2 => h (by rw [hp, hq, h2])))
    have HPQ := Lib.hid (eqP_parts p q)
    obtain ⟨pl, hpl⟩ : ∃ pl, pl = p.by_.length := ⟨_, rfl⟩
    obtain ⟨ql, hql⟩ : ∃ ql, ql = q.by_.length := ⟨_, rfl⟩
    rw [← hpl] at g2 g3
    rw [← hql] at k2 k3
    have G3 := Lib.hid g3
    have K3 := Lib.hid k3
    clear f1 f2 hp hq ht1 ht2 hpl hql hl1 hl2 g3 k3 hE
    go_upto_region 6 with fail
    generalize hw1 : wr.alloc (.cells _ _) = w1
    have hb01 : Below wr.heap.size wr w1 := by rw [← hw1]; exact (Below.refl _ _).alloc (Nat.le_refl _) _
    obtain ⟨b6, hb6⟩ : ∃ b6, b6 = wr.heap.size := ⟨_, rfl⟩
    have HC6 := Lib.hid (show Cel w1 b6 25 [.int .i64 p.fr, .int .i64 p.to, .slice x pl cx] by rw [← hw1, hb6]; exact Cel.new wr _ _)
    have m0 := carry_cell k0 hb01
    have m1 := carry_cell k1 hb01
    have m2 := carry_cell k2 hb01
    have HB1 := Lib.hid hb01
    rw [← hb6]
    clear hw1 hb01 hb6 g0 g1 g2 k0 k1 k2
    go_upto_region 7 with fail
    generalize hw2 : w1.alloc (.cells _ _) = w2
    have hb12 : Below w1.heap.size w1 w2 := by rw [← hw2]; exact (Below.refl _ _).alloc (Nat.le_refl _) _
    obtain ⟨b7, hb7⟩ : ∃ b7, b7 = w1.heap.size := ⟨_, rfl⟩
    have HC7 := Lib.hid (show Cel w2 b7 25 [.int .i64 q.fr, .int .i64 q.to, .slice y ql cy] by rw [← hw2, hb7]; exact Cel.new w1 _ _)
    have HC62 := Lib.hid (HC6.out.step hb12)
    have HB2 := Lib.hid (HB1.out.step hb12)
    rw [← hb7]
    clear hw2 hb12 hb7 m0 m1 m2 HC6 HB1
    have p0 : w2.cell? ⟨b6, 0, none⟩ = some (.int .i64 p.fr) := HC62.out.at 0 _ rfl
    have p1 : w2.cell? ⟨b6, 1, none⟩ = some (.int .i64 p.to) := HC62.out.at 1 _ rfl
    have p2 : w2.cell? ⟨b6, 2, none⟩ = some (.slice x pl cx) := HC62.out.at 2 _ rfl
    have q0 : w2.cell? ⟨b7, 0, none⟩ = some (.int .i64 q.fr) := HC7.out.at 0 _ rfl
    have q1 : w2.cell? ⟨b7, 1, none⟩ = some (.int .i64 q.to) := HC7.out.at 1 _ rfl
    have q2 : w2.cell? ⟨b7, 2, none⟩ = some (.slice y ql cy) := HC7.out.at 2 _ rfl
    have HNE := Lib.hid (show eqP p q = false → p ≠ q from fun h => of_decide_eq_false h)
    have HEQ := Lib.hid (show eqP p q = true → p = q from fun h => of_decide_eq_true h)
    by_cases h1 : p.fr = q.fr
    case neg =>
      have d1 : (p.fr != q.fr) = true := by simpa using h1
      have HF := Lib.hid (HN.out (HNE.out (HPQ.out.trans (by rw [decide_eq_false h1]; rfl))))
      clear h1
      go_wp2_with fail
      go_ret
      exact ⟨retb HF.out.symm, hB.out.step HB2.out⟩
    have d1 : (p.fr != q.fr) = false := by simpa using h1
    by_cases h2 : p.to = q.to
    case neg =>
      have d2 : (p.to != q.to) = true := by simpa using h2
      have HF := Lib.hid (HN.out (HNE.out (HPQ.out.trans (by rw [decide_eq_false h2, Bool.and_false]; rfl))))
      clear h1 h2
      go_wp2_with fail
      go_ret
      exact ⟨retb HF.out.symm, hB.out.step HB2.out⟩
    have d2 : (p.to != q.to) = false := by simpa using h2
    have HPE := Lib.hid (HPQ.out.trans (show _ = (p.by_ == q.by_) by rw [decide_eq_true h1, decide_eq_true h2]; rfl))
    obtain ⟨bb, hbb⟩ : ∃ bb, bb = (p.by_ == q.by_) := ⟨_, rfl⟩
    have HQ := Lib.hid (equal_any x y pl ql cx cy p.by_ q.by_ w2 (G3.out.below HB2.out) (K3.out.below HB2.out))
    rw [← hbb] at HPE HQ
    clear h1 h2 hbb
    go_wp2_with fail
    refine HQ.out.mono ?_
    rintro e w' ⟨rfl, rfl⟩
    cases bb with
    | false =>
      have HF := Lib.hid (HN.out (HNE.out HPE.out))
      go_wp2_with fail
      go_ret
      exact ⟨retb HF.out.symm, hB.out.step HB2.out⟩
    | true =>
      have HF := Lib.hid (HT.out (HEQ.out HPE.out))
      go_wp2_with fail
      refine ⟨⟨i + 1, by omega, rfl, HF, Lib.hid (hB.out.step HB2.out)⟩, ?_⟩
      simp [intOf]; omega
end Go.Proofs.Ytmeieokembjabaa
