/- The walks of what kinds hands back, for Get: the end of an operation is read into it. -/
import Derived.Test.YtofadpodlaakbaaGreatOpsPut
import Derived.Test.YtofadpodlaakbaaGreatJ1
import Derived.Test.YtofadpodlaakbaaGreatEncCutRef
namespace Go.Proofs.YtofadpodlaakbaaGreat
open Go.ChangeShapes Go.WideShapes Go.ChangeAt Go.RowKit
set_option linter.unusedVariables false
structure Past (w w' : World) (b : Nat) : Prop where
 os : w'.os = w.os
 tape : w'.tape = w.tape
 output : w'.output = w.output
 size : w.heap.size ≤ w'.heap.size
 block : ∀ k, k < w.heap.size → k ≠ b → w'.heap[k]? = w.heap[k]?
theorem Past.of {w w' w'' : World} {b : Nat} (hb : Below w.heap.size w w') (ho : Only w' w'' b) : Past w w'' b :=
 ⟨ho.os.trans hb.os, ho.tape.trans hb.tape, ho.output.trans hb.output, by rw [ho.size]; exact hb.size, fun k hk hne => (ho.block k hne).trans (hb.block k hk)⟩
theorem Past.below {w0 w w' : World} {b : Nat} (h : Past w w' b) (hb : Below w0.heap.size w0 w) (hlo : w0.heap.size ≤ b) : Below w0.heap.size w0 w' :=
 ⟨h.os.trans hb.os, h.tape.trans hb.tape, h.output.trans hb.output, Nat.le_trans hb.size h.size, fun k hk => (h.block k (Nat.lt_of_lt_of_le hk hb.size) (by omega)).trans (hb.block k hk)⟩
theorem Past.rd {w w' : World} {b : Nat} {a : Option Addr} {n c : Nat} {l : List UInt8} (h : Past w w' b) (hr : Rd w a n c l) (ha : ∀ x, a = some x → x.block ≠ b) : Rd w' a n c l := by
 refine ⟨hr.len, hr.le, hr.cap, ?_⟩
 rcases hr.cells with h0 | ⟨bb, off, rfl, hlt, hc⟩
 ·exact .inl h0
 ·have hne : bb ≠ b := ha _ rfl
  refine .inr ⟨bb, off, rfl, Nat.lt_of_lt_of_le hlt h.size, fun i hi => ?_⟩
  rw [World.cell?_of_block (w := w) (h.block bb hlt hne)]
  exact hc i hi
theorem Past.cel {w w' : World} {b b2 : Nat} {t : TypeId} {vs : List Value} (h : Past w w' b) (hc : Cel w b2 t vs) (hne : b2 ≠ b) : Cel w' b2 t vs := (h.block b2 hc.lt hne).trans hc
def endIs (k : Nat) (l : List UInt8) : Bool := if k = 0 then decide ((getL l).2 ≠ 0) else cutIs l 8
def endE (k : Nat) (l : List UInt8) : List UInt8 := if k = 0 then [] else cutT l 8
def endN (k : Nat) (l : List UInt8) : Int := if k = 0 then unfold' ((getL l).1 : Int) else 0
def endR (k : Nat) (l : List UInt8) : List UInt8 := if k = 0 then l.drop (getL l).2 else cutR l 8
theorem getE_end (k : Nat) (key l : List UInt8) : getE k key l = if endIs k l = true then some (⟨(k : Int), key, endE k l, endN k l⟩, endR k l) else none := by
 unfold getE endIs endE endN endR
 by_cases h : k = 0
 ·subst h
  simp only [if_true]
  by_cases h2 : (getL l).2 = 0
  ·simp [h2]
  ·simp [h2]
 ·simp only [if_neg h]
theorem endE_len (k : Nat) (l : List UInt8) : (endE k l).length ≤ 8 := by
 unfold endE; split
 ·decide
 ·by_cases h : cutIs l 8 = true
  ·exact (cut_got h).2
  ·unfold cutT; rw [if_neg h]; decide
theorem endR_len (k : Nat) (l : List UInt8) : (endR k l).length ≤ l.length := by
 unfold endR; split
 ·rw [List.length_drop]; omega
 ·unfold cutR; split
  ·rw [List.length_drop, List.length_drop]; omega
  ·exact Nat.zero_le _
def EndP (k : Nat) (key l : List UInt8) (b : Nat) (w : World) (e : Ending) (w' : World) : Prop :=
 ∃ a c, e = .returned (.tuple #[.slice a (endR k l).length c, .bool (endIs k l)]) ∧ Rd w' a (endR k l).length c (endR k l) ∧ (a = none → c = 0) ∧ Cel w' b 39 [.int .i64 (k : Int), .string ⟨key.toArray⟩, .string ⟨(endE k l).toArray⟩, .int .i64 (endN k l)] ∧ Past w w' b
set_option maxRecDepth 100000 in
set_option maxHeartbeats 1000000 in
theorem get3_any (b : Nat) (key l : List UInt8) (a : Option Addr) (n c : Nat) (w : World) (hC : Cel w b 39 [.int .i64 0, .string ⟨key.toArray⟩, .string ⟨#[]⟩, .int .i64 0]) (hr : Rd w a n c l) (hac : a = none → c = 0) (ha : ∀ x, a = some x → x.block ≠ b) (hn : n ≤ 140737488351232) :
  Calls Tryz.prog 98 #[.pointer (some ⟨b, 0, none⟩), .slice a n c] w (EndP 0 key l b w) := by
 have HG := Lib.hid (get_any a n c l w hr hn)
 obtain ⟨N, hN⟩ : ∃ N, N = (getL l).1 := ⟨_, rfl⟩
 obtain ⟨u, hu⟩ : ∃ u, u = (getL l).2 := ⟨_, rfl⟩
 have hNlt : N < 18446744073709551616 := by rw [hN]; exact getL_lt l
 have hun : u ≤ n := by rw [hu, ← hr.len]; exact getL_le l
 have HU := Lib.hid (fun w' => unfold_any (N : Int) w' (by omega) (by omega))
 rw [← hN, ← hu] at HG
 obtain ⟨a', hs, hR, hac'⟩ := hr.sl hac u hun
 have e1 : ∀ w', (Instr.sliceAt 28 (.slice a n c) (some (.int .i64 (u : Int))) none none).run Tryz.prog w' = .ok (.slice a' (n - u) (c - u)) w' := fun w' => by rw [slice_at, slice_l w' a n c u hun, hs]
 have e2 : ∀ w', (Instr.slice 28 (.slice a n c) (some (.int .i64 (u : Int))) none none).run Tryz.prog w' = .ok (.slice a' (n - u) (c - u)) w' := fun w' => by rw [slice_l w' a n c u hun, hs]
 have c3 : w.cell? ⟨b, 3, none⟩ = some (.int .i64 0) := hC.at 3 _ rfl
 have f3 : w.frozen? ⟨b, 3, none⟩ = false := hC.free 3
 have HC := Lib.hid hC
 have HRR := Lib.hid (show ∀ w', Past w w' b → Rd w' a' (n - u) (c - u) (l.drop u) from fun w' hp => by
  have := hR n hun (Nat.le_refl _) w' (hp.rd hr ha)
  rwa [List.take_of_length_le (by rw [hr.len]; exact Nat.le_refl _)] at this)
 have HH := Lib.hid (show N = (getL l).1 ∧ u = (getL l).2 ∧ u ≤ n ∧ l.length = n ∧ (a' = none → c - u = 0) from ⟨hN, hu, hun, hr.len, hac'⟩)
 have hun2 : (u : Int) ≤ (n : Int) := by omega
 clear hN hu hNlt hun hr hs hR hac' hC hac ha
 go_enter Tryz.func98, Tryz.ntmps98
 go_wp2_with fail
 refine HG.out.mono ?_
 rintro e w' ⟨rfl, rfl⟩
 go_wp2_with fail
 refine (HU.out _).mono ?_
 rintro e w' ⟨rfl, rfl⟩
 obtain ⟨w2, hw2⟩ : ∃ w2, w2 = w.setCell ⟨b, 3, none⟩ (.int .i64 (unfold' (N : Int))) := ⟨_, rfl⟩
 have HC2 := Lib.hid (show Cel w2 b 39 [.int .i64 0, .string ⟨key.toArray⟩, .string ⟨#[]⟩, .int .i64 (unfold' (N : Int))] by rw [hw2]; exact HC.out.set 3 _)
 have HP := Lib.hid (show Past w w2 b by rw [hw2]; exact Past.of (Below.refl _ _) (only_set _ _ _ _))
 by_cases h0 : u = 0
 ·have h0' : decide (0 < u) = false := decide_eq_false (by omega)
  have H0 := Lib.hid h0
  clear h0
  go_wp2_with fail
  rw [← hw2]
  clear hw2
  go_ret2
  have hl : (l.drop u).length = n - u := by rw [List.length_drop, HH.out.2.2.2.1]
  have e3 : endR 0 l = l.drop u := by rw [HH.out.2.1]; rfl
  have e4 : endIs 0 l = false := by unfold endIs; rw [if_pos rfl, ← HH.out.2.1]; exact decide_eq_false (fun h => h H0.out)
  have e5 : endN 0 l = unfold' (N : Int) := by rw [HH.out.1]; rfl
  exact ⟨a', c - u, by rw [e3, e4, hl]; rfl, by rw [e3, hl]; exact HRR.out _ HP.out, HH.out.2.2.2.2, by rw [e5]; exact HC2.out, HP.out⟩
 ·have h0' : decide (0 < u) = true := decide_eq_true (by omega)
  go_wp2_with fail
  rw [← hw2]
  clear hw2
  go_ret2
  have hl : (l.drop u).length = n - u := by rw [List.length_drop, HH.out.2.2.2.1]
  have e3 : endR 0 l = l.drop u := by rw [HH.out.2.1]; rfl
  have e4 : endIs 0 l = true := by unfold endIs; rw [if_pos rfl, ← HH.out.2.1]; exact decide_eq_true h0
  have e5 : endN 0 l = unfold' (N : Int) := by rw [HH.out.1]; rfl
  exact ⟨a', c - u, by rw [e3, e4, hl]; rfl, by rw [e3, hl]; exact HRR.out _ HP.out, HH.out.2.2.2.2, by rw [e5]; exact HC2.out, HP.out⟩
set_option maxRecDepth 100000 in
set_option maxHeartbeats 1000000 in
theorem get6_any (K b : Nat) (hK : K ≠ 0) (key l : List UInt8) (a : Option Addr) (n c : Nat) (w : World) (hC : Cel w b 39 [.int .i64 (K : Int), .string ⟨key.toArray⟩, .string ⟨#[]⟩, .int .i64 0]) (hr : Rd w a n c l) (hn : n ≤ 140737488351232) :
  Calls Tryz.prog 102 #[.pointer (some ⟨b, 0, none⟩), .slice a n c] w (EndP K key l b w) := by
 have HG := Lib.hid (cut_any a n c l 8 w hr hn (by decide) (by decide))
 have HC := Lib.hid hC
 clear hr hC
 go_enter Tryz.func102, Tryz.ntmps102
 go_wp2_with fail
 refine HG.out.mono ?_
 rintro e w1 ⟨v, rfl, ho, hb⟩
 obtain ⟨a', c', rfl, hr'⟩ := Rd.of_own ho
 have hac' := own_none ho
 have hC1 := HC.out.step hb
 have c2 : w1.cell? ⟨b, 2, none⟩ = some (.string ⟨#[]⟩) := hC1.at 2 _ rfl
 have f2 : w1.frozen? ⟨b, 2, none⟩ = false := hC1.free 2
 obtain ⟨E, hE⟩ : ∃ E, E = cutT l 8 := ⟨_, rfl⟩
 obtain ⟨R, hR⟩ : ∃ R, R = cutR l 8 := ⟨_, rfl⟩
 obtain ⟨is, his⟩ : ∃ is, is = cutIs l 8 := ⟨_, rfl⟩
 rw [← hE, ← hR, ← his]
 rw [← hR] at hr' ho
 obtain ⟨w2, hw2⟩ : ∃ w2, w2 = w1.setCell ⟨b, 2, none⟩ (.string ⟨E.toArray⟩) := ⟨_, rfl⟩
 have HC2 := Lib.hid (show Cel w2 b 39 [.int .i64 (K : Int), .string ⟨key.toArray⟩, .string ⟨E.toArray⟩, .int .i64 0] by rw [hw2]; exact hC1.set 2 _)
 have HP := Lib.hid (show Past w w2 b by rw [hw2]; exact Past.of hb (only_set _ _ _ _))
 have hlo : ∀ x, a' = some x → x.block ≠ b := by
  rintro x rfl
  have h1 := (ho.lt x.block rfl).1
  have h2 := HC.out.lt
  omega
 have HR' := Lib.hid (show Rd w2 a' R.length c' R ∧ (a' = none → c' = 0) from ⟨(Past.of (Below.refl _ _) (by rw [hw2]; exact only_set _ _ _ _) : Past w1 w2 b).rd hr' hlo, hac'⟩)
 have HH := Lib.hid (show E = cutT l 8 ∧ R = cutR l 8 ∧ is = cutIs l 8 from ⟨hE, hR, his⟩)
 clear hE hR his hr' ho hac' hC1 hb hlo
 go_wp2_with fail
 rw [← hw2]
 clear hw2
 go_ret2
 have e3 : endR K l = R := by unfold endR; rw [if_neg hK, HH.out.2.1]
 have e4 : endIs K l = is := by unfold endIs; rw [if_neg hK, HH.out.2.2]
 have e5 : endE K l = E := by unfold endE; rw [if_neg hK, HH.out.1]
 have e6 : endN K l = 0 := by unfold endN; rw [if_neg hK]
 exact ⟨a', c', by rw [e3, e4]; rfl, by rw [e3]; exact HR'.out.1, HR'.out.2, by rw [e5, e6]; exact HC2.out, HP.out⟩
end Go.Proofs.YtofadpodlaakbaaGreat
