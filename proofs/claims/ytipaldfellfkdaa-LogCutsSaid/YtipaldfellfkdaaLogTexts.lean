/- Slices of slices of bytes that are read, in plain words; the walk of the reference's Same on two of them that are alike. -/
import Derived.Test.YtipaldfellfkdaaLogRefSame
namespace Go.Proofs.Ytipaldfellfkdaa
open Go.ChangeShapes Go.WideShapes Go.ChangeAt Go.RowKit
set_option linter.unusedVariables false

/-- The slice (a, n, c) reads as the texts ls. -/
structure Txs (w : World) (a : Option Addr) (n c : Nat) (ls : List (List UInt8)) : Prop where
  len : ls.length = n
  le : n ≤ c
  cap : c ≤ 9223372036854775807
  non : a = none → c = 0
  cells : n = 0 ∨ ∃ b off, a = some ⟨b, off, none⟩ ∧ ∀ i, i < n → ∃ a' c', w.cell? ⟨b, off + i, none⟩ = some (.slice a' (ls.getD i []).length c') ∧ Rd w a' (ls.getD i []).length c' (ls.getD i []) ∧ (a' = none → c' = 0)
theorem Txs.below {w w' : World} {a : Option Addr} {n c : Nat} {ls : List (List UInt8)} (h : Txs w a n c ls) (hb : Below w.heap.size w w') : Txs w' a n c ls := by
  refine ⟨h.len, h.le, h.cap, h.non, ?_⟩
  rcases h.cells with h0 | ⟨b, off, rfl, hc⟩
  · exact .inl h0
  · refine .inr ⟨b, off, rfl, fun i hi => ?_⟩
    obtain ⟨a', c', h1, h2, h3⟩ := hc i hi
    exact ⟨a', c', carry_cell h1 hb, h2.below hb, h3⟩
theorem Txs.front {w : World} {a : Option Addr} {n c : Nat} {ls : List (List UInt8)} (h : Txs w a n c ls) (k : Nat) (hk : k ≤ n) : Txs w a k c (ls.take k) := by
  refine ⟨by rw [List.length_take, h.len, Nat.min_eq_left hk], Nat.le_trans hk h.le, h.cap, h.non, ?_⟩
  rcases h.cells with h0 | ⟨b, off, rfl, hc⟩
  · exact .inl (by omega)
  · refine .inr ⟨b, off, rfl, fun i hi => ?_⟩
    have e : (ls.take k).getD i [] = ls.getD i [] := by
      rw [List.getD_eq_getElem?_getD, List.getElem?_take, if_pos hi, ← List.getD_eq_getElem?_getD]
    rw [e]
    exact hc i (by omega)
theorem Txs.of_own {w : World} {base base' : Nat} {v : Value} {xs : List Value} {ls : List (List UInt8)} (ho : w.ownsRow base 22 1 v ls.length xs) (hx : Recs w base' xs ls) : ∃ a c, v = .slice a ls.length c ∧ Txs w a ls.length c ls := by
  have hxl : xs.length = ls.length := hx.1
  rcases ho.2 with ⟨rfl, h0⟩ | ⟨g, cap, cur, rfl, hb, hg, hn, hc, _⟩
  · exact ⟨none, 0, by rw [h0], rfl, by omega, by decide, fun _ => rfl, .inl h0⟩
  · refine ⟨some ⟨g, 0, none⟩, cap, rfl, rfl, hn, Nat.le_trans hc (by unfold maxLen; decide), (fun h => by cases h), .inr ⟨g, 0, rfl, fun i hi => ?_⟩⟩
    have hi' : i < ls.length := hi
    have h3 := hx.2 i hi'
    obtain ⟨a', c', e, hr⟩ := Rd.of_own h3
    rw [e] at h3
    have hcell := ho.cells (g := g) rfl i (.slice a' (ls.getD i []).length c') (by rw [List.getElem?_eq_getElem (by omega), ← e, List.getD_eq_getElem?_getD, List.getElem?_eq_getElem (by omega)]; rfl)
    have hadd : (⟨g, 0, none⟩ : Addr).add i = ⟨g, 0 + i, none⟩ := by unfold Addr.add; split <;> simp_all
    rw [hadd] at hcell
    exact ⟨a', c', hcell, hr, own_none h3⟩

set_option maxRecDepth 100000 in
set_option maxHeartbeats 1000000 in
theorem same_txs (n : Nat) (a1 a2 : Option Addr) (c1 c2 : Nat) (ls : List (List UInt8)) (w : World) (h1 : Txs w a1 n c1 ls) (h2 : Txs w a2 n c2 ls) (hn2 : n ≤ 20000) :
    Calls Try.prog 12 #[.slice a1 n c1, .slice a2 n c2] w fun e w' => e = .returned (.bool true) ∧ Below w.heap.size w w' := by
  have H1 := Lib.hid h1
  have H2 := Lib.hid h2
  clear h1 h2
  go_enter Try.func12, Try.ntmps12
  go_wp2_with fail
  go_loopw [5] (fun iv wr => ∃ i : Nat, i ≤ n ∧ iv = .int .i64 (i : Int) ∧ Hid (Below w.heap.size w wr)) (fun iv _ => n - (intOf iv).toNat)
  case atStart => exact ⟨0, Nat.zero_le _, rfl, Lib.hid (Below.refl _ _)⟩
  case round =>
    obtain ⟨i, hi, rfl, hB⟩ := hrel
    by_cases hin : i < n
    case neg =>
      obtain rfl : i = n := by omega
      go_wp2_with fail
      go_ret
      exact ⟨rfl, hB.out⟩
    obtain ⟨b1, o1, e1, f1⟩ := ((H1.out.below hB.out).cells).resolve_left (by omega)
    obtain ⟨b2, o2, e2, f2⟩ := ((H2.out.below hB.out).cells).resolve_left (by omega)
    subst e1 e2
    obtain ⟨p1, q1, s1, r1, _⟩ := f1 i hin
    obtain ⟨p2, q2, s2, r2, _⟩ := f2 i hin
    obtain ⟨X, hX⟩ : ∃ X, X = ls.getD i [] := ⟨_, rfl⟩
    obtain ⟨m, hm⟩ : ∃ m, m = X.length := ⟨_, rfl⟩
    rw [← hX, ← hm] at s1 r1 s2 r2
    clear hX hm f1 f2
    have t1 := fun q => str_drew r1 q
    have t2 := fun q => str_drew r2 q
    clear r1 r2
    go_wp2_with fail
    go_quiet (fail)
    rename_i K8 hK8
    refine hK8 _ _ ?_
    clear hK8 K8 t1 t2
    obtain ⟨wd, hwd⟩ : ∃ wd, wd = wr.drewN nq := ⟨_, rfl⟩
    rw [← hwd]
    have HW := Lib.hid (show Below wr.heap.size wr wd by rw [hwd]; exact below_drewNw wr nq)
    clear hwd
    go_wp2_with fail
    refine ⟨⟨i + 1, by omega, rfl, Lib.hid (hB.out.step HW.out)⟩, ?_⟩
    simp [intOf]; omega
end Go.Proofs.Ytipaldfellfkdaa
