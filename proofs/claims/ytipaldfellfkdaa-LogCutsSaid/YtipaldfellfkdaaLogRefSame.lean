/- The walks of the reference's Mend and Same. -/
import Derived.Test.YtipaldfellfkdaaLogRefRead
namespace Go.Proofs.Ytipaldfellfkdaa
open Go.ChangeShapes Go.WideShapes Go.ChangeAt Go.RowKit
set_option linter.unusedVariables false

set_option maxRecDepth 100000 in
set_option maxHeartbeats 1000000 in
theorem mend_ref (a : Option Addr) (n c : Nat) (l : List UInt8) (w : World) (hr : Rd w a n c l) (hac : a = none → c = 0) (hn : n ≤ 20000) : Calls Try.prog 16 #[.slice a n c] w (OwnB (l.take (readL l).2) w) := by
  obtain ⟨i1, ji, jz0, jz1, jz2⟩ := info_parts info_u8
  have HIU := Lib.hid (show Try.prog.info? 5 = some i1 ∧ i1.zero = some (.int .u8 0) ∧ i1.size = 1 ∧ i1.bytes = 1 from ⟨ji, jz0, jz1, jz2⟩)
  have hlen := hr.len
  obtain ⟨u, hu⟩ : ∃ u, u = (readL l).2 := ⟨_, rfl⟩
  have hun : u ≤ n := by rw [hu, ← hlen]; exact readL_le l
  obtain ⟨a', h1, h2, hR, hac'⟩ := hr.fr hac u hun
  have HU := Lib.hid hu
  have HN := Lib.hid (show u ≤ n ∧ l.length = n from ⟨hun, hlen⟩)
  have HR := Lib.hid hr
  clear hu hun hlen hr ji jz0 jz1 jz2
  go_enter Try.func16, Try.ntmps16
  go_wp2_with fail
  refine (read_ref a n c l w HR.out hac hn).mono ?_
  rintro e w1 ⟨v, xs, rfl, hown, hrec, hb1⟩
  rw [← HU.out]
  clear hown hrec
  obtain ⟨v2, w2, hrun2, hown2, hb2⟩ := run_copy2 HIU.out.1 HIU.out.2.1 HIU.out.2.2.1 HIU.out.2.2.2 (hR w1 (HR.out.below hb1)) hac' (by have := HN.out; omega)
  have HRUN := Lib.hid hrun2
  have HE := Lib.hid (show w2.ownsRow w.heap.size 5 1 v2 (l.take u).length ((l.take u).map B) ∧ Below w.heap.size w w2 from ⟨ownsRow_mono (by rw [List.length_take, HN.out.2, Nat.min_eq_left HN.out.1]; exact hown2) hb1.size, hb1.step hb2⟩)
  clear hrun2 hown2 hb2 hb1
  go_wp2_with (at_builtin; refine Lib.wpList_append_run _ rfl _ _ _ _ rfl _ _ rfl rfl _ _ HRUN.out ?_)
  go_ret
  exact ⟨v2, rfl, by rw [← HU.out]; exact HE.out.1, HE.out.2⟩

/-- One of the texts of a list of the call's own. -/
theorem rec_at {w : World} {base base' : Nat} {v : Value} {xs : List Value} {ls : List (List UInt8)} (ho : w.ownsRow base 22 1 v ls.length xs) (hx : Recs w base' xs ls) (i : Nat) (hi : i < ls.length) :
    ∃ b c a' c', v = .slice (some ⟨b, 0, none⟩) ls.length c ∧ w.cell? ⟨b, i, none⟩ = some (.slice a' (ls.getD i []).length c') ∧ Rd w a' (ls.getD i []).length c' (ls.getD i []) := by
  have hxl : xs.length = ls.length := hx.1
  obtain ⟨a', c', e, hr⟩ := Rd.of_own (hx.2 i hi)
  rcases ho.2 with ⟨_, h0⟩ | ⟨g, cap, cur, rfl, _, hg, _⟩
  · omega
  · refine ⟨g, cap, a', c', rfl, ?_, hr⟩
    have := ho.cells (g := g) rfl i (.slice a' (ls.getD i []).length c') (by rw [List.getElem?_eq_getElem (by omega), ← e, List.getD_eq_getElem?_getD, List.getElem?_eq_getElem (by omega)]; rfl)
    have hadd : (⟨g, 0, none⟩ : Addr).add i = ⟨g, i, none⟩ := by unfold Addr.add; split <;> simp_all
    rw [hadd] at this
    exact this

set_option maxRecDepth 100000 in
set_option maxHeartbeats 1000000 in
theorem same_ref_yes (v1 v2 : Value) (xs ys : List Value) (ls : List (List UInt8)) (w : World) (base : Nat) (h1 : w.ownsRow base 22 1 v1 ls.length xs) (hx : Recs w base xs ls) (h2 : w.ownsRow base 22 1 v2 ls.length ys) (hy : Recs w base ys ls) (hn : ls.length ≤ 20000) :
    Calls Try.prog 12 #[v1, v2] w fun e w' => e = .returned (.bool true) ∧ Below w.heap.size w w' := by
  obtain ⟨n, hn'⟩ : ∃ n, n = ls.length := ⟨_, rfl⟩
  obtain ⟨a1, c1, rfl⟩ : ∃ a c, v1 = .slice a n c := by
    rcases h1.2 with ⟨rfl, h0⟩ | ⟨g, cap, cur, rfl, _, hg, _⟩
    · exact ⟨none, 0, by rw [hn', h0]⟩
    · exact ⟨_, cap, by rw [hn']⟩
  obtain ⟨a2, c2, rfl⟩ : ∃ a c, v2 = .slice a n c := by
    rcases h2.2 with ⟨rfl, h0⟩ | ⟨g, cap, cur, rfl, _, hg, _⟩
    · exact ⟨none, 0, by rw [hn', h0]⟩
    · exact ⟨_, cap, by rw [hn']⟩
  have hn2 : n ≤ 20000 := by omega
  have H1 := Lib.hid h1
  have H2 := Lib.hid h2
  have HX := Lib.hid hx
  have HY := Lib.hid hy
  have HN := Lib.hid hn'
  clear h1 h2 hx hy hn' hn
  go_enter Try.func12, Try.ntmps12
  go_wp2_with fail
  go_loopw [5] (fun iv wr => ∃ i : Nat, i ≤ n ∧ iv = .int .i64 (i : Int) ∧ Hid (Below w.heap.size w wr)) (fun iv _ => n - (intOf iv).toNat)
  case atStart => exact ⟨0, Nat.zero_le _, rfl, Lib.hid (Below.refl _ _)⟩
  case round =>
    obtain ⟨i, hi, rfl, hB⟩ := hrel
    by_cases hin : i < n
    case neg =>
      obtain rfl : i = n := by omega
      go_wp2_with fail
      go_ret
      exact ⟨rfl, hB.out⟩
    obtain ⟨b1, k1, p1, q1, e1, s1, r1⟩ := rec_at (ownsRow_below H1.out hB.out) (recs_below HX.out hB.out) i (by rw [← HN.out]; exact hin)
    obtain ⟨b2, k2, p2, q2, e2, s2, r2⟩ := rec_at (ownsRow_below H2.out hB.out) (recs_below HY.out hB.out) i (by rw [← HN.out]; exact hin)
    injection e1 with e1 _ _
    injection e2 with e2 _ _
    subst e1 e2
    obtain ⟨X, hX⟩ : ∃ X, X = ls.getD i [] := ⟨_, rfl⟩
    obtain ⟨m, hm⟩ : ∃ m, m = X.length := ⟨_, rfl⟩
    rw [← hX, ← hm] at s1 r1 s2 r2
    clear hX hm
    have t1 := fun q => str_drew r1 q
    have t2 := fun q => str_drew r2 q
    clear r1 r2
    go_wp2_with fail
    go_quiet (fail)
    rename_i K8 hK8
    refine hK8 _ _ ?_
    clear hK8 K8 t1 t2
    obtain ⟨wd, hwd⟩ : ∃ wd, wd = wr.drewN nq := ⟨_, rfl⟩
    rw [← hwd]
    have HW := Lib.hid (show Below wr.heap.size wr wd by rw [hwd]; exact below_drewNw wr nq)
    clear hwd
    go_wp2_with fail
    refine ⟨⟨i + 1, by omega, rfl, Lib.hid (hB.out.step HW.out)⟩, ?_⟩
    simp [intOf]; omega
end Go.Proofs.Ytipaldfellfkdaa
