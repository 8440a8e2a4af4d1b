/- The walks of the reader of the layer commit: unless, num, upto. -/
import Derived.Test.YtofadpodlaakbaaGreatCmPut
import Derived.Test.YtofadpodlaakbaaGreatPast
import Derived.Test.YtofadpodlaakbaaGreatJ1
import Derived.WalkLawsBesides
namespace Go.Proofs.YtofadpodlaakbaaGreat
open Go.ChangeShapes Go.WideShapes Go.ChangeAt Go.RowKit
set_option linter.unusedVariables false
def wrongC : List PanicEntry := [{ v := .iface 130 (.agg #[]), recovered := false }]
set_option maxRecDepth 100000 in
theorem unless_yes (w : World) : Calls Tryz.prog 124 #[.bool true] w fun e w' => e = .returned (.tuple #[]) ∧ w' = w := by
 go_enter Tryz.func124, Tryz.ntmps124
 go_wp2_with fail
 go_end0
 exact ⟨rfl, rfl⟩
set_option maxRecDepth 100000 in
theorem unless_no (w : World) : Calls Tryz.prog 124 #[.bool false] w fun e w' => e = .panicked wrongC ∧ w' = w := by
 go_enter Tryz.func124, Tryz.ntmps124
 go_wp2_with fail
 exact ⟨rfl, rfl, rfl⟩
def RdR (ok : Nat → Prop) (w : World) (br : Nat) (t : TypeId) (vs : List Value) (l : List UInt8) : Prop :=
 ∃ a c, Cel w br t (.slice a l.length c :: vs) ∧ Rd w a l.length c l ∧ (a = none → c = 0) ∧ ∀ x, a = some x → 0 < l.length → x.block ≠ br ∧ ok x.block
theorem RdR.below {ok : Nat → Prop} {w w' : World} {br : Nat} {t : TypeId} {vs : List Value} {l : List UInt8} (h : RdR ok w br t vs l) (hb : Below w.heap.size w w') : RdR ok w' br t vs l := by
 obtain ⟨a, c, h1, h2, h3, h4⟩ := h
 exact ⟨a, c, h1.step hb, h2.below hb, h3, h4⟩
theorem Rd.only' {w w' : World} {a : Option Addr} {n c b : Nat} {l : List UInt8} (h : Rd w a n c l) (ho : Only w w' b) (hne : ∀ x, a = some x → 0 < n → x.block ≠ b) : Rd w' a n c l := by
 refine ⟨h.len, h.le, h.cap, ?_⟩
 by_cases hz : n = 0
 ·exact .inl hz
 rcases h.cells with h0 | ⟨b', off, rfl, hlt, hc⟩
 ·exact .inl h0
 ·refine .inr ⟨b', off, rfl, by rw [ho.size]; exact hlt, fun i hi => ?_⟩
  have h2 := hc i hi
  unfold World.cell? at h2 ⊢
  rw [ho.block b' (hne ⟨b', off, none⟩ rfl (by omega))]
  exact h2
theorem RdR.only {ok : Nat → Prop} {w w' : World} {br b : Nat} {t : TypeId} {vs : List Value} {l : List UInt8} (h : RdR ok w br t vs l) (ho : Only w w' b) (hne : br ≠ b) (hok : ∀ k, ok k → k ≠ b) : RdR ok w' br t vs l := by
 obtain ⟨a, c, h1, h2, h3, h4⟩ := h
 exact ⟨a, c, ho.heap h1 hne, h2.only' ho (fun x hx hp => hok _ (h4 x hx hp).2), h3, h4⟩
theorem RdR.lt {ok : Nat → Prop} {w : World} {br : Nat} {t : TypeId} {vs : List Value} {l : List UInt8} (h : RdR ok w br t vs l) : RdR (fun k => k < w.heap.size) w br t vs l := by
 obtain ⟨a, c, h1, h2, h3, h4⟩ := h
 refine ⟨a, c, h1, h2, h3, fun x hx hp => ⟨(h4 x hx hp).1, ?_⟩⟩
 rcases h2.cells with h0 | ⟨b, off, e, hlt, _⟩
 ·omega
 ·rw [e] at hx
  injection hx with hx
  rw [← hx]
  exact hlt
theorem RdR.imp {ok ok' : Nat → Prop} {w : World} {br : Nat} {t : TypeId} {vs : List Value} {l : List UInt8} (h : RdR ok w br t vs l) (hi : ∀ k, ok k → ok' k) : RdR ok' w br t vs l := by
 obtain ⟨a, c, h1, h2, h3, h4⟩ := h
 exact ⟨a, c, h1, h2, h3, fun x hx hp => ⟨(h4 x hx hp).1, hi _ (h4 x hx hp).2⟩⟩
def RNumP (ok : Nat → Prop) (br : Nat) (o : Option (Nat × List UInt8)) (k : IntKind) (w : World) (e : Ending) (w' : World) : Prop :=
 match o with
 | none => e = .panicked wrongC ∧ Only w w' br
 | some (N, r) => e = .returned (.int k (N : Int)) ∧ RdR ok w' br 134 [] r ∧ Only w w' br
set_option maxRecDepth 100000 in
set_option maxHeartbeats 2000000 in
theorem rnum_any (ok : Nat → Prop) (br : Nat) (l : List UInt8) (w : World) (hr : RdR ok w br 134 [] l) (hl : l.length ≤ 100000) : Calls Tryz.prog 120 #[.pointer (some ⟨br, 0, none⟩)] w (RNumP ok br (takeN l) .u64 w) := by
 obtain ⟨a, c, hc, hrd, hz, hne⟩ := hr
 obtain ⟨n, hn⟩ : ∃ n, n = l.length := ⟨_, rfl⟩
 rw [← hn] at hc hrd hl hne
 have HC := Lib.hid hc
 have HRD := Lib.hid (And.intro hrd (And.intro hz hne))
 have HG := Lib.hid (fun w' (h : Rd w' a n c l) => get_any a n c l w' h (by omega))
 obtain ⟨N, hN⟩ : ∃ N, N = (getL l).1 := ⟨_, rfl⟩
 obtain ⟨u, hu⟩ : ∃ u, u = (getL l).2 := ⟨_, rfl⟩
 rw [← hN, ← hu] at HG
 have p0 : w.cell? ⟨br, 0, none⟩ = some (.slice a n c) := hc.at 0 _ rfl
 have f0 : w.frozen? ⟨br, 0, none⟩ = false := hc.free 0
 have hn63 : n ≤ 9223372036854775807 := by omega
 have hun : u ≤ n := by rw [hu, hn]; exact getL_le l
 by_cases h0 : u = 0
 ·have HT := Lib.hid (show takeN l = none by unfold takeN; rw [← hu, if_pos h0])
  subst h0
  clear hc hrd hz hne hN hu hn
  go_enter Tryz.func120, Tryz.ntmps120
  go_wp2_with fail
  refine (HG.out _ HRD.out.1).mono ?_
  rintro e w' ⟨rfl, rfl⟩
  go_wp2_with fail
  refine (unless_no _).mono ?_
  rintro e w' ⟨rfl, rfl⟩
  go_wp2_with fail
  rw [HT.out]
  exact ⟨rfl, rfl, Only.refl _ _⟩
 ·obtain ⟨a', hs, hR, hac, hblk⟩ := hrd.slb hz u hun
  have hd1 : (l.drop u).length = n - u := by rw [List.length_drop, ← hn]
  have HT := Lib.hid (show takeN l = some (N, l.drop u) by unfold takeN; rw [← hu, if_neg h0, ← hN])
  have hsl : ∀ w', (Instr.slice 28 (.slice a n c) (some (.int .i64 (u : Int))) none none).run Tryz.prog w' = .ok (.slice a' (n - u) (c - u)) w' := fun w' => by rw [slice_l w' a n c u hun, hs]
  have hsa : ∀ w', (Instr.sliceAt 28 (.slice a n c) (some (.int .i64 (u : Int))) none none).run Tryz.prog w' = .ok (.slice a' (n - u) (c - u)) w' := fun w' => by rw [slice_at]; exact hsl w'
  have HE := Lib.hid (show RdR ok (w.setCell ⟨br, 0, none⟩ (.slice a' (n - u) (c - u))) br 134 [] (l.drop u) ∧ Only w (w.setCell ⟨br, 0, none⟩ (.slice a' (n - u) (c - u))) br by
   have ho := only_set w br 0 (.slice a' (n - u) (c - u))
   refine ⟨⟨a', c - u, by rw [hd1]; exact hc.set 0 _, ?_, hac, fun x hx hp => ?_⟩, ho⟩
   ·rw [hd1]
    exact (hR w hrd).only' ho (fun x hx hp => by
     obtain ⟨y, hy1, hy2⟩ := hblk x hx
     rw [hy2]
     exact (hne y hy1 (by omega)).1)
   ·obtain ⟨y, hy1, hy2⟩ := hblk x hx
    rw [hy2]
    rw [hd1] at hp
    exact hne y hy1 (by omega))
  have hup : decide (0 < u) = true := decide_eq_true (by omega)
  clear hc hrd hz hne hN hu hn hs hR hac hblk hd1
  go_enter Tryz.func120, Tryz.ntmps120
  go_wp2_with fail
  refine (HG.out _ HRD.out.1).mono ?_
  rintro e w' ⟨rfl, rfl⟩
  go_wp2_with fail
  refine (unless_yes _).mono ?_
  rintro e w' ⟨rfl, rfl⟩
  go_wp2_with fail
  go_ret
  rw [HT.out]
  exact ⟨rfl, HE.out⟩
set_option maxRecDepth 100000 in
set_option maxHeartbeats 2000000 in
theorem upto_any (ok : Nat → Prop) (br : Nat) (most : Nat) (l : List UInt8) (w : World) (hr : RdR ok w br 134 [] l) (hl : l.length ≤ 100000) (hm : most ≤ 1048576) : Calls Tryz.prog 121 #[.pointer (some ⟨br, 0, none⟩), .int .i64 (most : Int)] w (RNumP ok br (takeM most l) .i64 w) := by
 have HN := Lib.hid (rnum_any ok br l w hr hl)
 have hw1 : IntKind.u64.wrap (most : Int) = (most : Int) := by rw [wrap_u64]; omega
 cases ht : takeN l with
 | none =>
  have HT := Lib.hid (show takeM most l = none by
   unfold takeN at ht
   unfold takeM
   by_cases h : (getL l).2 = 0
   ·rw [if_pos (.inl h)]
   ·rw [if_neg h] at ht; cases ht)
  rw [ht] at HN
  unfold RNumP at HN
  simp only at HN
  clear ht hr
  go_enter Tryz.func121, Tryz.ntmps121
  go_wp2_with fail
  refine HN.out.mono ?_
  rintro e w' ⟨rfl, ho⟩
  have HO := Lib.hid ho
  clear ho
  go_wp2_with fail
  rw [HT.out]
  exact ⟨rfl, rfl, HO.out⟩
 | some p =>
  obtain ⟨N, r⟩ := p
  have hg : (getL l).2 ≠ 0 ∧ N = (getL l).1 ∧ r = l.drop (getL l).2 := by
   unfold takeN at ht
   by_cases h : (getL l).2 = 0
   ·rw [if_pos h] at ht; cases ht
   ·rw [if_neg h] at ht
    injection ht with ht
    injection ht with e1 e2
    exact ⟨h, e1.symm, e2.symm⟩
  have hN64 : N < 18446744073709551616 := by rw [hg.2.1]; exact getL_lt l
  rw [ht] at HN
  unfold RNumP at HN
  simp only at HN
  by_cases hle : N ≤ most
  ·have HT := Lib.hid (show takeM most l = some (N, r) by
    unfold takeM
    rw [if_neg (by rw [← hg.2.1]; exact fun h => h.elim hg.1 (by omega)), ← hg.2.1, ← hg.2.2])
   have hle' : decide (N ≤ most) = true := decide_eq_true hle
   have hw2 : IntKind.i64.wrap (N : Int) = (N : Int) := by rw [IntWalk.i64_in _ ⟨by omega, by omega⟩]
   clear ht hr hg hle
   go_enter Tryz.func121, Tryz.ntmps121
   go_wp2_with fail
   refine HN.out.mono ?_
   rintro e w1 ⟨rfl, hr1, ho1⟩
   have HO := Lib.hid (And.intro hr1 ho1)
   clear hr1 ho1
   go_wp2_with fail
   refine (unless_yes _).mono ?_
   rintro e w' ⟨rfl, rfl⟩
   go_wp2_with fail
   go_ret
   rw [HT.out]
   exact ⟨rfl, HO.out⟩
  ·have HT := Lib.hid (show takeM most l = none by
    unfold takeM
    rw [if_pos (by rw [← hg.2.1]; exact .inr (by omega))])
   have hle' : decide (N ≤ most) = false := decide_eq_false hle
   clear ht hr hg hle
   go_enter Tryz.func121, Tryz.ntmps121
   go_wp2_with fail
   refine HN.out.mono ?_
   rintro e w1 ⟨rfl, hr1, ho1⟩
   have HO := Lib.hid ho1
   clear hr1 ho1
   go_wp2_with fail
   refine (unless_no _).mono ?_
   rintro e w' ⟨rfl, rfl⟩
   go_wp2_with fail
   rw [HT.out]
   exact ⟨rfl, rfl, HO.out⟩
end Go.Proofs.YtofadpodlaakbaaGreat
