/- The walk of sha.Sum. -/
import Derived.Test.YtofadpodlaakbaaGreatShaBlock
import Derived.Test.YtofadpodlaakbaaGreatJ2
namespace Go.Proofs.YtofadpodlaakbaaGreat
open Go.ChangeShapes Go.WideShapes Go.ChangeAt Go.RowKit
set_option linter.unusedVariables false
def zeros32 : List Value := List.replicate 32 (.int .u8 0)
theorem padL_mod (l : List UInt8) : (padL l).length % 64 = 0 := by rw [padL_length]; unfold padN; omega
structure SumI (w : World) (l : List UInt8) (b3 : Nat) (wx : World) (q : Q8) (a4 : Option Addr) (k c4 : Nat) (r : List UInt8) : Prop where
 rd : Rd wx a4 (64 * k) c4 r
 ap : k ≠ 0 → ∃ b off, a4 = some ⟨b, off, none⟩ ∧ b ≠ b3
 ok : q.Ok
 val : blocksQ k q r = sumQ l
 rng : wx.rangeAt b3 0 q.cells
 th : wx.there b3 0 8
 id : wx.there w.heap.size 0 32
 lo : w.heap.size < b3
 hi : b3 < wx.heap.size
 bel : Below w.heap.size w wx
structure But (w : World) (b3 : Nat) (wr wx : World) : Prop where
 cell : ∀ p : Addr, p.block ≠ b3 → p.block < wr.heap.size → wx.cell? p = wr.cell? p ∧ wx.frozen? p = wr.frozen? p
 size : wr.heap.size ≤ wx.heap.size
 bel : Below w.heap.size w wx
theorem But.below {w wr wx wy : World} {b3 : Nat} (h : But w b3 wr wx) (hb : Below wx.heap.size wx wy) : But w b3 wr wy where
 cell p h1 h2 := by have := h.cell p h1 h2; have h3 := Nat.lt_of_lt_of_le h2 h.size; exact ⟨(hb.cell h3).trans this.1, (hb.frozen h3).trans this.2⟩
 size := Nat.le_trans h.size hb.size
 bel := h.bel.step hb
theorem But.set {w wr wx : World} {b3 : Nat} (h : But w b3 wr wx) (hlo : w.heap.size ≤ b3) (vs : List Value) : But w b3 wr (wx.setCells b3 0 vs) where
 cell p h1 h2 := by rw [World.cell?_setCells_out _ _ _ _ _ (fun h _ => absurd h h1), World.frozen?_setCells]; exact h.cell p h1 h2
 size := by rw [size_setCells]; exact h.size
 bel := below_cells hlo _ _ _ _ h.bel
theorem But.rd {w wr wx : World} {b3 b off n c : Nat} {l : List UInt8} (h : But w b3 wr wx) (hr : Rd wr (some ⟨b, off, none⟩) n c l) (hne : b ≠ b3) : Rd wx (some ⟨b, off, none⟩) n c l := by
 refine ⟨hr.len, hr.le, hr.cap, ?_⟩
 rcases hr.cells with h0 | ⟨b', off', e, hlt, hc⟩
 ·exact .inl h0
 ·cases e
  exact .inr ⟨b, off, rfl, Nat.lt_of_lt_of_le hlt h.size, fun i hi => ((h.cell ⟨b, off + i, none⟩ hne hlt).1).trans (hc i hi)⟩
theorem But.there {w wr wx : World} {b3 b n : Nat} (h : But w b3 wr wx) (ht : wr.there b 0 n) (hne : b ≠ b3) (hlt : b < wr.heap.size) : wx.there b 0 n := fun j hj => by
 obtain ⟨h1, h2⟩ := ht j hj
 have := h.cell ⟨b, 0 + j, none⟩ hne hlt
 exact ⟨by rw [this.1]; exact h1, by rw [this.2]; exact h2⟩
def Mid5 (w : World) (b3 : Nat) (q q' : Q8) (ad : Addr) (m c4 : Nat) (s0 s2 s8 s9 s10 s11 s12 s13 u14 u15 : Value) (wr : World) (f : Array Bool) (act : Act) (wx : World) : Prop :=
 ∃ v16 v17 v18 v19 v20 v21 v22, act = ⟨#[s0, undef, s2, .pointer (some ⟨b3, 0, none⟩), .slice (some ad) m c4, undef, undef, undef, s8, s9, s10, s11, s12, s13, u14, u15, v16, v17, v18, v19, v20, v21, v22, undef, undef, undef, undef, undef, undef, undef, undef, undef, undef, undef, undef, undef, undef], []⟩ ∧
  (On f 0 → v17 = .agg q.cells.toArray) ∧ (On f 1 → v18 = .slice (some ad) m c4) ∧ (On f 2 → v19 = .slice (some ad) 64 c4) ∧ (On f 3 → v20 = .tuple #[.agg q'.cells.toArray, .bool true]) ∧ (On f 4 → v16 = .tuple #[.agg q'.cells.toArray, .bool true]) ∧ (On f 5 → v21 = .agg q'.cells.toArray) ∧
  (On f 7 → On f 0) ∧ (¬ On f 7 → wx.rangeAt b3 0 q.cells) ∧ (On f 7 → wx.rangeAt b3 0 q'.cells) ∧ wx.there b3 0 8 ∧ b3 < wx.heap.size ∧ But w b3 wr wx
def PutI (wx : World) (H : Nat) (q : Q8) (j : Nat) : Prop := ∀ i, i < 4 * j → wx.cell? ⟨H, i, none⟩ = some (.int .u8 (q.bytes.getD i 0))
theorem q8_ok {q : Q8} (h : q.Ok) (j : Nat) : isW (q.get j) := by
 unfold Q8.get; split <;> first | exact h.a | exact h.b | exact h.c | exact h.d | exact h.e | exact h.f | exact h.g | exact h.h
def fourC (x : Int) : List Value := [.int .u8 (x / 16777216), .int .u8 (x / 65536 % 256), .int .u8 (x / 256 % 256), .int .u8 (x % 256)]
theorem slice32 (H o : Nat) (ho : o ≤ 28) (w : World) : (Instr.sliceAt 48 (.pointer (some ⟨H, 0, none⟩)) (some (.int .i64 (o : Int))) none none).run Tryz.prog w = .ok (.slice (some ⟨H, o, none⟩) (32 - o) (32 - o)) w := by
 have hlen : Tryz.prog.arrayLen 48 = 32 := by kernel_rfl
 have hsz : (sizeOf (Tryz.prog.elem 48)).run Tryz.prog w = .ok 1 w := by kernel_rfl
 rw [run_sliceAt_array_l w 48 ⟨H, 0, none⟩ (by kernel_rfl) .i64 (o : Int) (by omega) (by rw [hlen]; omega), hsz, hlen]
 simp only [Result.andThen, slicedAt, Int.toNat_natCast, Nat.mul_one]
 rw [if_neg (by omega)]
 have hadd : (⟨H, 0, none⟩ : Addr).add o = ⟨H, 0 + o, none⟩ := by unfold Addr.add; split <;> simp_all
 rw [hadd, Nat.zero_add]
theorem info_id : (Tryz.prog.info? 48).map (·.size) = some 32 := by kernel_rfl
theorem under_id : Tryz.prog.underlying 48 = some (.array 32 5) := by kernel_rfl
set_option maxRecDepth 100000 in
theorem index8 (q : Q8) (j : Nat) (hj : j < 8) (w : World) : (Instr.index 101 (.agg #[.int .u32 q.a, .int .u32 q.b, .int .u32 q.c, .int .u32 q.d, .int .u32 q.e, .int .u32 q.f, .int .u32 q.g, .int .u32 q.h]) (.int .i64 (j : Int))).run Tryz.prog w = .ok (.int .u32 (q.get j)) w := by
 rcases lt8 hj with rfl | rfl | rfl | rfl | rfl | rfl | rfl | rfl <;> rfl
theorem bytes_get (q : Q8) (j t : Nat) (hj : j < 8) (ht : t < 4) : (fourC (q.get j))[t]? = some (.int .u8 (q.bytes.getD (4 * j + t) 0)) := by
 rcases lt8 hj with rfl | rfl | rfl | rfl | rfl | rfl | rfl | rfl <;> (rcases (show t = 0 ∨ t = 1 ∨ t = 2 ∨ t = 3 by omega) with rfl | rfl | rfl | rfl <;> rfl)
theorem put4 {v : World} {H j : Nat} {q : Q8} (hp : PutI v H q j) (ht : v.there H 0 32) (hj : j < 8) : PutI (v.setCells H (4 * j) (fourC (q.get j))) H q (j + 1) := fun i hi => by
 by_cases h : i < 4 * j
 ·rw [World.cell?_setCells_out _ _ _ _ _ (fun _ _ => .inl h)]; exact hp i h
 ·obtain ⟨t, rfl⟩ : ∃ t, i = 4 * j + t := ⟨i - 4 * j, by omega⟩
  have ht4 : t < 4 := by omega
  have h1 : v.there H (4 * j) 4 := fun u hu => by have := ht (4 * j + u) (by omega); rwa [Nat.zero_add] at this
  have := World.rangeAt_setCells_same v H (4 * j) (fourC (q.get j)) h1 t _ (bytes_get q j t hj ht4)
  exact this
theorem copy4 {v : World} {H fb o : Nat} {x : Int} (hs : v.rangeAt fb 0 (fourC x)) (ht : v.there H 0 32) (ho : o + 4 ≤ 32) (n : Nat) (hn : n = 32 - o) :
  (Builtin.copy_ #[28, 28] 3 #[.slice (some ⟨H, o, none⟩) n n, .slice (some ⟨fb, 0, none⟩) 4 4]).run Tryz.prog v = .ok (goInt 4) (v.setCells H o (fourC x)) := by
 subst hn
 refine run_copy_cells (P := Tryz.prog) v 28 28 3 5 H o (32 - o) (32 - o) ⟨fb, 0, none⟩ 4 4 (hu := by kernel_rfl) (hs := by kernel_rfl) (hn := by rw [show Nat.min 4 (32 - o) = 4 from Nat.min_eq_left (by omega)]; rfl) (cs := fourC x) ?_ ?_ ?_ ?_
 ·intro j y hj
  have hadd : (⟨fb, 0, none⟩ : Addr).add j = ⟨fb, 0 + j, none⟩ := by unfold Addr.add; split <;> simp_all
  rw [hadd]; exact hs j y hj
 ·intro j hj
  have hj4 : j < 4 := hj
  have := (ht (o + j) (by omega)).1; rwa [Nat.zero_add] at this
 ·intro j hj
  have hj4 : j < 4 := hj
  have := (ht (o + j) (by omega)).2; rwa [Nat.zero_add] at this
 ·intro y hy; simp [fourC] at hy; rcases hy with rfl | rfl | rfl | rfl <;> rfl
set_option maxRecDepth 100000 in
set_option maxHeartbeats 2000000 in
theorem sum_any (a : Option Addr) (n c : Nat) (l : List UInt8) (w : World) (hr : Rd w a n c l) (hn : n ≤ 5000) : Calls Tryz.prog 50 #[.slice a n c] w fun e w' => e = .returned (idV l) ∧ Below w.heap.size w w' := by
 have hq : startQ.val = .agg #[.int .u32 startQ.a, .int .u32 startQ.b, .int .u32 startQ.c, .int .u32 startQ.d, .int .u32 startQ.e, .int .u32 startQ.f, .int .u32 startQ.g, .int .u32 startQ.h] := rfl
 go_enter Tryz.func50, Tryz.ntmps50
 go_wp2_with fail
 generalize hw1 : w.alloc (.cells _ 48) = w1
 have hB1 : Below w.heap.size w w1 := by rw [← hw1]; exact (Below.refl _ _).alloc (Nat.le_refl _) _
 have hT1 : w1.there w.heap.size 0 32 := by rw [← hw1]; exact there_new w zeros32 48
 have hs1 : w1.heap.size = w.heap.size + 1 := by rw [← hw1]; simp
 clear hw1
 refine (start_any _).mono ?_
 rintro e w2 ⟨rfl, hb2⟩
 rw [hq]
 go_wp2_with fail
 generalize hw3 : w2.alloc (.cells _ 101) = w3
 have hB3 : Below w2.heap.size w2 w3 := by rw [← hw3]; exact (Below.refl _ _).alloc (Nat.le_refl _) _
 have hR3 : w3.rangeAt w2.heap.size 0 startQ.cells := by rw [← hw3]; exact q8_cells_new w2 startQ 101
 have hT3 : w3.there w2.heap.size 0 8 := by rw [← hw3]; exact there_new w2 startQ.cells 101
 have hs3 : w3.heap.size = w2.heap.size + 1 := by rw [← hw3]; simp
 clear hw3
 have hBw3 : Below w.heap.size w w3 := hB1.step (hb2.step hB3)
 have hI3 : w3.there w.heap.size 0 32 := there_below hT1 (hb2.step hB3) (by omega)
 have hlo : w.heap.size < w2.heap.size := by have := hb2.size; omega
 refine (pad_any a n c l w3 (hr.below hBw3) hn).mono ?_
 rintro e w4 ⟨v4, rfl, hown, hb4⟩
 obtain ⟨k0, hk⟩ : ∃ k, (padL l).length = 64 * k := ⟨(padL l).length / 64, by have := padL_mod l; omega⟩
 rw [hk] at hown
 obtain ⟨a0, c0, rfl, hr4⟩ := Rd.of_own hown
 have hS : SumI w l w2.heap.size w4 startQ a0 k0 c0 (padL l) := by
  refine ⟨hr4, fun h0 => ?_, startQ_ok, ?_, rangeAt_below hR3 hb4 (by omega), there_below hT3 hb4 (by omega), there_below hI3 hb4 (by have := hb2.size; omega), hlo, by have := hb4.size; omega, hBw3.step hb4⟩
  ·rcases hown.2 with ⟨_, h1⟩ | ⟨g, cap, cur, e, hg, _⟩
   ·omega
   ·cases e; exact ⟨g, 0, rfl, by omega⟩
  ·unfold sumQ; rw [hk, Nat.mul_div_cancel_left _ (by decide)]
 have HS := Lib.hid hS
 clear hR3 hT3 hB3 hb2 hr hT1 hB1 hBw3 hI3 hown hr4 hS hb4
 generalize w2.heap.size = b3 at *
 clear hs3 hs1
 go_wp2_with fail
 go_loopw [4] (fun vv wr => ∃ (k : Nat) (q : Q8) (a4 : Option Addr) (c4 : Nat) (r : List UInt8), vv = .slice a4 (64 * k) c4 ∧ Hid (SumI w l b3 wr q a4 k c4 r))
  (fun vv _ => match vv with | .slice _ m _ => m | _ => 0)
 case atStart => exact ⟨k0, startQ, a0, c0, _, rfl, HS.out⟩
 case round =>
  obtain ⟨k, q, a4, c4, r, rfl, HI⟩ := hrel
  cases k with
  | succ k =>
   obtain ⟨b, off, rfl, hne⟩ := HI.out.ap (by omega)
   obtain ⟨hrd, _, hok, hval, hrng, hth, hid, hlo3, hhi, hbel⟩ := HI.out
   obtain ⟨m, hm⟩ : ∃ m, m = 64 * (k + 1) := ⟨_, rfl⟩
   rw [← hm] at hrd ⊢
   have hm0 : (0 : Int) < (m : Int) := by omega
   have hm64 : ¬ (m : Int) < 64 := by omega
   have hrl : r.length = m := hrd.len
   have hcm : m ≤ c4 := hrd.le
   have hcap := hrd.cap
   have hr64 : Rd wr (some ⟨b, off, none⟩) 64 c4 (r.take 64) := hrd.front 64 (by omega)
   obtain ⟨q', hq'⟩ : ∃ q', q' = blockQ q (r.take 64) := ⟨_, rfl⟩
   have HBLK := Lib.hid (fun (w' : World) (h : Rd w' (some ⟨b, off, none⟩) 64 c4 (r.take 64)) => block_any (some ⟨b, off, none⟩) c4 (r.take 64) q w' hok h)
   rw [← hq'] at HBLK
   have HQ' := Lib.hid hq'
   have HM := Lib.hid hm
   clear hm hq' HI
   go_wp2_with fail
   refine region_inv (by kernel_rfl) (by kernel_rfl) (Mid5 w b3 q q' ⟨b, off, none⟩ m c4 (.slice a n c) (.pointer (some ⟨w.heap.size, 0, none⟩)) (.agg #[.int .u32 startQ.a, .int .u32 startQ.b, .int .u32 startQ.c, .int .u32 startQ.d, .int .u32 startQ.e, .int .u32 startQ.f, .int .u32 startQ.g, .int .u32 startQ.h]) (.slice a n c) (.slice a0 (64 * k0) c0) (.slice (some ⟨b, off, none⟩) m c4) (.int .i64 (m : Int)) (.bool true) u14 u15 wr) ?_ ?_ ?_
   ·have hoff : ∀ j, ¬ On (Array.replicate 8 false) j := by
     intro j hj; simp only [On, Array.getD_eq_getD_getElem?, Array.getElem?_replicate] at hj; split at hj <;> simp at hj
    exact ⟨_, _, _, _, _, _, _, rfl, fun x => absurd x (hoff _), fun x => absurd x (hoff _), fun x => absurd x (hoff _), fun x => absurd x (hoff _), fun x => absurd x (hoff _), fun x => absurd x (hoff _), fun x => absurd x (hoff _), fun _ => hrng, fun x => absurd x (hoff _), hth, hhi, ⟨fun _ _ _ => ⟨rfl, rfl⟩, Nat.le_refl _, hbel.drew⟩⟩
   ·rintro i o f act wm hio hs hn he hI K hK
    have hi : i < 8 := (Array.getElem?_eq_some_iff.1 hio).1
    replace hs : f.size = 8 := hs
    obtain ⟨v16, v17, v18, v19, v20, v21, v22, rfl, p0, p1, p2, p3, p4, p5, cc, r0, r1, ht, hb3, hB⟩ := hI
    match i, hi with
    | 0, _ =>
     cases hio
     have k : ∀ j, j ≠ 0 → On (f.setIfInBounds 0 true) j → On f j := fun j hj x => on_back (by omega) x hj
     have k' : ∀ j, On f j → On (f.setIfInBounds 0 true) j := fun j x => (on_put (by omega)).2 (.inr x)
     have n7 : ¬ On f 7 := fun x => on_off (by omega) hn (cc x)
     refine wanted_load (by rfl) 17 rfl 101 (.tmp 3) rfl b3 rfl q.cells _ (r0 n7) under_w8 rfl info_w8 ?_
     simp only [List.setIfInBounds_toArray, List.set_cons_zero, List.set_cons_succ]
     exact hK _ _ ⟨_, _, _, _, _, _, _, rfl, fun _ => rfl, fun x => p1 (k _ (by decide) x), fun x => p2 (k _ (by decide) x), fun x => p3 (k _ (by decide) x), fun x => p4 (k _ (by decide) x), fun x => p5 (k _ (by decide) x), fun x => k' _ (cc (k _ (by decide) x)), fun x => r0 (fun y => x (k' _ y)), fun x => r1 (k _ (by decide) x), ht, hb3, hB⟩
    | 1, _ =>
     cases hio
     have k : ∀ j, j ≠ 1 → On (f.setIfInBounds 1 true) j → On f j := fun j hj x => on_back (by omega) x hj
     have k' : ∀ j, On f j → On (f.setIfInBounds 1 true) j := fun j x => (on_put (by omega)).2 (.inr x)
     go_simp
     exact hK _ _ ⟨_, _, _, _, _, _, _, rfl, fun x => p0 (k _ (by decide) x), fun _ => rfl, fun x => p2 (k _ (by decide) x), fun x => p3 (k _ (by decide) x), fun x => p4 (k _ (by decide) x), fun x => p5 (k _ (by decide) x), fun x => k' _ (cc (k _ (by decide) x)), fun x => r0 (fun y => x (k' _ y)), fun x => r1 (k _ (by decide) x), ht, hb3, hB⟩
    | 2, _ =>
     cases hio
     have k : ∀ j, j ≠ 2 → On (f.setIfInBounds 2 true) j → On f j := fun j hj x => on_back (by omega) x hj
     have k' : ∀ j, On f j → On (f.setIfInBounds 2 true) j := fun j x => (on_put (by omega)).2 (.inr x)
     have h1 : On f 1 := he ⟨1, .data⟩ (by simp) rfl
     obtain rfl := p1 h1
     go_simp
     rw [if_pos (by omega)]
     go_simp
     exact hK _ _ ⟨_, _, _, _, _, _, _, rfl, fun x => p0 (k _ (by decide) x), fun x => p1 (k _ (by decide) x), fun _ => rfl, fun x => p3 (k _ (by decide) x), fun x => p4 (k _ (by decide) x), fun x => p5 (k _ (by decide) x), fun x => k' _ (cc (k _ (by decide) x)), fun x => r0 (fun y => x (k' _ y)), fun x => r1 (k _ (by decide) x), ht, hb3, hB⟩
    | 3, _ =>
     cases hio
     have k : ∀ j, j ≠ 3 → On (f.setIfInBounds 3 true) j → On f j := fun j hj x => on_back (by omega) x hj
     have k' : ∀ j, On f j → On (f.setIfInBounds 3 true) j := fun j x => (on_put (by omega)).2 (.inr x)
     have h0 : On f 0 := he ⟨0, .data⟩ (by simp) rfl
     have h2 : On f 2 := he ⟨2, .data⟩ (by simp) rfl
     obtain rfl := p0 h0
     obtain rfl := p2 h2
     go_simp
     refine (HBLK.out _ (hB.rd hr64 hne)).mono ?_
     rintro e w6 ⟨rfl, hb⟩
     exact hK _ _ ⟨_, _, _, _, _, _, _, rfl, fun x => p0 (k _ (by decide) x), fun x => p1 (k _ (by decide) x), fun x => p2 (k _ (by decide) x), fun _ => rfl, fun x => p4 (k _ (by decide) x), fun x => p5 (k _ (by decide) x), fun x => k' _ (cc (k _ (by decide) x)), fun x => rangeAt_below (r0 (fun y => x (k' _ y))) hb hb3, fun x => rangeAt_below (r1 (k _ (by decide) x)) hb hb3, there_below ht hb hb3, Nat.lt_of_lt_of_le hb3 hb.size, hB.below hb⟩
    | 4, _ =>
     cases hio
     have k : ∀ j, j ≠ 4 → On (f.setIfInBounds 4 true) j → On f j := fun j hj x => on_back (by omega) x hj
     have k' : ∀ j, On f j → On (f.setIfInBounds 4 true) j := fun j x => (on_put (by omega)).2 (.inr x)
     have h3 : On f 3 := he ⟨3, .data⟩ (by simp) rfl
     obtain rfl := p3 h3
     go_simp
     exact hK _ _ ⟨_, _, _, _, _, _, _, rfl, fun x => p0 (k _ (by decide) x), fun x => p1 (k _ (by decide) x), fun x => p2 (k _ (by decide) x), fun x => p3 (k _ (by decide) x), fun _ => rfl, fun x => p5 (k _ (by decide) x), fun x => k' _ (cc (k _ (by decide) x)), fun x => r0 (fun y => x (k' _ y)), fun x => r1 (k _ (by decide) x), ht, hb3, hB⟩
    | 5, _ =>
     cases hio
     have k : ∀ j, j ≠ 5 → On (f.setIfInBounds 5 true) j → On f j := fun j hj x => on_back (by omega) x hj
     have k' : ∀ j, On f j → On (f.setIfInBounds 5 true) j := fun j x => (on_put (by omega)).2 (.inr x)
     have h4 : On f 4 := he ⟨4, .data⟩ (by simp) rfl
     obtain rfl := p4 h4
     go_simp
     exact hK _ _ ⟨_, _, _, _, _, _, _, rfl, fun x => p0 (k _ (by decide) x), fun x => p1 (k _ (by decide) x), fun x => p2 (k _ (by decide) x), fun x => p3 (k _ (by decide) x), fun x => p4 (k _ (by decide) x), fun _ => rfl, fun x => k' _ (cc (k _ (by decide) x)), fun x => r0 (fun y => x (k' _ y)), fun x => r1 (k _ (by decide) x), ht, hb3, hB⟩
    | 6, _ =>
     cases hio
     have k : ∀ j, j ≠ 6 → On (f.setIfInBounds 6 true) j → On f j := fun j hj x => on_back (by omega) x hj
     have k' : ∀ j, On f j → On (f.setIfInBounds 6 true) j := fun j x => (on_put (by omega)).2 (.inr x)
     have h4 : On f 4 := he ⟨4, .data⟩ (by simp) rfl
     obtain rfl := p4 h4
     go_simp
     exact hK _ _ ⟨_, _, _, _, _, _, _, rfl, fun x => p0 (k _ (by decide) x), fun x => p1 (k _ (by decide) x), fun x => p2 (k _ (by decide) x), fun x => p3 (k _ (by decide) x), fun x => p4 (k _ (by decide) x), fun x => p5 (k _ (by decide) x), fun x => k' _ (cc (k _ (by decide) x)), fun x => r0 (fun y => x (k' _ y)), fun x => r1 (k _ (by decide) x), ht, hb3, hB⟩
    | 7, _ =>
     cases hio
     have k : ∀ j, j ≠ 7 → On (f.setIfInBounds 7 true) j → On f j := fun j hj x => on_back (by omega) x hj
     have k' : ∀ j, On f j → On (f.setIfInBounds 7 true) j := fun j x => (on_put (by omega)).2 (.inr x)
     have h5 : On f 5 := he ⟨5, .data⟩ (by simp) rfl
     have h0 : On f 0 := he ⟨0, .phase⟩ (by simp) rfl
     obtain rfl := p5 h5
     refine wanted_store (by rfl) rfl 101 (.tmp 3) (.tmp 21) rfl b3 q'.cells rfl rfl ht info_w8 (cells_one q') ?_
     exact hK _ _ ⟨_, _, _, _, _, _, _, rfl, fun x => p0 (k _ (by decide) x), fun x => p1 (k _ (by decide) x), fun x => p2 (k _ (by decide) x), fun x => p3 (k _ (by decide) x), fun x => p4 (k _ (by decide) x), fun x => p5 (k _ (by decide) x), fun _ => k' _ h0, fun x => absurd ((on_put (by omega)).2 (.inl rfl)) x, fun _ => set_same ht, World.there_setCells ht b3 0 _, by rw [size_setCells]; exact hb3, hB.set (Nat.le_of_lt hlo3) _⟩
   ·rintro f act w5 hall hs ⟨v16, v17, v18, v19, v20, v21, v22, rfl, p0, p1, p2, p3, p4, p5, cc, r0, r1, ht, hb3, hB⟩
    have R := Lib.hid (r1 (on_all hall hs 7 (by decide)))
    clear cc r0 r1 p0 p1 p2 p3 p4 p5 hall hs
    go_wp2_with fail
    have hne64 : (m - 64) = 64 * k := by have := HM.out; omega
    refine ⟨⟨k, q', _, c4 - 64, r.drop 64, by rw [hne64], Lib.hid ⟨?_, ?_, ?_, ?_, R.out, ht, ?_, hlo3, hb3, hB.bel⟩⟩, ?_⟩
    ·have h1 := (hB.rd hrd hne).part 64 m (by omega) (Nat.le_refl _)
     rw [List.take_of_length_le (by omega), hne64] at h1
     by_cases hc : c4 = 64
     ·have hk0 : 64 * k = 0 := by omega
      have hd0 : List.drop 64 r = [] := List.drop_eq_nil_of_le (by omega)
      rw [hk0, hd0, hc]
      exact Rd.zero _ _ _ (by omega)
     ·rw [if_neg hc]; exact h1
    ·intro hk
     exact ⟨b, off + 64, by rw [if_neg (by omega)], hne⟩
    ·rw [HQ'.out]; exact blockQ_ok _ _
    ·rw [HQ'.out]; exact hval
    ·exact hB.there hid (by omega) (by omega)
    ·show m - 64 < m
     omega
  | zero =>
   rw [Nat.mul_zero]
   obtain ⟨_, _, hok, hval, hrng, hth, hid, hlo3, hhi, hbel⟩ := HI.out
   have hqv : q = sumQ l := hval
   obtain ⟨d0, d1, d2, d3, d4, d5, d6, d7⟩ := cells_of hrng
   have HID := Lib.hid hid
   have HBE := Lib.hid hbel
   have HQV := Lib.hid hqv
   clear hid hbel hqv hval hrng hth HI HS
   go_wp2_with fail
   go_loopw [24] (fun kv wx => ∃ j : Nat, j ≤ 8 ∧ kv = .int .i64 (j : Int) ∧ Hid (PutI wx w.heap.size q j) ∧ Hid (wx.there w.heap.size 0 32) ∧ Hid (Below w.heap.size w wx))
    (fun kv _ => 8 - (intOf kv).toNat)
   case atStart => exact ⟨0, by omega, rfl, Lib.hid (fun i hi => absurd hi (by omega)), HID.out, HBE.out⟩
   case round =>
    obtain ⟨j, hj, rfl, hP, hT, hB⟩ := hrel
    by_cases hlt : j < 8
    ·obtain ⟨hx0, hx1⟩ := q8_ok hok j
     have hix : ∀ w : World, (Instr.index 101 (.agg #[.int .u32 q.a, .int .u32 q.b, .int .u32 q.c, .int .u32 q.d, .int .u32 q.e, .int .u32 q.f, .int .u32 q.g, .int .u32 q.h]) (.int .i64 (j : Int))).run Tryz.prog w = .ok (.int .u32 (q.get j)) w := fun w => index8 q j hlt w
     obtain ⟨o, hoo⟩ : ∃ o, o = 4 * j := ⟨_, rfl⟩
     obtain ⟨x, hxx⟩ : ∃ x, x = q.get j := ⟨_, rfl⟩
     rw [← hxx] at hx0 hx1 hix
     have HX := Lib.hid hxx
     have HOO := Lib.hid hoo
     have hlt' : (j : Int) < 8 := by omega
     have hj0 : (0 : Int) ≤ (j : Int) := by omega
     clear hxx hoo
     go_wp2_with fail
     refine (four_any x _ hx0 hx1).mono ?_
     rintro e w7 ⟨rfl, hb7⟩
     go_wp2_with fail
     generalize hw8 : w7.alloc (.cells _ 105) = w8
     have hb8 : Below w7.heap.size w7 w8 := by rw [← hw8]; exact (Below.refl _ _).alloc (Nat.le_refl _) _
     have hR8 : w8.rangeAt w7.heap.size 0 (fourC x) := by rw [← hw8]; exact fun j v hj => new_cell (cs := (fourC x).toArray) (by rw [Nat.zero_add]; simpa using hj)
     have hb78 := Below.step hb7 hb8
     have hHlt : w.heap.size < wr.heap.size := by have := hT.out 0 (by decide); obtain ⟨h1, _⟩ := this; obtain ⟨u, hu⟩ := Option.isSome_iff_exists.1 h1; exact World.block_lt_of_cell? _ _ hu
     have hT8 := there_below hT.out hb78 hHlt
     have HP8 : Hid (PutI w8 w.heap.size q j) := Lib.hid (fun i hi => (hb78.cell (p := ⟨w.heap.size, i, none⟩) hHlt).trans (hP.out i hi))
     have HB8 := Lib.hid (hB.out.step hb78)
     have HT8 := Lib.hid hT8
     have ho28 : o ≤ 28 := by have := HOO.out; omega
     have HC : Hid (∀ n, n = 32 - o → (Builtin.copy_ #[28, 28] 3 #[.slice (some ⟨w.heap.size, o, none⟩) n n, .slice (some ⟨w7.heap.size, 0, none⟩) 4 4]).run Tryz.prog w8.drew = .ok (goInt 4) (w8.drew.setCells w.heap.size o (fourC x))) := Lib.hid (fun n hn => copy4 (v := w8.drew) hR8 hT8 (by omega) n hn)
     have hjw : IntKind.i64.wrap ((j : Int) * 4) = (o : Int) := by
      have := HOO.out
      rw [IntWalk.i64_in _ ⟨by omega, by omega⟩]; omega
     have hsl : ∀ w' : World, (Instr.sliceAt 48 (.pointer (some ⟨w.heap.size, 0, none⟩)) (some (.int .i64 (o : Int))) none none).run Tryz.prog w' = .ok (.slice (some ⟨w.heap.size, o, none⟩) (32 - o) (32 - o)) w' := fun w' => slice32 _ o ho28 w'
     have ho28' : (o : Int) ≤ 28 := by omega
     have ho0 : (0 : Int) ≤ (o : Int) := by omega
     clear hw8 hb8 hR8 hb78 hb7 hT8
     go_region_law ((refine step_copy rfl (.tmp 32) (.tmp 33) 28 28 rfl _ _ (by go_simp) (by go_simp) (HC.out _ rfl) ?_))
     obtain ⟨w9, hw9⟩ : ∃ w9, w9 = w8.drew.setCells w.heap.size o (fourC x) := ⟨_, rfl⟩
     rw [← hw9]
     have HE : Hid (PutI w9 w.heap.size q (j + 1) ∧ w9.there w.heap.size 0 32 ∧ Below w.heap.size w w9) := by
      refine Lib.hid ⟨?_, ?_, ?_⟩
      ·rw [hw9, HOO.out, HX.out]; exact put4 (v := w8.drew) HP8.out HT8.out hlt
      ·rw [hw9]; exact World.there_setCells (w := w8.drew) HT8.out _ _ _
      ·rw [hw9]; exact below_cells (Nat.le_refl _) _ _ _ _ HB8.out.drew
     clear hw9 hsl hjw hix HC
     go_wp2_with fail
     go_roundw
     case rel => exact ⟨j + 1, by omega, by go_num, HE.out.1, HE.out.2.1, HE.out.2.2⟩
     case measure => simp [intOf]; omega
    ·have hlt' : ¬ (j : Int) < 8 := by omega
     obtain rfl : j = 8 := by omega
     have hRI : wr.rangeAt w.heap.size 0 (q.bytes.map (Value.int .u8)) := fun i v hi => by
      have hl : i < 32 := by have := (List.getElem?_eq_some_iff.1 hi).1; simpa [Q8.bytes, fourL] using this
      rw [Nat.zero_add, hP.out i (by omega), ← hi, List.getElem?_map, List.getD_eq_getElem?_getD, List.getElem?_eq_getElem (by simpa [Q8.bytes, fourL] using hl)]
      rfl
     have HRI := Lib.hid hRI
     clear hRI
     go_upto_region 12 with fail
     rename_i K1 hK1
     go_step
     refine wpList_load_mid rfl 48 (.tmp 2) rfl w.heap.size 0 rfl (q.bytes.map (Value.int .u8)) _ HRI.out under_id rfl info_id ?_
     simp only [Act.put, List.setIfInBounds_toArray, List.set_cons_zero, List.set_cons_succ]
     refine wpList_store_mid rfl 48 (.tmp 2) (.tmp 36) rfl w.heap.size 0 (q.bytes.map (Value.int .u8)).toArray rfl rfl ?h1 ?h2 ?h3 ?_
     case h1 => exact hT.out
     case h2 => exact info_id
     case h3 => exact all_oneCell_toArray (by intro v hv; obtain ⟨x, _, rfl⟩ := List.mem_map.1 hv; rfl)
     go_step
     refine hK1 _ _ ?_
     go_step
     refine bodyPost_ret (v := idV l) ?_ rfl ⟨rfl, ?_⟩
     ·have hl := run_loadVar_mid (P := Tryz.prog) _ w.heap.size 0 48 (q.bytes.map (Value.int .u8)) _ (World.rangeAt_setCells_same wr w.heap.size 0 (q.bytes.map (Value.int .u8)) hT.out) under_id rfl info_id
      simp [results, Tryz.results50, Act.put, asAddr, hl]
      unfold idV idOf
      rw [HQV.out]
     ·exact below_cells (Nat.le_refl _) _ _ _ _ hB.out
end Go.Proofs.YtofadpodlaakbaaGreat
