/- The statement ShaBlocks, walked out of the contracts of what it calls. -/
import Derived.Test.YtcjkgegahfligaaShaRef
import Derived.OpenShut
import Derived.WideShapes
namespace Go.Proofs.Ytcjkgegahfligaa
open Go.ChangeShapes Go.WideShapes Go.ChangeAt Go.RowKit
set_option linter.unusedVariables false

set_option maxRecDepth 100000 in
theorem block_ref_no (a : Option Addr) (n c : Nat) (l : List UInt8) (h : Q8) (w : World) (hr : Rd w a n c l) (hn : n ≠ 64) : Calls Try.prog 10 #[h.val, .slice a n c] w fun e w' => e = .returned (.tuple #[h.val, .bool false]) ∧ Below w.heap.size w w' := by
  have hi : ((n : Int) == 64) = false := by simp; omega
  have hi2 : ¬ (n : Int) = 64 := by omega
  unfold Q8.val
  go_enter Try.func10, Try.ntmps10
  go_wp2
  refine bodyPost_ret (v := .tuple #[h.val, .bool false]) ?_ rfl ⟨rfl, ((Below.refl _ _).alloc (Nat.le_refl _) _).alloc (by simp) _⟩
  have hs := q8_cells_new (w.alloc (.cells h.cells.toArray 23)) h 23
  rw [show (w.alloc (.cells h.cells.toArray 23)).heap.size = w.heap.size + 1 by simp] at hs
  have hl := run_loadVar_mid (P := Try.prog) _ (w.heap.size + 1) 0 23 h.cells _ hs under_w8 rfl info_w8
  unfold Q8.cells at hl
  simp [results, Try.results10, asAddr, hl]
  rfl

theorem okWide_arr {P : Program} {w : World} {r : Reach} {base n : Nat} {t e : TypeId} {v : Value} (ht : P.underlying t = some (.array n e)) (h : Value.okWide P w r base t v) : ∃ cs, v = .agg cs ∧ cs.size = P.cellsOf t := by
  simp only [Value.okWide, ht] at h
  obtain ⟨cs, h1, h2, _⟩ := h
  exact ⟨cs, h1, h2⟩
/-- The eight words of a value. -/
def Q8.ints (q : Q8) : List Int := [q.a, q.b, q.c, q.d, q.e, q.f, q.g, q.h]
theorem eq8 (q : Q8) (w : World) : (Op.equalIn 10000 23 (.agg #[.int .u32 q.a, .int .u32 q.b, .int .u32 q.c, .int .u32 q.d, .int .u32 q.e, .int .u32 q.f, .int .u32 q.g, .int .u32 q.h]) (.agg #[.int .u32 q.a, .int .u32 q.b, .int .u32 q.c, .int .u32 q.d, .int .u32 q.e, .int .u32 q.f, .int .u32 q.g, .int .u32 q.h])).run Try.prog w = .ok true w := by
  have := run_equalIn_arr_int (P := Try.prog) w 9998 q.ints q.ints Try.underlying23 Try.underlying22 (by kernel_rfl) rfl rfl
  rw [beq_self_eq_true] at this
  exact this

set_option maxRecDepth 100000 in
set_option maxHeartbeats 4000000 in
theorem shaBlocks_walk (h : Q8) (a : Option Addr) (n c : Nat) (l : List UInt8) (w : World) (ho : h.Ok) (hr : Rd w a n c l) :
    Calls Try.prog 3 #[h.val, .slice a n c] w fun e w' => e = .returned (.bool true) ∧ Below w.heap.size w w' := by
  unfold Q8.val
  have hBx : Below w.heap.size w (w.alloc (.cells h.cells.toArray 23)) := (Below.refl _ _).alloc (Nat.le_refl _) _
  have hRx : (w.alloc (.cells h.cells.toArray 23)).rangeAt w.heap.size 0 h.cells := q8_cells_new w h 23
  have hLx : w.heap.size < (w.alloc (.cells h.cells.toArray 23)).heap.size := by simp
  by_cases hl : n ≤ 100
  case neg =>
    have hl2 : 100 < (n : Int) := by omega
    have hl3 : n ≤ 9223372036854775807 := Nat.le_trans hr.le hr.cap
    have HB := Lib.hid hBx
    clear hr hBx hRx hLx
    go_enter Try.func3, Try.ntmps3
    go_wp2_with fail
    refine (awake_any _).mono ?_
    rintro e v1 ⟨rfl, hb1⟩
    go_wp2_with fail
    go_ret
    exact ⟨rfl, HB.out.step hb1⟩
  have hl2 : ¬ 100 < (n : Int) := by omega
  obtain ⟨q', is, hblk, href⟩ : ∃ (q' : Q8) (is : Bool), (∀ w' : World, Rd w' a n c l → Calls Try.prog 9 #[.agg #[.int .u32 h.a, .int .u32 h.b, .int .u32 h.c, .int .u32 h.d, .int .u32 h.e, .int .u32 h.f, .int .u32 h.g, .int .u32 h.h], .slice a n c] w' fun e w'' => e = .returned (.tuple #[.agg #[.int .u32 q'.a, .int .u32 q'.b, .int .u32 q'.c, .int .u32 q'.d, .int .u32 q'.e, .int .u32 q'.f, .int .u32 q'.g, .int .u32 q'.h], .bool is]) ∧ Below w'.heap.size w' w'') ∧
      (∀ w' : World, Rd w' a n c l → Calls Try.prog 10 #[.agg #[.int .u32 h.a, .int .u32 h.b, .int .u32 h.c, .int .u32 h.d, .int .u32 h.e, .int .u32 h.f, .int .u32 h.g, .int .u32 h.h], .slice a n c] w' fun e w'' => e = .returned (.tuple #[.agg #[.int .u32 q'.a, .int .u32 q'.b, .int .u32 q'.c, .int .u32 q'.d, .int .u32 q'.e, .int .u32 q'.f, .int .u32 q'.g, .int .u32 q'.h], .bool is]) ∧ Below w'.heap.size w' w'') := by
    by_cases h64 : n = 64
    · subst h64
      exact ⟨blockQ h l, true, fun w' hr' => block_any a c l h w' ho hr', fun w' hr' => block_ref a c l h w' ho hr'⟩
    · exact ⟨h, false, fun w' hr' => block_no a n c l h w' hr' h64, fun w' hr' => block_ref_no a n c l h w' hr' h64⟩
  have HB := Lib.hid hBx
  have HRX := Lib.hid hRx
  have HLX := Lib.hid hLx
  have HR := Lib.hid hr
  have H1 := Lib.hid hblk
  have H2 := Lib.hid href
  have he8 := eq8 q'
  have hs8 := eq8 startQ
  have hq : startQ.val = .agg #[.int .u32 startQ.a, .int .u32 startQ.b, .int .u32 startQ.c, .int .u32 startQ.d, .int .u32 startQ.e, .int .u32 startQ.f, .int .u32 startQ.g, .int .u32 startQ.h] := rfl
  have HQ := Lib.hid hq
  clear hr hBx hRx hLx hblk href hq
  go_enter Try.func3, Try.ntmps3
  go_wp2_with fail
  refine (awake_any _).mono ?_
  rintro e v1 ⟨rfl, hb1⟩
  obtain ⟨c0, c1, c2, c3, c4, c5, c6, c7⟩ := cells_of (rangeAt_below HRX.out hb1 HLX.out)
  have hb01 := HB.out.step hb1
  have hlt1 := Nat.lt_of_lt_of_le HLX.out hb1.size
  go_wp2_with fail
  refine (H1.out _ (HR.out.below hb01)).mono ?_
  rintro e v2 ⟨rfl, hb2⟩
  replace c0 := carry_cell c0 hb2
  replace c1 := carry_cell c1 hb2
  replace c2 := carry_cell c2 hb2
  replace c3 := carry_cell c3 hb2
  replace c4 := carry_cell c4 hb2
  replace c5 := carry_cell c5 hb2
  replace c6 := carry_cell c6 hb2
  replace c7 := carry_cell c7 hb2
  go_upto_region 5 with fail
  generalize hw3 : v2.alloc (.cells _ 23) = v3
  have hb3 : Below v2.heap.size v2 v3 := by rw [← hw3]; exact (Below.refl _ _).alloc (Nat.le_refl _) _
  obtain ⟨d0, d1, d2, d3, d4, d5, d6, d7⟩ := cells_of (s := q') (show v3.rangeAt v2.heap.size 0 q'.cells by rw [← hw3]; exact q8_cells_new v2 q' 23)
  clear hw3
  replace c0 := carry_cell c0 hb3
  replace c1 := carry_cell c1 hb3
  replace c2 := carry_cell c2 hb3
  replace c3 := carry_cell c3 hb3
  replace c4 := carry_cell c4 hb3
  replace c5 := carry_cell c5 hb3
  replace c6 := carry_cell c6 hb3
  replace c7 := carry_cell c7 hb3
  have HB3 := Lib.hid (hb01.step (hb2.step hb3))
  generalize v2.heap.size = bx at d0 d1 d2 d3 d4 d5 d6 d7 ⊢
  clear hb01 hlt1 hb1 hb2 hb3
  go_wp2_with fail
  refine (H2.out _ (HR.out.below HB3.out)).mono ?_
  rintro e v4 ⟨rfl, hb4⟩
  replace d0 := carry_cell d0 hb4
  replace d1 := carry_cell d1 hb4
  replace d2 := carry_cell d2 hb4
  replace d3 := carry_cell d3 hb4
  replace d4 := carry_cell d4 hb4
  replace d5 := carry_cell d5 hb4
  replace d6 := carry_cell d6 hb4
  replace d7 := carry_cell d7 hb4
  clear c0 c1 c2 c3 c4 c5 c6 c7
  go_upto_region 6 with fail
  generalize hw5 : v4.alloc (.cells _ 23) = v5
  have hb5 : Below v4.heap.size v4 v5 := by rw [← hw5]; exact (Below.refl _ _).alloc (Nat.le_refl _) _
  obtain ⟨f0, f1, f2, f3, f4, f5, f6, f7⟩ := cells_of (s := q') (show v5.rangeAt v4.heap.size 0 q'.cells by rw [← hw5]; exact q8_cells_new v4 q' 23)
  clear hw5
  replace d0 := carry_cell d0 hb5
  replace d1 := carry_cell d1 hb5
  replace d2 := carry_cell d2 hb5
  replace d3 := carry_cell d3 hb5
  replace d4 := carry_cell d4 hb5
  replace d5 := carry_cell d5 hb5
  replace d6 := carry_cell d6 hb5
  replace d7 := carry_cell d7 hb5
  have HB5 := Lib.hid (HB3.out.step (hb4.step hb5))
  generalize v4.heap.size = by4 at f0 f1 f2 f3 f4 f5 f6 f7 ⊢
  clear hb4 hb5
  go_wp2_with (first
    | (go_at_call 11; refine (start_any _).mono ?_; rintro e v6 ⟨rfl, hb6⟩; rw [HQ.out])
    | (go_at_call 12; refine (start_ref _).mono ?_; rintro e v7 ⟨rfl, hb7⟩; rw [HQ.out]))
  go_ret
  exact ⟨rfl, HB5.out.step (hb6.step hb7)⟩

/-- An argument of eight words, opened. -/
theorem open_q8 {H : Type} {enc : TypeId × Value → H} {w w' : World} {base b0 : Nat} {spare : Nat → Bool} {held : Bool} {r : Reach} {v : Value} {d : DataW H} {p : List MemPlace}
    (hv : Value.okWide Try.prog w' r b0 23 v) (h : DataW.Trod enc Try.prog w base spare held 23 v d p) : ∃ q : Q8, v = q.val ∧ q.Ok := by
  obtain ⟨cs, rfl, hsz⟩ := okWide_arr under_w8 hv
  have hC : Try.prog.cellsOf 23 = 8 := by kernel_rfl
  have hE : Try.prog.cellsOf 22 = 1 := by kernel_rfl
  rw [hC] at hsz
  obtain ⟨l⟩ := cs
  obtain ⟨fuel, hf⟩ := h
  obtain ⟨xs, m, _, _, _, hl, he⟩ := DataW.trod_array under_w8 hf
  simp only [hE, Value.cells] at he
  have key : ∀ (i : Nat) (c : Value), i < 8 → l[i]? = some c → ∃ n, c = .int .u32 n ∧ (Lit.int .u32 n).wf = true := by
    intro i c hi hc
    have h1 := he i hi
    have hx : xs[i]? = some xs[i] := List.getElem?_eq_getElem (by omega)
    rw [hx] at h1
    obtain ⟨n, h2, _, h3⟩ := DataW.trod_int Try.underlying22 h1
    have h4 : (List.drop i l).take 1 = [c] := by
      rw [List.take_one, List.head?_drop, hc]; rfl
    rw [Nat.mul_one] at h2
    rw [h4] at h2
    cases h2
    exact ⟨n, rfl, h3⟩
  match l, hsz with
  | [c0, c1, c2, c3, c4, c5, c6, c7], _ =>
    obtain ⟨n0, rfl, w0⟩ := key 0 c0 (by decide) rfl
    obtain ⟨n1, rfl, w1⟩ := key 1 c1 (by decide) rfl
    obtain ⟨n2, rfl, w2⟩ := key 2 c2 (by decide) rfl
    obtain ⟨n3, rfl, w3⟩ := key 3 c3 (by decide) rfl
    obtain ⟨n4, rfl, w4⟩ := key 4 c4 (by decide) rfl
    obtain ⟨n5, rfl, w5⟩ := key 5 c5 (by decide) rfl
    obtain ⟨n6, rfl, w6⟩ := key 6 c6 (by decide) rfl
    obtain ⟨n7, rfl, w7⟩ := key 7 c7 (by decide) rfl
    exact ⟨⟨n0, n1, n2, n3, n4, n5, n6, n7⟩, rfl, ⟨wf_u32_bd w0, wf_u32_bd w1, wf_u32_bd w2, wf_u32_bd w3, wf_u32_bd w4, wf_u32_bd w5, wf_u32_bd w6, wf_u32_bd w7⟩⟩
end Go.Proofs.Ytcjkgegahfligaa
