/- Ids in memory; the walks of the layer ids that compare them. -/
import Derived.Test.YtofadpodlaakbaaGreatJ1
import Derived.Lib.BytesEntry
import Derived.Deep.Cut
namespace Go.Proofs.YtofadpodlaakbaaGreat
open Go.ChangeShapes Go.WideShapes Go.ChangeAt Go.RowKit
set_option linter.unusedVariables false
def Bs (x : List UInt8) : List Value := x.map B
theorem Bs_length (x : List UInt8) : (Bs x).length = x.length := List.length_map ..
theorem Bs_at (x : List UInt8) (i : Nat) (h : i < x.length) : (Bs x)[i]? = some (.int .u8 ((x.getD i 0).toNat : Int)) := by
 unfold Bs
 rw [List.getElem?_map, List.getElem?_eq_getElem h, List.getD_eq_getElem?_getD, List.getElem?_eq_getElem h]
 rfl
theorem Bs_one (x : List UInt8) : ∀ v ∈ Bs x, v.oneCell' = true := by
 intro v hv
 obtain ⟨c, _, rfl⟩ := List.mem_map.1 hv
 rfl
def arr (x : List UInt8) : Value := .agg (Bs x).toArray
/-! ### Which one comes first -/
def cmpN (l m : List UInt8) : Int :=
 match (List.range (min l.length m.length)).find? fun i => l.getD i 0 != m.getD i 0 with
 | some i => if l.getD i 0 < m.getD i 0 then -1 else 1
 | none => if l.length < m.length then -1 else if l.length > m.length then 1 else 0
theorem cmpN_cons (x y : UInt8) (l m : List UInt8) : cmpN (x :: l) (y :: m) = if x = y then cmpN l m else if x < y then -1 else 1 := by
 unfold cmpN
 rw [show min (x :: l).length (y :: m).length = min l.length m.length + 1 by simp only [List.length_cons]; omega, List.range_succ_eq_map, List.find?_cons, List.find?_map]
 by_cases e : x = y
 ·subst e
  have h0 : (((x :: l).getD 0 0) != ((x :: m).getD 0 0)) = false := by simp
  rw [h0, if_pos rfl]
  simp only [Function.comp_def]
  have e1 : (fun i => ((x :: l).getD (Nat.succ i) 0) != ((x :: m).getD (Nat.succ i) 0)) = fun i => l.getD i 0 != m.getD i 0 := by
   funext i
   simp [List.getD_eq_getElem?_getD]
  rw [e1]
  cases (List.range (min l.length m.length)).find? fun i => l.getD i 0 != m.getD i 0 with
  | none => simp
  | some i => simp [List.getD_eq_getElem?_getD]
 ·have h0 : (((x :: l).getD 0 0) != ((y :: m).getD 0 0)) = true := by simpa using e
  rw [h0, if_neg e]
  rfl
theorem cmpN_lt : ∀ l m : List UInt8, decide (cmpN l m < 0) = ltL l m
 | [], [] => by decide
 | [], y :: m => by simp [cmpN, ltL]
 | x :: l, [] => by simp [cmpN, ltL]
 | x :: l, y :: m => by
  rw [cmpN_cons]
  unfold ltL
  by_cases e : x = y
  ·rw [if_pos e, if_pos e]
   exact cmpN_lt l m
  ·rw [if_neg e, if_neg e]
   by_cases h : x < y
   ·rw [if_pos h, decide_eq_true h]; rfl
   ·rw [if_neg h, decide_eq_false h]; rfl
theorem cmp_lists (l m : List UInt8) : Extern.BytealgCompare.cmp ⟨l.toArray⟩ ⟨m.toArray⟩ = cmpN l m := by
 have h1 : ∀ (l : List UInt8) (i : Nat), (⟨l.toArray⟩ : ByteArray)[i]! = l.getD i 0 := fun l i => by
  by_cases h : i < l.length
  ·rw [getElem!_pos (⟨l.toArray⟩ : ByteArray) i (by simpa [ByteArray.size] using h), List.getD_eq_getElem?_getD, List.getElem?_eq_getElem h]
   rfl
  ·rw [getElem!_neg (⟨l.toArray⟩ : ByteArray) i (by simpa [ByteArray.size] using h), List.getD_eq_getElem?_getD, List.getElem?_eq_none (by omega)]
   rfl
 unfold Extern.BytealgCompare.cmp cmpN
 simp only [h1]
 rfl
theorem run_bytesOf {P : Program} {w : World} {a : Option Addr} {n c : Nat} {l : List UInt8} (h : Rd w a n c l) : (Extern.Bytes.bytesOf (.slice a n c)).run P w = .ok ⟨l.toArray⟩ w := by
 have hl := h.len
 rcases h.cells with h0 | ⟨b, off, rfl, _, hc⟩
 ·subst h0
  have : l = [] := List.eq_nil_of_length_eq_zero hl
  subst this
  cases a with
  | none => rfl
  | some x => rfl
 ·have := Lib.run_loadBytesX (P := P) w (l.map fun c => (c.toNat : Int)) ⟨b, off, none⟩ .empty (fun j x hj => by
   have hadd : (⟨b, off, none⟩ : Addr).add j = ⟨b, off + j, none⟩ := by unfold Addr.add; split <;> simp_all
   have hjl : j < l.length := by have := (List.getElem?_eq_some_iff.1 hj).1; simpa using this
   rw [hadd, hc j (by omega)]
   rw [List.getElem?_map, List.getElem?_eq_getElem hjl] at hj
   simp only [Option.map_some, Option.some.injEq] at hj
   rw [← hj, List.getD_eq_getElem?_getD, List.getElem?_eq_getElem hjl]; rfl)
  rw [List.length_map, hl] at this
  show (Extern.Bytes.loadBytes ⟨b, off, none⟩ n .empty).run P w = _
  rw [this]
  have e : Lib.bytesOf (l.map fun c => (c.toNat : Int)) = l := by
   unfold Lib.bytesOf
   rw [List.map_map]
   conv => rhs; rw [← List.map_id l]
   refine List.map_congr_left fun c _ => ?_
   simp
  rw [e]
  congr 1
  apply ByteArray.ext
  show (#[] : Array UInt8) ++ l.toArray = l.toArray
  simp
set_option maxRecDepth 100000 in
theorem compare_any (a a' : Option Addr) (n n' c c' : Nat) (l l' : List UInt8) (w : World) (h : Rd w a n c l) (h' : Rd w a' n' c' l') : Calls Tryz.prog 110 #[.slice a n c, .slice a' n' c'] w fun e w' => e = .returned (.int .i64 (cmpN l l')) ∧ w' = w := by
 have hrun : (Extern.BytealgCompare.compare #[.slice a n c, .slice a' n' c']).run Tryz.prog w = .ok (.int .i64 (cmpN l l')) w := by
  change Sem.run Tryz.prog (do pure (goInt (Extern.BytealgCompare.cmp (← Extern.Bytes.bytesOf (.slice a n c)) (← Extern.Bytes.bytesOf (.slice a' n' c'))))) w = _
  simp only [Sem.run_bind, run_bytesOf h, run_bytesOf h', Result.andThen, Sem.run_pure, cmp_lists]
  rfl
 have HR := Lib.hid hrun
 clear hrun h h'
 go_enter Tryz.func110, Tryz.ntmps110
 go_wp2_with fail
 rw [run_callFunc_extern Tryz.func118 (by kernel_rfl) (by kernel_rfl) (by kernel_rfl) (e := Extern.BytealgCompare.compare) (by kernel_rfl), HR.out]
 simp only [Result.andThen]
 rw [Oper.upon_value]
 go_wp2_with fail
 go_ret
 exact ⟨rfl, rfl⟩
theorem Cel.rd {w : World} {b : Nat} {t : TypeId} {x : List UInt8} (h : Cel w b t (Bs x)) (hx : x.length ≤ 100000) : Rd w (some ⟨b, 0, none⟩) x.length x.length x := by
 refine ⟨rfl, Nat.le_refl _, by omega, .inr ⟨b, 0, rfl, h.lt, fun i hi => ?_⟩⟩
 rw [Nat.zero_add]
 exact h.at i _ (Bs_at x i hi)
/-! ### Ids in memory -/
theorem under_ids : Tryz.prog.underlying 48 = some (.array 32 5) := by kernel_rfl
theorem info_ids : (Tryz.prog.info? 48).map (·.size) = some 32 := by kernel_rfl
theorem info_x {x : List UInt8} (h : x.length = 32) : (Tryz.prog.info? 48).map (·.size) = some (Bs x).length := by rw [Bs_length, h]; exact info_ids
theorem slice_id (b : Nat) (w : World) : (Instr.sliceAt 48 (.pointer (some ⟨b, 0, none⟩)) none none none).run Tryz.prog w = .ok (.slice (some ⟨b, 0, none⟩) 32 32) w := by
 have hlen : Tryz.prog.arrayLen 48 = 32 := by kernel_rfl
 have hsz : (sizeOf (Tryz.prog.elem 48)).run Tryz.prog w = .ok 1 w := by kernel_rfl
 rw [run_sliceAt_array_all w 48 ⟨b, 0, none⟩ (by kernel_rfl), hsz, hlen]
 rfl
theorem eq_arr (x y : List UInt8) (hx : x.length = 32) (hy : y.length = 32) (w : World) : (Op.equalIn 10000 48 (.agg (Bs x).toArray) (.agg (Bs y).toArray)).run Tryz.prog w = .ok (decide (x = y)) w := by
 have e : ∀ z : List UInt8, Bs z = (z.map fun c => (c.toNat : Int)).map (Value.int .u8) := fun z => by rw [List.map_map]; rfl
 rw [e, e, run_equalIn_arr_int w 9998 _ _ under_ids Tryz.underlying5 (by kernel_rfl) (by rw [List.length_map, hx]) (by rw [List.length_map, hy])]
 congr 1
 rw [Bool.eq_iff_iff, beq_iff_eq, decide_eq_true_eq]
 constructor
 ·intro h
  have h2 := congrArg (List.map fun n : Int => UInt8.ofNat n.toNat) h
  rw [List.map_map, List.map_map] at h2
  have h3 : ∀ z : List UInt8, z.map ((fun n : Int => UInt8.ofNat n.toNat) ∘ fun c => (c.toNat : Int)) = z := fun z => by
   conv => rhs; rw [← List.map_id z]
   refine List.map_congr_left fun c _ => ?_
   simp
  rwa [h3, h3] at h2
 ·intro h; rw [h]
theorem rng_below {w w' : World} {b o : Nat} {cs : List Value} (h : w.rangeAt b o cs) (hb : Below w.heap.size w w') : w'.rangeAt b o cs := fun j v hj => carry_cell (h j v hj) hb
structure Ids (w : World) (a : Option Addr) (n c : Nat) (l : List (List UInt8)) : Prop where
 len : l.length = n
 le : n ≤ c
 cap : c ≤ 9223372036854775807
 non : a = none → c = 0
 is32 : all32 l
 cells : n = 0 ∨ ∃ b off, a = some ⟨b, off, none⟩ ∧ ∀ i, i < n → w.rangeAt b (off + i * 32) (Bs (l.getD i []))
theorem Ids.at32 {w : World} {a : Option Addr} {n c : Nat} {l : List (List UInt8)} (h : Ids w a n c l) (i : Nat) (hi : i < n) : (l.getD i []).length = 32 := by
 have hl := h.len
 rw [List.getD_eq_getElem?_getD, List.getElem?_eq_getElem (by omega)]
 exact h.is32 _ (List.getElem_mem (by omega))
theorem Ids.below {w w' : World} {a : Option Addr} {n c : Nat} {l : List (List UInt8)} (h : Ids w a n c l) (hb : Below w.heap.size w w') : Ids w' a n c l := by
 refine ⟨h.len, h.le, h.cap, h.non, h.is32, ?_⟩
 rcases h.cells with h0 | ⟨b, off, rfl, hc⟩
 ·exact .inl h0
 ·exact .inr ⟨b, off, rfl, fun i hi => rng_below (hc i hi) hb⟩
theorem Ids.nil (w : World) : Ids w none 0 0 [] := ⟨rfl, Nat.le_refl _, by decide, fun _ => rfl, fun x hx => by simp at hx, .inl rfl⟩
section
variable {P : Program} {ops : Array Oper} {Q : Exit → Act → World → Prop} {o : Oper} {w : World} {K : Act → World → Prop} {E : Prop} {ts : Array Value} {ds : List Deferred}
theorem rng_load {b off : Nat} (hw : Region.wanted o (yielded ops ts) = true) (d : Nat) (hd : o.dst = some d) (ty : TypeId) (x : Operand) (ho : o.op = .load ty x)
  (hx : Act.eval ⟨ts, ds⟩ x = .pointer (some ⟨b, off, none⟩)) (cs : List Value) (dd : TypeDesc) (hc : w.rangeAt b off cs) (hu : P.underlying ty = some dd) (hdd : dd.isRow = true) (hi : (P.info? ty).map (·.size) = some cs.length)
  (h : K ⟨ts.setIfInBounds d (.agg cs.toArray), ds⟩ w) : if Region.wanted o (yielded ops ts) = true then o.wp P ⟨ts, ds⟩ w K Q else E := by
 rw [if_pos hw]; exact wp_load_mid ty x ho b off hx cs dd hc hu hdd hi (by rw [hd]; exact h)
end
set_option maxRecDepth 100000 in
set_option maxHeartbeats 2000000 in
theorem order_any (x y : List UInt8) (w : World) (hx : x.length = 32) (hy : y.length = 32) : Calls Tryz.prog 83 #[arr x, arr y] w fun e w' => e = .returned (.int .i64 (cmpN x y)) ∧ Below w.heap.size w w' := by
 unfold arr
 go_enter Tryz.func83, Tryz.ntmps83
 go_upto_region 1 with fail
 obtain ⟨b2, hb2⟩ : ∃ b2, b2 = w.heap.size := ⟨_, rfl⟩
 obtain ⟨w1, hw1⟩ : ∃ w1, w1 = w.alloc (.cells (Bs x).toArray 48) := ⟨_, rfl⟩
 have hs : w.heap.size + 1 = w1.heap.size := by rw [hw1, size_alloc']
 have hb1 : Below w.heap.size w w1 := by rw [hw1]; exact (Below.refl _ _).alloc (Nat.le_refl _) _
 have hc2 : Cel w1 b2 48 (Bs x) := by rw [hw1, hb2]; exact Cel.new w _ _
 rw [← hw1, hs]
 obtain ⟨b3, hb3⟩ : ∃ b3, b3 = w1.heap.size := ⟨_, rfl⟩
 obtain ⟨w2, hw2⟩ : ∃ w2, w2 = w1.alloc (.cells (Bs y).toArray 48) := ⟨_, rfl⟩
 have hb12 : Below w1.heap.size w1 w2 := by rw [hw2]; exact (Below.refl _ _).alloc (Nat.le_refl _) _
 have HC3 := Lib.hid (show Cel w2 b3 48 (Bs y) by rw [hw2, hb3]; exact Cel.new w1 _ _)
 have HC2 := Lib.hid (hc2.step hb12)
 have HB2 := Lib.hid (hb1.step hb12)
 rw [← hw2, ← hb2, ← hb3]
 have hsl := fun b w' => slice_id b w'
 clear hb2 hw1 hs hb1 hc2 hb3 hw2 hb12
 have hD : ∀ j, j < 4 → ∀ n, n < 4 → j ≠ n → dkN [5, 6, 7, 4] j ≠ dkN [5, 6, 7, 4] n := by decide +kernel
 refine region_fun (by kernel_rfl) (by kernel_rfl) (fun gv => #[gv 0, gv 1, .pointer (some ⟨b2, 0, none⟩), .pointer (some ⟨b3, 0, none⟩), gv 4, gv 5, gv 6, gv 7]) rfl (fun f gv wx => Below w2.heap.size w2 wx ∧ (∀ j, j < 4 → (fun j => false) j = false → On f j → gv (dkN [5, 6, 7, 4] j) = vkN [.slice (some ⟨b2, 0, none⟩) 32 32, .slice (some ⟨b3, 0, none⟩) 32 32, .int .i64 (cmpN x y), .int .i64 (cmpN x y)] j)) ?_ ?_ ?_
 ·have hoff : ∀ j, ¬ On (Array.replicate 4 false) j := by
   intro j hj; simp only [On, Array.getD_eq_getD_getElem?, Array.getElem?_replicate] at hj; split at hj <;> simp at hj
  exact ⟨(Below.refl _ _).drew, fun j _ _ x => absurd x (hoff _)⟩
 ·rintro i' o' f gv wm hio hs' hn he ⟨hBx, P⟩ KK hKK
  have hi' : i' < 4 := (Array.getElem?_eq_some_iff.1 hio).1
  replace hs' : f.size = 4 := hs'
  match i', hi' with
  | 0, _ =>
   cases hio
   have off : ¬ On f 0 := on_off (by omega) hn
   have HQ := Lib.hid P
   clear P
   go_simp
   have P := HQ.out
   obtain ⟨bk, fw, fn⟩ := on3 (f := f) (i := 0) (by omega)
   exact hKK (upd gv 5 (.slice (some ⟨b2, 0, none⟩) 32 32)) _ (by exact ⟨hBx, vals_step (n := 0) (v := .slice (some ⟨b2, 0, none⟩) 32 32) hD (by decide) (by omega) P (fun _ => rfl)⟩)
  | 1, _ =>
   cases hio
   have off : ¬ On f 1 := on_off (by omega) hn
   have HQ := Lib.hid P
   clear P
   go_simp
   have P := HQ.out
   obtain ⟨bk, fw, fn⟩ := on3 (f := f) (i := 1) (by omega)
   exact hKK (upd gv 6 (.slice (some ⟨b3, 0, none⟩) 32 32)) _ (by exact ⟨hBx, vals_step (n := 1) (v := .slice (some ⟨b3, 0, none⟩) 32 32) hD (by decide) (by omega) P (fun _ => rfl)⟩)
  | 2, _ =>
   cases hio
   have off : ¬ On f 2 := on_off (by omega) hn
   have h0 : On f 0 := he ⟨0, .data⟩ (by simp) rfl
   have e0 : gv 5 = .slice (some ⟨b2, 0, none⟩) 32 32 := P 0 (by decide) rfl h0
   have h1 : On f 1 := he ⟨1, .data⟩ (by simp) rfl
   have e1 : gv 6 = .slice (some ⟨b3, 0, none⟩) 32 32 := P 1 (by decide) rfl h1
   have HA := Lib.hid (And.intro ((HC2.out.step hBx).rd (by omega)) ((HC3.out.step hBx).rd (by omega)))
   rw [e0, e1]
   have HQ := Lib.hid P
   clear P
   go_simp
   have hcc := compare_any (some ⟨b2, 0, none⟩) (some ⟨b3, 0, none⟩) _ _ _ _ x y wm HA.out.1 HA.out.2
   rw [hx, hy] at hcc
   refine hcc.mono ?_
   rintro e w6 ⟨rfl, rfl⟩
   have hb := Below.refl w6.heap.size w6
   have P := HQ.out
   obtain ⟨bk, fw, fn⟩ := on3 (f := f) (i := 2) (by omega)
   exact hKK (upd (upd (upd gv 5 (.slice (some ⟨b2, 0, none⟩) 32 32)) 6 (.slice (some ⟨b3, 0, none⟩) 32 32)) 7 (.int .i64 (cmpN x y))) _ (by rw [upd_same e0]; rw [upd_same e1]; exact ⟨hBx.step hb, vals_step (n := 2) (v := .int .i64 (cmpN x y)) hD (by decide) (by omega) P (fun _ => rfl)⟩)
  | 3, _ =>
   cases hio
   have off : ¬ On f 3 := on_off (by omega) hn
   have h2 : On f 2 := he ⟨2, .data⟩ (by simp) rfl
   have e2 : gv 7 = .int .i64 (cmpN x y) := P 2 (by decide) rfl h2
   rw [e2]
   have HQ := Lib.hid P
   clear P
   go_simp
   have P := HQ.out
   obtain ⟨bk, fw, fn⟩ := on3 (f := f) (i := 3) (by omega)
   exact hKK (upd (upd gv 7 (.int .i64 (cmpN x y))) 4 (.int .i64 (cmpN x y))) _ (by rw [upd_same e2]; exact ⟨hBx, vals_step (n := 3) (v := .int .i64 (cmpN x y)) hD (by decide) (by omega) P (fun _ => rfl)⟩)
 ·rintro f gv w5 hall hs' ⟨hBx, P⟩
  replace hs' : f.size = 4 := hs'
  have on : ∀ j, j < 4 → On f j := fun j hj => on_all hall hs' j hj
  have e6 : gv 4 = .int .i64 (cmpN x y) := P 3 (by decide) rfl (on 3 (by decide))
  have BX := Lib.hid (HB2.out.step hBx)
  clear P hBx hall hs' on hD hsl
  rw [e6]
  go_wp2_with fail
  go_ret
  exact ⟨rfl, BX.out⟩
set_option maxRecDepth 100000 in
set_option maxHeartbeats 2000000 in
theorem less_any (x y : List UInt8) (w : World) (hx : x.length = 32) (hy : y.length = 32) : Calls Tryz.prog 60 #[arr x, arr y] w fun e w' => e = .returned (.bool (ltL x y)) ∧ Below w.heap.size w w' := by
 have HO := Lib.hid (fun w' => order_any x y w' hx hy)
 have HL := Lib.hid (cmpN_lt x y)
 obtain ⟨m, hm⟩ : ∃ m, m = cmpN x y := ⟨_, rfl⟩
 rw [← hm] at HO HL
 clear hm
 unfold arr at HO ⊢
 go_enter Tryz.func60, Tryz.ntmps60
 go_upto_region 1 with fail
 obtain ⟨b2, hb2⟩ : ∃ b2, b2 = w.heap.size := ⟨_, rfl⟩
 obtain ⟨w1, hw1⟩ : ∃ w1, w1 = w.alloc (.cells (Bs x).toArray 48) := ⟨_, rfl⟩
 have hs : w.heap.size + 1 = w1.heap.size := by rw [hw1, size_alloc']
 have hb1 : Below w.heap.size w w1 := by rw [hw1]; exact (Below.refl _ _).alloc (Nat.le_refl _) _
 have hc2 : Cel w1 b2 48 (Bs x) := by rw [hw1, hb2]; exact Cel.new w _ _
 rw [← hw1, hs]
 obtain ⟨b3, hb3⟩ : ∃ b3, b3 = w1.heap.size := ⟨_, rfl⟩
 obtain ⟨w2, hw2⟩ : ∃ w2, w2 = w1.alloc (.cells (Bs y).toArray 48) := ⟨_, rfl⟩
 have hb12 : Below w1.heap.size w1 w2 := by rw [hw2]; exact (Below.refl _ _).alloc (Nat.le_refl _) _
 have HC3 := Lib.hid (show Cel w2 b3 48 (Bs y) by rw [hw2, hb3]; exact Cel.new w1 _ _)
 have HC2 := Lib.hid (hc2.step hb12)
 have HB2 := Lib.hid (hb1.step hb12)
 rw [← hw2, ← hb2, ← hb3]
 clear hb2 hw1 hs hb1 hc2 hb3 hw2 hb12
 go_wp2_with (first | (refine wpList_load_mid rfl 48 (.tmp 2) rfl b2 0 rfl (Bs x) _ HC2.out.range under_ids rfl (info_x hx) ?_) | (refine wpList_load_mid rfl 48 (.tmp 3) rfl b3 0 rfl (Bs y) _ HC3.out.range under_ids rfl (info_x hy) ?_))
 refine (HO.out _).mono ?_
 rintro e w3 ⟨rfl, hb⟩
 have HB3 := Lib.hid (HB2.out.step hb)
 clear hb
 by_cases hlt : m < 0
 ·go_wp2_with fail
  go_ret
  exact ⟨retb (by rw [← HL.out, decide_eq_true hlt]), HB3.out⟩
 ·go_wp2_with fail
  go_ret
  exact ⟨retb (by rw [← HL.out, decide_eq_false (by omega)]), HB3.out⟩
set_option maxRecDepth 100000 in
set_option maxHeartbeats 4000000 in
theorem rises_any (a : Option Addr) (n c : Nat) (l : List (List UInt8)) (w : World) (hr : Ids w a n c l) : Calls Tryz.prog 32 #[.slice a n c] w fun e w' => e = .returned (.bool (risesL l)) ∧ Below w.heap.size w w' := by
 have hn63 : n ≤ 9223372036854775807 := Nat.le_trans hr.le hr.cap
 have HR := Lib.hid hr
 have HLN := Lib.hid hr.len
 clear hr
 go_enter Tryz.func32, Tryz.ntmps32
 go_wp2_with fail
 go_loopw [3] (fun v3 wr => ∃ u m : Nat, (u = 0 ∨ u + 1 ≤ n) ∧ m = u + 1 ∧ v3 = .int .i64 (m : Int) ∧ Hid (risesN l u = true) ∧ Hid (Below w.heap.size w wr)) (fun v3 _ => n + 1 - (intOf v3).toNat)
 case atStart => exact ⟨0, 1, .inl rfl, rfl, rfl, Lib.hid rfl, Lib.hid (Below.refl _ _)⟩
 case round =>
  obtain ⟨u, m, hj, hm, rfl, hR, hB⟩ := hrel
  by_cases hin : m < n
  case neg =>
   have HY := Lib.hid (show risesL l = true by
    unfold risesL
    rw [HLN.out, show n - 1 = u by omega]
    exact hR.out)
   have hni : ¬ (m : Int) < (n : Int) := by omega
   clear hR hm hj
   go_wp2_with fail
   go_ret
   exact ⟨retb HY.out.symm, hB.out⟩
  obtain ⟨b, fo, e1, f1⟩ := HR.out.cells.resolve_left (by omega)
  subst e1
  obtain ⟨x, hx⟩ : ∃ x, x = l.getD u [] := ⟨_, rfl⟩
  obtain ⟨y, hy⟩ : ∃ y, y = l.getD m [] := ⟨_, rfl⟩
  have HX := Lib.hid (show x.length = 32 ∧ y.length = 32 ∧ w.rangeAt b (fo + u * 32) (Bs x) ∧ w.rangeAt b (fo + m * 32) (Bs y) from ⟨by rw [hx]; exact HR.out.at32 u (by omega), by rw [hy]; exact HR.out.at32 m hin, by rw [hx]; exact f1 u (by omega), by rw [hy]; exact f1 m hin⟩)
  have HT := Lib.hid (show ltL x y = true → risesN l m = true from fun h => by rw [hm, risesN_succ, hR.out, ← hm, ← hx, ← hy, h]; rfl)
  have HF := Lib.hid (show ltL x y = false → risesL l = false from fun h => rises_not (j := u) (by rw [HLN.out]; omega) (by rw [← hm, ← hx, ← hy]; exact h))
  have hwr : IntKind.i64.wrap ((m : Int) - 1) = (u : Int) := by rw [IntWalk.i64_in _ ⟨by omega, by omega⟩]; omega
  have HLE := Lib.hid (fun w' => less_any x y w' HX.out.1 HX.out.2.1)
  obtain ⟨lt, hlt⟩ : ∃ lt, lt = ltL x y := ⟨_, rfl⟩
  unfold arr at HLE
  rw [← hlt] at HLE HT HF
  have hji : (u : Int) < (n : Int) := by omega
  have hj0 : 0 ≤ (u : Int) := by omega
  have hmi : (m : Int) < (n : Int) := by omega
  have hm0 : 0 ≤ (m : Int) := by omega
  clear f1 hx hy hR hj hlt
  have HM := Lib.hid hm
  clear hm
  go_upto_region 4 with fail
  have hD : ∀ j, j < 11 → ∀ n, n < 11 → j ≠ n → dkN [10, 11, 12, 13, 14, 15, 16, 17, 18, 19, 20] j ≠ dkN [10, 11, 12, 13, 14, 15, 16, 17, 18, 19, 20] n := by decide +kernel
  refine region_fun (by kernel_rfl) (by kernel_rfl) (fun gv => #[.slice (some ⟨b, fo, none⟩) n c, undef, gv 2, .int .i64 (m : Int), gv 4, gv 5, gv 6, gv 7, gv 8, gv 9, gv 10, gv 11, gv 12, gv 13, gv 14, gv 15, gv 16, gv 17, gv 18, gv 19, gv 20]) rfl (fun f gv wx => Below wr.heap.size wr wx ∧ (∀ j, j < 11 → (fun j => false) j = false → On f j → gv (dkN [10, 11, 12, 13, 14, 15, 16, 17, 18, 19, 20] j) = vkN [.slice (some ⟨b, fo, none⟩) n c, .int .i64 (m : Int), .int .i64 (u : Int), .pointer (some ⟨b, fo + u * 32, none⟩), .agg (Bs x).toArray, .slice (some ⟨b, fo, none⟩) n c, .int .i64 (m : Int), .pointer (some ⟨b, fo + m * 32, none⟩), .agg (Bs y).toArray, .bool lt, .bool (!lt)] j)) ?_ ?_ ?_
  ·have hoff : ∀ j, ¬ On (Array.replicate 11 false) j := by
    intro j hj; simp only [On, Array.getD_eq_getD_getElem?, Array.getElem?_replicate] at hj; split at hj <;> simp at hj
   exact ⟨(Below.refl _ _).drew, fun j _ _ x => absurd x (hoff _)⟩
  ·rintro i' o' f gv wm hio hs' hn he ⟨hBx, P⟩ KK hKK
   have hi' : i' < 11 := (Array.getElem?_eq_some_iff.1 hio).1
   replace hs' : f.size = 11 := hs'
   match i', hi' with
   | 0, _ =>
    cases hio
    have off : ¬ On f 0 := on_off (by omega) hn
    have HQ := Lib.hid P
    clear P
    go_simp
    have P := HQ.out
    obtain ⟨bk, fw, fn⟩ := on3 (f := f) (i := 0) (by omega)
    exact hKK (upd gv 10 (.slice (some ⟨b, fo, none⟩) n c)) _ (by exact ⟨hBx, vals_step (n := 0) (v := .slice (some ⟨b, fo, none⟩) n c) hD (by decide) (by omega) P (fun _ => rfl)⟩)
   | 1, _ =>
    cases hio
    have off : ¬ On f 1 := on_off (by omega) hn
    have HQ := Lib.hid P
    clear P
    go_simp
    have P := HQ.out
    obtain ⟨bk, fw, fn⟩ := on3 (f := f) (i := 1) (by omega)
    exact hKK (upd gv 11 (.int .i64 (m : Int))) _ (by exact ⟨hBx, vals_step (n := 1) (v := .int .i64 (m : Int)) hD (by decide) (by omega) P (fun _ => rfl)⟩)
   | 2, _ =>
    cases hio
    have off : ¬ On f 2 := on_off (by omega) hn
    have h1 : On f 1 := he ⟨1, .data⟩ (by simp) rfl
    have e1 : gv 11 = .int .i64 (m : Int) := P 1 (by decide) rfl h1
    rw [e1]
    have HQ := Lib.hid P
    clear P
    go_simp
    have P := HQ.out
    obtain ⟨bk, fw, fn⟩ := on3 (f := f) (i := 2) (by omega)
    exact hKK (upd (upd gv 11 (.int .i64 (m : Int))) 12 (.int .i64 (u : Int))) _ (by rw [upd_same e1]; exact ⟨hBx, vals_step (n := 2) (v := .int .i64 (u : Int)) hD (by decide) (by omega) P (fun _ => rfl)⟩)
   | 3, _ =>
    cases hio
    have off : ¬ On f 3 := on_off (by omega) hn
    have h0 : On f 0 := he ⟨0, .data⟩ (by simp) rfl
    have e0 : gv 10 = .slice (some ⟨b, fo, none⟩) n c := P 0 (by decide) rfl h0
    have h2 : On f 2 := he ⟨2, .data⟩ (by simp) rfl
    have e2 : gv 12 = .int .i64 (u : Int) := P 2 (by decide) rfl h2
    rw [e0, e2]
    have HQ := Lib.hid P
    clear P
    go_simp
    have P := HQ.out
    obtain ⟨bk, fw, fn⟩ := on3 (f := f) (i := 3) (by omega)
    exact hKK (upd (upd (upd gv 10 (.slice (some ⟨b, fo, none⟩) n c)) 12 (.int .i64 (u : Int))) 13 (.pointer (some ⟨b, fo + u * 32, none⟩))) _ (by rw [upd_same e0]; rw [upd_same e2]; exact ⟨hBx, vals_step (n := 3) (v := .pointer (some ⟨b, fo + u * 32, none⟩)) hD (by decide) (by omega) P (fun _ => rfl)⟩)
   | 4, _ =>
    cases hio
    have off : ¬ On f 4 := on_off (by omega) hn
    have h3 : On f 3 := he ⟨3, .data⟩ (by simp) rfl
    have e3 : gv 13 = .pointer (some ⟨b, fo + u * 32, none⟩) := P 3 (by decide) rfl h3
    have hrg := rng_below (HX.out.2.2.1) (hB.out.step hBx)
    rw [e3]
    have HQ := Lib.hid P
    clear P
    refine rng_load (by rfl) 14 rfl 48 (.tmp 13) rfl (by rfl) (Bs x) _ hrg under_ids rfl (info_x HX.out.1) ?_
    simp only [List.setIfInBounds_toArray]
    have P := HQ.out
    obtain ⟨bk, fw, fn⟩ := on3 (f := f) (i := 4) (by omega)
    exact hKK (upd (upd gv 13 (.pointer (some ⟨b, fo + u * 32, none⟩))) 14 (.agg (Bs x).toArray)) _ (by rw [upd_same e3]; exact ⟨hBx, vals_step (n := 4) (v := .agg (Bs x).toArray) hD (by decide) (by omega) P (fun _ => rfl)⟩)
   | 5, _ =>
    cases hio
    have off : ¬ On f 5 := on_off (by omega) hn
    have HQ := Lib.hid P
    clear P
    go_simp
    have P := HQ.out
    obtain ⟨bk, fw, fn⟩ := on3 (f := f) (i := 5) (by omega)
    exact hKK (upd gv 15 (.slice (some ⟨b, fo, none⟩) n c)) _ (by exact ⟨hBx, vals_step (n := 5) (v := .slice (some ⟨b, fo, none⟩) n c) hD (by decide) (by omega) P (fun _ => rfl)⟩)
   | 6, _ =>
    cases hio
    have off : ¬ On f 6 := on_off (by omega) hn
    have HQ := Lib.hid P
    clear P
    go_simp
    have P := HQ.out
    obtain ⟨bk, fw, fn⟩ := on3 (f := f) (i := 6) (by omega)
    exact hKK (upd gv 16 (.int .i64 (m : Int))) _ (by exact ⟨hBx, vals_step (n := 6) (v := .int .i64 (m : Int)) hD (by decide) (by omega) P (fun _ => rfl)⟩)
   | 7, _ =>
    cases hio
    have off : ¬ On f 7 := on_off (by omega) hn
    have h5 : On f 5 := he ⟨5, .data⟩ (by simp) rfl
    have e5 : gv 15 = .slice (some ⟨b, fo, none⟩) n c := P 5 (by decide) rfl h5
    have h6 : On f 6 := he ⟨6, .data⟩ (by simp) rfl
    have e6 : gv 16 = .int .i64 (m : Int) := P 6 (by decide) rfl h6
    rw [e5, e6]
    have HQ := Lib.hid P
    clear P
    go_simp
    have P := HQ.out
    obtain ⟨bk, fw, fn⟩ := on3 (f := f) (i := 7) (by omega)
    exact hKK (upd (upd (upd gv 15 (.slice (some ⟨b, fo, none⟩) n c)) 16 (.int .i64 (m : Int))) 17 (.pointer (some ⟨b, fo + m * 32, none⟩))) _ (by rw [upd_same e5]; rw [upd_same e6]; exact ⟨hBx, vals_step (n := 7) (v := .pointer (some ⟨b, fo + m * 32, none⟩)) hD (by decide) (by omega) P (fun _ => rfl)⟩)
   | 8, _ =>
    cases hio
    have off : ¬ On f 8 := on_off (by omega) hn
    have h7 : On f 7 := he ⟨7, .data⟩ (by simp) rfl
    have e7 : gv 17 = .pointer (some ⟨b, fo + m * 32, none⟩) := P 7 (by decide) rfl h7
    have hrg := rng_below (HX.out.2.2.2) (hB.out.step hBx)
    rw [e7]
    have HQ := Lib.hid P
    clear P
    refine rng_load (by rfl) 18 rfl 48 (.tmp 17) rfl (by rfl) (Bs y) _ hrg under_ids rfl (info_x HX.out.2.1) ?_
    simp only [List.setIfInBounds_toArray]
    have P := HQ.out
    obtain ⟨bk, fw, fn⟩ := on3 (f := f) (i := 8) (by omega)
    exact hKK (upd (upd gv 17 (.pointer (some ⟨b, fo + m * 32, none⟩))) 18 (.agg (Bs y).toArray)) _ (by rw [upd_same e7]; exact ⟨hBx, vals_step (n := 8) (v := .agg (Bs y).toArray) hD (by decide) (by omega) P (fun _ => rfl)⟩)
   | 9, _ =>
    cases hio
    have off : ¬ On f 9 := on_off (by omega) hn
    have h4 : On f 4 := he ⟨4, .data⟩ (by simp) rfl
    have e4 : gv 14 = .agg (Bs x).toArray := P 4 (by decide) rfl h4
    have h8 : On f 8 := he ⟨8, .data⟩ (by simp) rfl
    have e8 : gv 18 = .agg (Bs y).toArray := P 8 (by decide) rfl h8
    rw [e4, e8]
    have HQ := Lib.hid P
    clear P
    go_simp
    refine (HLE.out _).mono ?_
    rintro e w6 ⟨rfl, hb⟩
    have P := HQ.out
    obtain ⟨bk, fw, fn⟩ := on3 (f := f) (i := 9) (by omega)
    exact hKK (upd (upd (upd gv 14 (.agg (Bs x).toArray)) 18 (.agg (Bs y).toArray)) 19 (.bool lt)) _ (by rw [upd_same e4]; rw [upd_same e8]; exact ⟨hBx.step hb, vals_step (n := 9) (v := .bool lt) hD (by decide) (by omega) P (fun _ => rfl)⟩)
   | 10, _ =>
    cases hio
    have off : ¬ On f 10 := on_off (by omega) hn
    have h9 : On f 9 := he ⟨9, .data⟩ (by simp) rfl
    have e9 : gv 19 = .bool lt := P 9 (by decide) rfl h9
    rw [e9]
    have HQ := Lib.hid P
    clear P
    go_simp
    have P := HQ.out
    obtain ⟨bk, fw, fn⟩ := on3 (f := f) (i := 10) (by omega)
    exact hKK (upd (upd gv 19 (.bool lt)) 20 (.bool (!lt))) _ (by rw [upd_same e9]; exact ⟨hBx, vals_step (n := 10) (v := .bool (!lt)) hD (by decide) (by omega) P (fun _ => rfl)⟩)
  ·rintro f gv w5 hall hs' ⟨hBx, P⟩
   replace hs' : f.size = 11 := hs'
   have on : ∀ j, j < 11 → On f j := fun j hj => on_all hall hs' j hj
   cases lt with
   | false =>
    have e6 : gv 20 = .bool true := P 10 (by decide) rfl (on 10 (by decide))
    have HZ := Lib.hid (HF.out rfl)
    have BX := Lib.hid (hB.out.step hBx)
    clear P hBx hall hs' on hD HT HF HLE
    rw [e6]
    go_wp2_with fail
    go_ret
    exact ⟨retb HZ.out.symm, BX.out⟩
   | true =>
    have e6 : gv 20 = .bool false := P 10 (by decide) rfl (on 10 (by decide))
    have HZ := Lib.hid (HT.out rfl)
    have BX := Lib.hid (hB.out.step hBx)
    clear P hBx hall hs' on hD HT HF HLE hwr
    rw [e6]
    go_wp2_with fail
    refine ⟨⟨m, m + 1, .inr (by omega), rfl, by go_num, HZ, BX⟩, ?_⟩
    simp [intOf]; omega
set_option maxRecDepth 100000 in
set_option maxHeartbeats 4000000 in
theorem sameids_any (a a' : Option Addr) (n n' c c' : Nat) (l l' : List (List UInt8)) (w : World) (hr : Ids w a n c l) (hr' : Ids w a' n' c' l') : Calls Tryz.prog 37 #[.slice a n c, .slice a' n' c'] w fun e w' => e = .returned (.bool (decide (l = l'))) ∧ Below w.heap.size w w' := by
 have hn63 : n ≤ 9223372036854775807 := Nat.le_trans hr.le hr.cap
 have hn63' : n' ≤ 9223372036854775807 := Nat.le_trans hr'.le hr'.cap
 have HR := Lib.hid hr
 have HR' := Lib.hid hr'
 have HLN := Lib.hid hr.len
 have HLN' := Lib.hid hr'.len
 clear hr hr'
 by_cases hn : n = n'
 case neg =>
  have HNO := Lib.hid (show decide (l = l') = false from decide_eq_false (fun h => hn (by rw [← HLN.out, ← HLN'.out, h])))
  have hn' : ((n : Int) == (n' : Int)) = false := by simp; omega
  clear hn
  go_enter Tryz.func37, Tryz.ntmps37
  go_wp2_with fail
  go_ret
  exact ⟨retb HNO.out.symm, Below.refl _ _⟩
 subst hn
 go_enter Tryz.func37, Tryz.ntmps37
 go_wp2_with fail
 go_loopw [13] (fun vi wr => ∃ i : Nat, i ≤ n ∧ vi = .int .i64 (i : Int) ∧ Hid (l.take i = l'.take i) ∧ Hid (Below w.heap.size w wr)) (fun vi _ => n - (intOf vi).toNat)
 case atStart => exact ⟨0, Nat.zero_le _, rfl, Lib.hid rfl, Lib.hid (Below.refl _ _)⟩
 case round =>
  obtain ⟨i, hi, rfl, hE, hB⟩ := hrel
  by_cases hin : i < n
  case neg =>
   obtain rfl : i = n := by omega
   have HY := Lib.hid (show decide (l = l') = true from decide_eq_true (by
    have := hE.out
    rwa [List.take_of_length_le (Nat.le_of_eq HLN.out), List.take_of_length_le (Nat.le_of_eq HLN'.out)] at this))
   clear hE
   go_wp2_with fail
   go_ret
   exact ⟨retb HY.out.symm, hB.out⟩
  obtain ⟨b, fo, e1, f1⟩ := HR.out.cells.resolve_left (by omega)
  obtain ⟨b', fo', e2, f2⟩ := HR'.out.cells.resolve_left (by omega)
  subst e1 e2
  obtain ⟨x, hx⟩ : ∃ x, x = l.getD i [] := ⟨_, rfl⟩
  obtain ⟨y, hy⟩ : ∃ y, y = l'.getD i [] := ⟨_, rfl⟩
  have HX := Lib.hid (show x.length = 32 ∧ y.length = 32 ∧ w.rangeAt b (fo + i * 32) (Bs x) ∧ w.rangeAt b' (fo' + i * 32) (Bs y) from ⟨by rw [hx]; exact HR.out.at32 i hin, by rw [hy]; exact HR'.out.at32 i hin, by rw [hx]; exact f1 i hin, by rw [hy]; exact f2 i hin⟩)
  have ht1 : l.take (i + 1) = l.take i ++ [x] := by rw [List.take_add_one, hx, List.getD_eq_getElem?_getD, List.getElem?_eq_getElem (by rw [HLN.out]; exact hin)]; rfl
  have ht2 : l'.take (i + 1) = l'.take i ++ [y] := by rw [List.take_add_one, hy, List.getD_eq_getElem?_getD, List.getElem?_eq_getElem (by rw [HLN'.out]; exact hin)]; rfl
  have HT := Lib.hid (show x = y → l.take (i + 1) = l'.take (i + 1) from fun h => by rw [ht1, ht2, hE.out, h])
  have HN := Lib.hid (show x ≠ y → decide (l = l') = false from fun h => decide_eq_false (fun h2 => h (by rw [hx, hy, h2])))
  have HEQ := Lib.hid (fun w' => eq_arr x y HX.out.1 HX.out.2.1 w')
  obtain ⟨q, hq⟩ : ∃ q, q = decide (x = y) := ⟨_, rfl⟩
  rw [← hq] at HEQ
  have HT2 := Lib.hid (show q = true → l.take (i + 1) = l'.take (i + 1) from fun h => HT.out (of_decide_eq_true (by rw [← hq, h])))
  have HN2 := Lib.hid (show q = false → decide (l = l') = false from fun h => HN.out (of_decide_eq_false (by rw [← hq, h])))
  have hii : (i : Int) < (n : Int) := by omega
  have hi0 : 0 ≤ (i : Int) := by omega
  clear f1 f2 hx hy ht1 ht2 HT HN hE hq
  go_upto_region 6 with fail
  have hD : ∀ j, j < 9 → ∀ n, n < 9 → j ≠ n → dkN [16, 17, 18, 19, 20, 21, 22, 23, 24] j ≠ dkN [16, 17, 18, 19, 20, 21, 22, 23, 24] n := by decide +kernel
  refine region_fun (by kernel_rfl) (by kernel_rfl) (fun gv => #[.slice (some ⟨b, fo, none⟩) n c, .slice (some ⟨b', fo', none⟩) n c', undef, undef, gv 4, .int .i64 (i : Int), .slice (some ⟨b, fo, none⟩) n c, .int .i64 (n : Int), .slice (some ⟨b', fo', none⟩) n c', .int .i64 (n : Int), .bool false, .slice (some ⟨b, fo, none⟩) n c, .int .i64 (n : Int), .int .i64 (i : Int), gv 14, gv 15, gv 16, gv 17, gv 18, gv 19, gv 20, gv 21, gv 22, gv 23, gv 24, gv 25]) rfl (fun f gv wx => Below wr.heap.size wr wx ∧ (∀ j, j < 9 → (fun j => false) j = false → On f j → gv (dkN [16, 17, 18, 19, 20, 21, 22, 23, 24] j) = vkN [.slice (some ⟨b, fo, none⟩) n c, .int .i64 (i : Int), .pointer (some ⟨b, fo + i * 32, none⟩), .agg (Bs x).toArray, .slice (some ⟨b', fo', none⟩) n c', .int .i64 (i : Int), .pointer (some ⟨b', fo' + i * 32, none⟩), .agg (Bs y).toArray, .bool (!q)] j)) ?_ ?_ ?_
  ·have hoff : ∀ j, ¬ On (Array.replicate 9 false) j := by
    intro j hj; simp only [On, Array.getD_eq_getD_getElem?, Array.getElem?_replicate] at hj; split at hj <;> simp at hj
   exact ⟨(Below.refl _ _).drew, fun j _ _ x => absurd x (hoff _)⟩
  ·rintro i' o' f gv wm hio hs' hn he ⟨hBx, P⟩ KK hKK
   have hi' : i' < 9 := (Array.getElem?_eq_some_iff.1 hio).1
   replace hs' : f.size = 9 := hs'
   match i', hi' with
   | 0, _ =>
    cases hio
    have off : ¬ On f 0 := on_off (by omega) hn
    have HQ := Lib.hid P
    clear P
    go_simp
    have P := HQ.out
    obtain ⟨bk, fw, fn⟩ := on3 (f := f) (i := 0) (by omega)
    exact hKK (upd gv 16 (.slice (some ⟨b, fo, none⟩) n c)) _ (by exact ⟨hBx, vals_step (n := 0) (v := .slice (some ⟨b, fo, none⟩) n c) hD (by decide) (by omega) P (fun _ => rfl)⟩)
   | 1, _ =>
    cases hio
    have off : ¬ On f 1 := on_off (by omega) hn
    have HQ := Lib.hid P
    clear P
    go_simp
    have P := HQ.out
    obtain ⟨bk, fw, fn⟩ := on3 (f := f) (i := 1) (by omega)
    exact hKK (upd gv 17 (.int .i64 (i : Int))) _ (by exact ⟨hBx, vals_step (n := 1) (v := .int .i64 (i : Int)) hD (by decide) (by omega) P (fun _ => rfl)⟩)
   | 2, _ =>
    cases hio
    have off : ¬ On f 2 := on_off (by omega) hn
    have h0 : On f 0 := he ⟨0, .data⟩ (by simp) rfl
    have e0 : gv 16 = .slice (some ⟨b, fo, none⟩) n c := P 0 (by decide) rfl h0
    have h1 : On f 1 := he ⟨1, .data⟩ (by simp) rfl
    have e1 : gv 17 = .int .i64 (i : Int) := P 1 (by decide) rfl h1
    rw [e0, e1]
    have HQ := Lib.hid P
    clear P
    go_simp
    have P := HQ.out
    obtain ⟨bk, fw, fn⟩ := on3 (f := f) (i := 2) (by omega)
    exact hKK (upd (upd (upd gv 16 (.slice (some ⟨b, fo, none⟩) n c)) 17 (.int .i64 (i : Int))) 18 (.pointer (some ⟨b, fo + i * 32, none⟩))) _ (by rw [upd_same e0]; rw [upd_same e1]; exact ⟨hBx, vals_step (n := 2) (v := .pointer (some ⟨b, fo + i * 32, none⟩)) hD (by decide) (by omega) P (fun _ => rfl)⟩)
   | 3, _ =>
    cases hio
    have off : ¬ On f 3 := on_off (by omega) hn
    have h2 : On f 2 := he ⟨2, .data⟩ (by simp) rfl
    have e2 : gv 18 = .pointer (some ⟨b, fo + i * 32, none⟩) := P 2 (by decide) rfl h2
    have hrg := rng_below (HX.out.2.2.1) (hB.out.step hBx)
    rw [e2]
    have HQ := Lib.hid P
    clear P
    refine rng_load (by rfl) 19 rfl 48 (.tmp 18) rfl (by rfl) (Bs x) _ hrg under_ids rfl (info_x HX.out.1) ?_
    simp only [List.setIfInBounds_toArray]
    have P := HQ.out
    obtain ⟨bk, fw, fn⟩ := on3 (f := f) (i := 3) (by omega)
    exact hKK (upd (upd gv 18 (.pointer (some ⟨b, fo + i * 32, none⟩))) 19 (.agg (Bs x).toArray)) _ (by rw [upd_same e2]; exact ⟨hBx, vals_step (n := 3) (v := .agg (Bs x).toArray) hD (by decide) (by omega) P (fun _ => rfl)⟩)
   | 4, _ =>
    cases hio
    have off : ¬ On f 4 := on_off (by omega) hn
    have HQ := Lib.hid P
    clear P
    go_simp
    have P := HQ.out
    obtain ⟨bk, fw, fn⟩ := on3 (f := f) (i := 4) (by omega)
    exact hKK (upd gv 20 (.slice (some ⟨b', fo', none⟩) n c')) _ (by exact ⟨hBx, vals_step (n := 4) (v := .slice (some ⟨b', fo', none⟩) n c') hD (by decide) (by omega) P (fun _ => rfl)⟩)
   | 5, _ =>
    cases hio
    have off : ¬ On f 5 := on_off (by omega) hn
    have HQ := Lib.hid P
    clear P
    go_simp
    have P := HQ.out
    obtain ⟨bk, fw, fn⟩ := on3 (f := f) (i := 5) (by omega)
    exact hKK (upd gv 21 (.int .i64 (i : Int))) _ (by exact ⟨hBx, vals_step (n := 5) (v := .int .i64 (i : Int)) hD (by decide) (by omega) P (fun _ => rfl)⟩)
   | 6, _ =>
    cases hio
    have off : ¬ On f 6 := on_off (by omega) hn
    have h4 : On f 4 := he ⟨4, .data⟩ (by simp) rfl
    have e4 : gv 20 = .slice (some ⟨b', fo', none⟩) n c' := P 4 (by decide) rfl h4
    have h5 : On f 5 := he ⟨5, .data⟩ (by simp) rfl
    have e5 : gv 21 = .int .i64 (i : Int) := P 5 (by decide) rfl h5
    rw [e4, e5]
    have HQ := Lib.hid P
    clear P
    go_simp
    have P := HQ.out
    obtain ⟨bk, fw, fn⟩ := on3 (f := f) (i := 6) (by omega)
    exact hKK (upd (upd (upd gv 20 (.slice (some ⟨b', fo', none⟩) n c')) 21 (.int .i64 (i : Int))) 22 (.pointer (some ⟨b', fo' + i * 32, none⟩))) _ (by rw [upd_same e4]; rw [upd_same e5]; exact ⟨hBx, vals_step (n := 6) (v := .pointer (some ⟨b', fo' + i * 32, none⟩)) hD (by decide) (by omega) P (fun _ => rfl)⟩)
   | 7, _ =>
    cases hio
    have off : ¬ On f 7 := on_off (by omega) hn
    have h6 : On f 6 := he ⟨6, .data⟩ (by simp) rfl
    have e6 : gv 22 = .pointer (some ⟨b', fo' + i * 32, none⟩) := P 6 (by decide) rfl h6
    have hrg := rng_below (HX.out.2.2.2) (hB.out.step hBx)
    rw [e6]
    have HQ := Lib.hid P
    clear P
    refine rng_load (by rfl) 23 rfl 48 (.tmp 22) rfl (by rfl) (Bs y) _ hrg under_ids rfl (info_x HX.out.2.1) ?_
    simp only [List.setIfInBounds_toArray]
    have P := HQ.out
    obtain ⟨bk, fw, fn⟩ := on3 (f := f) (i := 7) (by omega)
    exact hKK (upd (upd gv 22 (.pointer (some ⟨b', fo' + i * 32, none⟩))) 23 (.agg (Bs y).toArray)) _ (by rw [upd_same e6]; exact ⟨hBx, vals_step (n := 7) (v := .agg (Bs y).toArray) hD (by decide) (by omega) P (fun _ => rfl)⟩)
   | 8, _ =>
    cases hio
    have off : ¬ On f 8 := on_off (by omega) hn
    have h3 : On f 3 := he ⟨3, .data⟩ (by simp) rfl
    have e3 : gv 19 = .agg (Bs x).toArray := P 3 (by decide) rfl h3
    have h7 : On f 7 := he ⟨7, .data⟩ (by simp) rfl
    have e7 : gv 23 = .agg (Bs y).toArray := P 7 (by decide) rfl h7
    have d0 := HEQ.out wm
    rw [e3, e7]
    have HQ := Lib.hid P
    clear P
    go_simp
    have P := HQ.out
    obtain ⟨bk, fw, fn⟩ := on3 (f := f) (i := 8) (by omega)
    exact hKK (upd (upd (upd gv 19 (.agg (Bs x).toArray)) 23 (.agg (Bs y).toArray)) 24 (.bool (!q))) _ (by rw [upd_same e3]; rw [upd_same e7]; exact ⟨hBx, vals_step (n := 8) (v := .bool (!q)) hD (by decide) (by omega) P (fun _ => rfl)⟩)
  ·rintro f gv w5 hall hs' ⟨hBx, P⟩
   replace hs' : f.size = 9 := hs'
   have on : ∀ j, j < 9 → On f j := fun j hj => on_all hall hs' j hj
   cases q with
   | false =>
    have HZ := Lib.hid (HN2.out rfl)
    have BX := Lib.hid (hB.out.step hBx)
    have e6 : gv 24 = .bool true := P 8 (by decide) rfl (on 8 (by decide))
    clear P hBx hall hs' on hD HT2 HN2 HEQ
    rw [e6]
    go_wp2_with fail
    go_ret
    exact ⟨retb HZ.out.symm, BX.out⟩
   | true =>
    have HZ := Lib.hid (HT2.out rfl)
    have BX := Lib.hid (hB.out.step hBx)
    have e6 : gv 24 = .bool false := P 8 (by decide) rfl (on 8 (by decide))
    clear P hBx hall hs' on hD HT2 HN2 HEQ
    rw [e6]
    go_wp2_with fail
    refine ⟨⟨i + 1, by omega, rfl, HZ, BX⟩, ?_⟩
    simp [intOf]; omega
set_option maxRecDepth 100000 in
set_option maxHeartbeats 4000000 in
theorem less_ref (x y : List UInt8) (w : World) (hx : x.length = 32) (hy : y.length = 32) : Calls Tryz.prog 56 #[arr x, arr y] w fun e w' => e = .returned (.bool (ltL x y)) ∧ Below w.heap.size w w' := by
 have HL := Lib.hid (And.intro hx hy)
 unfold arr
 go_enter Tryz.func56, Tryz.ntmps56
 go_upto_region 1 with fail
 obtain ⟨b2, hb2⟩ : ∃ b2, b2 = w.heap.size := ⟨_, rfl⟩
 obtain ⟨w1, hw1⟩ : ∃ w1, w1 = w.alloc (.cells (Bs x).toArray 48) := ⟨_, rfl⟩
 have hs : w.heap.size + 1 = w1.heap.size := by rw [hw1, size_alloc']
 have hb1 : Below w.heap.size w w1 := by rw [hw1]; exact (Below.refl _ _).alloc (Nat.le_refl _) _
 have hc2 : Cel w1 b2 48 (Bs x) := by rw [hw1, hb2]; exact Cel.new w _ _
 rw [← hw1, hs]
 obtain ⟨b3, hb3⟩ : ∃ b3, b3 = w1.heap.size := ⟨_, rfl⟩
 obtain ⟨w2, hw2⟩ : ∃ w2, w2 = w1.alloc (.cells (Bs y).toArray 48) := ⟨_, rfl⟩
 have hb12 : Below w1.heap.size w1 w2 := by rw [hw2]; exact (Below.refl _ _).alloc (Nat.le_refl _) _
 have HC3 := Lib.hid (show Cel w2 b3 48 (Bs y) by rw [hw2, hb3]; exact Cel.new w1 _ _)
 have HC2 := Lib.hid (hc2.step hb12)
 have HB2 := Lib.hid (hb1.step hb12)
 rw [← hw2, ← hb2, ← hb3]
 clear hb2 hw1 hs hb1 hc2 hb3 hw2 hb12 hx hy
 go_wp2_with fail
 go_loopw [5] (fun v5 wr => ∃ i : Nat, i ≤ 32 ∧ v5 = .int .i64 (i : Int) ∧ Hid (ltL x y = ltL (x.drop i) (y.drop i)) ∧ Hid (Below w2.heap.size w2 wr)) (fun v5 _ => 32 - (intOf v5).toNat)
 case atStart => exact ⟨0, by decide, rfl, Lib.hid rfl, Lib.hid (Below.refl _ _)⟩
 case round =>
  obtain ⟨i, hi, rfl, hE, hB⟩ := hrel
  by_cases hin : i < 32
  case neg =>
   obtain rfl : i = 32 := by omega
   have HY := Lib.hid (show ltL x y = false by rw [hE.out, List.drop_eq_nil_of_le (by rw [HL.out.1]; exact Nat.le_refl _), List.drop_eq_nil_of_le (by rw [HL.out.2]; exact Nat.le_refl _)]; rfl)
   clear hE
   go_wp2_with fail
   go_ret
   exact ⟨retb HY.out.symm, HB2.out.step hB.out⟩
  have hii : (i : Int) < 32 := by omega
  have hi0 : 0 ≤ (i : Int) := by omega
  have g2 : wr.cell? ⟨b2, i, none⟩ = some (.int .u8 ((x.getD i 0).toNat : Int)) := (HC2.out.step hB.out).at i _ (Bs_at x i (by rw [HL.out.1]; exact hin))
  have g3 : wr.cell? ⟨b3, i, none⟩ = some (.int .u8 ((y.getD i 0).toNat : Int)) := (HC3.out.step hB.out).at i _ (Bs_at y i (by rw [HL.out.2]; exact hin))
  obtain ⟨p, hp⟩ : ∃ p, p = x.getD i 0 := ⟨_, rfl⟩
  obtain ⟨q, hq⟩ : ∃ q, q = y.getD i 0 := ⟨_, rfl⟩
  rw [← hp] at g2
  rw [← hq] at g3
  have hd1 : x.drop i = p :: x.drop (i + 1) := by rw [List.drop_eq_getElem_cons (by rw [HL.out.1]; exact hin), hp, List.getD_eq_getElem?_getD, List.getElem?_eq_getElem (by rw [HL.out.1]; exact hin)]; rfl
  have hd2 : y.drop i = q :: y.drop (i + 1) := by rw [List.drop_eq_getElem_cons (by rw [HL.out.2]; exact hin), hq, List.getD_eq_getElem?_getD, List.getElem?_eq_getElem (by rw [HL.out.2]; exact hin)]; rfl
  have HE := Lib.hid (show ltL x y = if p = q then ltL (x.drop (i + 1)) (y.drop (i + 1)) else decide (p < q) by rw [hE.out, hd1, hd2]; rfl)
  have HG := Lib.hid (And.intro g2 g3)
  obtain ⟨P', hP'⟩ : ∃ P' : Int, P' = (p.toNat : Int) := ⟨_, rfl⟩
  obtain ⟨Q', hQ'⟩ : ∃ Q' : Int, Q' = (q.toNat : Int) := ⟨_, rfl⟩
  rw [← hP', ← hQ'] at HG
  have HPQ := Lib.hid (And.intro hP' hQ')
  clear hp hq hd1 hd2 hE g2 g3 hP' hQ'
  by_cases e : P' = Q'
  ·have HZ := Lib.hid (show ltL x y = ltL (x.drop (i + 1)) (y.drop (i + 1)) by
    rw [HE.out, if_pos]
    have h := e
    rw [HPQ.out.1, HPQ.out.2] at h
    exact UInt8.toNat_inj.1 (by omega))
   have he : (P' != Q') = false := by simpa using e
   clear e
   go_upto_region 4 with fail
   have hD : ∀ j, j < 7 → ∀ n, n < 7 → j ≠ n → dkN [10, 11, 12, 13, 14, 15, 16] j ≠ dkN [10, 11, 12, 13, 14, 15, 16] n := by decide +kernel
   refine region_fun (by kernel_rfl) (by kernel_rfl) (fun gv => #[.agg (Bs x).toArray, .agg (Bs y).toArray, .pointer (some ⟨b2, 0, none⟩), .pointer (some ⟨b3, 0, none⟩), gv 4, .int .i64 (i : Int), gv 6, gv 7, gv 8, gv 9, gv 10, gv 11, gv 12, gv 13, gv 14, gv 15, gv 16, gv 17, gv 18, gv 19, gv 20, gv 21, gv 22, gv 23]) rfl (fun f gv wx => Below wr.heap.size wr wx ∧ (∀ j, j < 7 → (fun j => false) j = false → On f j → gv (dkN [10, 11, 12, 13, 14, 15, 16] j) = vkN [.int .i64 (i : Int), .pointer (some ⟨b2, i, none⟩), .int .u8 P', .int .i64 (i : Int), .pointer (some ⟨b3, i, none⟩), .int .u8 Q', .bool false] j)) ?_ ?_ ?_
   ·have hoff : ∀ j, ¬ On (Array.replicate 7 false) j := by
     intro j hj; simp only [On, Array.getD_eq_getD_getElem?, Array.getElem?_replicate] at hj; split at hj <;> simp at hj
    exact ⟨(Below.refl _ _).drew, fun j _ _ x => absurd x (hoff _)⟩
   ·rintro i' o' f gv wm hio hs' hn he ⟨hBx, P⟩ KK hKK
    have hi' : i' < 7 := (Array.getElem?_eq_some_iff.1 hio).1
    replace hs' : f.size = 7 := hs'
    match i', hi' with
    | 0, _ =>
     cases hio
     have off : ¬ On f 0 := on_off (by omega) hn
     have HQ := Lib.hid P
     clear P
     go_simp
     have P := HQ.out
     obtain ⟨bk, fw, fn⟩ := on3 (f := f) (i := 0) (by omega)
     exact hKK (upd gv 10 (.int .i64 (i : Int))) _ (by exact ⟨hBx, vals_step (n := 0) (v := .int .i64 (i : Int)) hD (by decide) (by omega) P (fun _ => rfl)⟩)
    | 1, _ =>
     cases hio
     have off : ¬ On f 1 := on_off (by omega) hn
     have h0 : On f 0 := he ⟨0, .data⟩ (by simp) rfl
     have e0 : gv 10 = .int .i64 (i : Int) := P 0 (by decide) rfl h0
     rw [e0]
     have HQ := Lib.hid P
     clear P
     go_simp
     have P := HQ.out
     obtain ⟨bk, fw, fn⟩ := on3 (f := f) (i := 1) (by omega)
     exact hKK (upd (upd gv 10 (.int .i64 (i : Int))) 11 (.pointer (some ⟨b2, i, none⟩))) _ (by rw [upd_same e0]; exact ⟨hBx, vals_step (n := 1) (v := .pointer (some ⟨b2, i, none⟩)) hD (by decide) (by omega) P (fun _ => rfl)⟩)
    | 2, _ =>
     cases hio
     have off : ¬ On f 2 := on_off (by omega) hn
     have h1 : On f 1 := he ⟨1, .data⟩ (by simp) rfl
     have e1 : gv 11 = .pointer (some ⟨b2, i, none⟩) := P 1 (by decide) rfl h1
     have d0 := carry_cell HG.out.1 hBx
     rw [e1]
     have HQ := Lib.hid P
     clear P
     go_simp
     have P := HQ.out
     obtain ⟨bk, fw, fn⟩ := on3 (f := f) (i := 2) (by omega)
     exact hKK (upd (upd gv 11 (.pointer (some ⟨b2, i, none⟩))) 12 (.int .u8 P')) _ (by rw [upd_same e1]; exact ⟨hBx, vals_step (n := 2) (v := .int .u8 P') hD (by decide) (by omega) P (fun _ => rfl)⟩)
    | 3, _ =>
     cases hio
     have off : ¬ On f 3 := on_off (by omega) hn
     have HQ := Lib.hid P
     clear P
     go_simp
     have P := HQ.out
     obtain ⟨bk, fw, fn⟩ := on3 (f := f) (i := 3) (by omega)
     exact hKK (upd gv 13 (.int .i64 (i : Int))) _ (by exact ⟨hBx, vals_step (n := 3) (v := .int .i64 (i : Int)) hD (by decide) (by omega) P (fun _ => rfl)⟩)
    | 4, _ =>
     cases hio
     have off : ¬ On f 4 := on_off (by omega) hn
     have h3 : On f 3 := he ⟨3, .data⟩ (by simp) rfl
     have e3 : gv 13 = .int .i64 (i : Int) := P 3 (by decide) rfl h3
     rw [e3]
     have HQ := Lib.hid P
     clear P
     go_simp
     have P := HQ.out
     obtain ⟨bk, fw, fn⟩ := on3 (f := f) (i := 4) (by omega)
     exact hKK (upd (upd gv 13 (.int .i64 (i : Int))) 14 (.pointer (some ⟨b3, i, none⟩))) _ (by rw [upd_same e3]; exact ⟨hBx, vals_step (n := 4) (v := .pointer (some ⟨b3, i, none⟩)) hD (by decide) (by omega) P (fun _ => rfl)⟩)
    | 5, _ =>
     cases hio
     have off : ¬ On f 5 := on_off (by omega) hn
     have h4 : On f 4 := he ⟨4, .data⟩ (by simp) rfl
     have e4 : gv 14 = .pointer (some ⟨b3, i, none⟩) := P 4 (by decide) rfl h4
     have d0 := carry_cell HG.out.2 hBx
     rw [e4]
     have HQ := Lib.hid P
     clear P
     go_simp
     have P := HQ.out
     obtain ⟨bk, fw, fn⟩ := on3 (f := f) (i := 5) (by omega)
     exact hKK (upd (upd gv 14 (.pointer (some ⟨b3, i, none⟩))) 15 (.int .u8 Q')) _ (by rw [upd_same e4]; exact ⟨hBx, vals_step (n := 5) (v := .int .u8 Q') hD (by decide) (by omega) P (fun _ => rfl)⟩)
    | 6, _ =>
     cases hio
     have off : ¬ On f 6 := on_off (by omega) hn
     have h2 : On f 2 := he ⟨2, .data⟩ (by simp) rfl
     have e2 : gv 12 = .int .u8 P' := P 2 (by decide) rfl h2
     have h5 : On f 5 := he ⟨5, .data⟩ (by simp) rfl
     have e5 : gv 15 = .int .u8 Q' := P 5 (by decide) rfl h5
     rw [e2, e5]
     have HQ := Lib.hid P
     clear P
     go_simp
     have P := HQ.out
     obtain ⟨bk, fw, fn⟩ := on3 (f := f) (i := 6) (by omega)
     exact hKK (upd (upd (upd gv 12 (.int .u8 P')) 15 (.int .u8 Q')) 16 (.bool false)) _ (by rw [upd_same e2]; rw [upd_same e5]; exact ⟨hBx, vals_step (n := 6) (v := .bool false) hD (by decide) (by omega) P (fun _ => rfl)⟩)
   ·rintro f gv w5 hall hs' ⟨hBx, P⟩
    replace hs' : f.size = 7 := hs'
    have on : ∀ j, j < 7 → On f j := fun j hj => on_all hall hs' j hj
    have BX := Lib.hid (hB.out.step hBx)
    have e6 : gv 16 = .bool false := P 6 (by decide) rfl (on 6 (by decide))
    clear P hBx hall hs' on hD
    rw [e6]
    go_wp2_with fail
    refine ⟨⟨i + 1, by omega, rfl, HZ, BX⟩, ?_⟩
    simp [intOf]; omega
  ·have HZ := Lib.hid (show ltL x y = decide (P' < Q') by
    rw [HE.out, if_neg]
    ·rw [HPQ.out.1, HPQ.out.2, decide_eq_decide, UInt8.lt_iff_toNat_lt]; omega
    ·intro h
     exact e (by rw [HPQ.out.1, HPQ.out.2, h]))
   have he : (P' != Q') = true := by simpa using e
   clear e
   go_upto_region 4 with fail
   have hD : ∀ j, j < 7 → ∀ n, n < 7 → j ≠ n → dkN [10, 11, 12, 13, 14, 15, 16] j ≠ dkN [10, 11, 12, 13, 14, 15, 16] n := by decide +kernel
   refine region_fun (by kernel_rfl) (by kernel_rfl) (fun gv => #[.agg (Bs x).toArray, .agg (Bs y).toArray, .pointer (some ⟨b2, 0, none⟩), .pointer (some ⟨b3, 0, none⟩), gv 4, .int .i64 (i : Int), gv 6, gv 7, gv 8, gv 9, gv 10, gv 11, gv 12, gv 13, gv 14, gv 15, gv 16, gv 17, gv 18, gv 19, gv 20, gv 21, gv 22, gv 23]) rfl (fun f gv wx => Below wr.heap.size wr wx ∧ (∀ j, j < 7 → (fun j => false) j = false → On f j → gv (dkN [10, 11, 12, 13, 14, 15, 16] j) = vkN [.int .i64 (i : Int), .pointer (some ⟨b2, i, none⟩), .int .u8 P', .int .i64 (i : Int), .pointer (some ⟨b3, i, none⟩), .int .u8 Q', .bool true] j)) ?_ ?_ ?_
   ·have hoff : ∀ j, ¬ On (Array.replicate 7 false) j := by
     intro j hj; simp only [On, Array.getD_eq_getD_getElem?, Array.getElem?_replicate] at hj; split at hj <;> simp at hj
    exact ⟨(Below.refl _ _).drew, fun j _ _ x => absurd x (hoff _)⟩
   ·rintro i' o' f gv wm hio hs' hn he ⟨hBx, P⟩ KK hKK
    have hi' : i' < 7 := (Array.getElem?_eq_some_iff.1 hio).1
    replace hs' : f.size = 7 := hs'
    match i', hi' with
    | 0, _ =>
     cases hio
     have off : ¬ On f 0 := on_off (by omega) hn
     have HQ := Lib.hid P
     clear P
     go_simp
     have P := HQ.out
     obtain ⟨bk, fw, fn⟩ := on3 (f := f) (i := 0) (by omega)
     exact hKK (upd gv 10 (.int .i64 (i : Int))) _ (by exact ⟨hBx, vals_step (n := 0) (v := .int .i64 (i : Int)) hD (by decide) (by omega) P (fun _ => rfl)⟩)
    | 1, _ =>
     cases hio
     have off : ¬ On f 1 := on_off (by omega) hn
     have h0 : On f 0 := he ⟨0, .data⟩ (by simp) rfl
     have e0 : gv 10 = .int .i64 (i : Int) := P 0 (by decide) rfl h0
     rw [e0]
     have HQ := Lib.hid P
     clear P
     go_simp
     have P := HQ.out
     obtain ⟨bk, fw, fn⟩ := on3 (f := f) (i := 1) (by omega)
     exact hKK (upd (upd gv 10 (.int .i64 (i : Int))) 11 (.pointer (some ⟨b2, i, none⟩))) _ (by rw [upd_same e0]; exact ⟨hBx, vals_step (n := 1) (v := .pointer (some ⟨b2, i, none⟩)) hD (by decide) (by omega) P (fun _ => rfl)⟩)
    | 2, _ =>
     cases hio
     have off : ¬ On f 2 := on_off (by omega) hn
     have h1 : On f 1 := he ⟨1, .data⟩ (by simp) rfl
     have e1 : gv 11 = .pointer (some ⟨b2, i, none⟩) := P 1 (by decide) rfl h1
     have d0 := carry_cell HG.out.1 hBx
     rw [e1]
     have HQ := Lib.hid P
     clear P
     go_simp
     have P := HQ.out
     obtain ⟨bk, fw, fn⟩ := on3 (f := f) (i := 2) (by omega)
     exact hKK (upd (upd gv 11 (.pointer (some ⟨b2, i, none⟩))) 12 (.int .u8 P')) _ (by rw [upd_same e1]; exact ⟨hBx, vals_step (n := 2) (v := .int .u8 P') hD (by decide) (by omega) P (fun _ => rfl)⟩)
    | 3, _ =>
     cases hio
     have off : ¬ On f 3 := on_off (by omega) hn
     have HQ := Lib.hid P
     clear P
     go_simp
     have P := HQ.out
     obtain ⟨bk, fw, fn⟩ := on3 (f := f) (i := 3) (by omega)
     exact hKK (upd gv 13 (.int .i64 (i : Int))) _ (by exact ⟨hBx, vals_step (n := 3) (v := .int .i64 (i : Int)) hD (by decide) (by omega) P (fun _ => rfl)⟩)
    | 4, _ =>
     cases hio
     have off : ¬ On f 4 := on_off (by omega) hn
     have h3 : On f 3 := he ⟨3, .data⟩ (by simp) rfl
     have e3 : gv 13 = .int .i64 (i : Int) := P 3 (by decide) rfl h3
     rw [e3]
     have HQ := Lib.hid P
     clear P
     go_simp
     have P := HQ.out
     obtain ⟨bk, fw, fn⟩ := on3 (f := f) (i := 4) (by omega)
     exact hKK (upd (upd gv 13 (.int .i64 (i : Int))) 14 (.pointer (some ⟨b3, i, none⟩))) _ (by rw [upd_same e3]; exact ⟨hBx, vals_step (n := 4) (v := .pointer (some ⟨b3, i, none⟩)) hD (by decide) (by omega) P (fun _ => rfl)⟩)
    | 5, _ =>
     cases hio
     have off : ¬ On f 5 := on_off (by omega) hn
     have h4 : On f 4 := he ⟨4, .data⟩ (by simp) rfl
     have e4 : gv 14 = .pointer (some ⟨b3, i, none⟩) := P 4 (by decide) rfl h4
     have d0 := carry_cell HG.out.2 hBx
     rw [e4]
     have HQ := Lib.hid P
     clear P
     go_simp
     have P := HQ.out
     obtain ⟨bk, fw, fn⟩ := on3 (f := f) (i := 5) (by omega)
     exact hKK (upd (upd gv 14 (.pointer (some ⟨b3, i, none⟩))) 15 (.int .u8 Q')) _ (by rw [upd_same e4]; exact ⟨hBx, vals_step (n := 5) (v := .int .u8 Q') hD (by decide) (by omega) P (fun _ => rfl)⟩)
    | 6, _ =>
     cases hio
     have off : ¬ On f 6 := on_off (by omega) hn
     have h2 : On f 2 := he ⟨2, .data⟩ (by simp) rfl
     have e2 : gv 12 = .int .u8 P' := P 2 (by decide) rfl h2
     have h5 : On f 5 := he ⟨5, .data⟩ (by simp) rfl
     have e5 : gv 15 = .int .u8 Q' := P 5 (by decide) rfl h5
     rw [e2, e5]
     have HQ := Lib.hid P
     clear P
     go_simp
     have P := HQ.out
     obtain ⟨bk, fw, fn⟩ := on3 (f := f) (i := 6) (by omega)
     exact hKK (upd (upd (upd gv 12 (.int .u8 P')) 15 (.int .u8 Q')) 16 (.bool true)) _ (by rw [upd_same e2]; rw [upd_same e5]; exact ⟨hBx, vals_step (n := 6) (v := .bool true) hD (by decide) (by omega) P (fun _ => rfl)⟩)
   ·rintro f gv w5 hall hs' ⟨hBx, P⟩
    replace hs' : f.size = 7 := hs'
    have on : ∀ j, j < 7 → On f j := fun j hj => on_all hall hs' j hj
    have HB4 := Lib.hid (hB.out.step hBx)
    have HB4r := Lib.hid hBx
    have e6 : gv 16 = .bool true := P 6 (by decide) rfl (on 6 (by decide))
    clear P hBx hall hs' on hD
    rw [e6]
    go_upto_region 5 with fail
    have hD : ∀ j, j < 8 → ∀ n, n < 8 → j ≠ n → dkN [17, 18, 19, 20, 21, 22, 23, 4] j ≠ dkN [17, 18, 19, 20, 21, 22, 23, 4] n := by decide +kernel
    refine region_fun (by kernel_rfl) (by kernel_rfl) (fun gv => #[.agg (Bs x).toArray, .agg (Bs y).toArray, .pointer (some ⟨b2, 0, none⟩), .pointer (some ⟨b3, 0, none⟩), gv 4, .int .i64 (i : Int), gv 6, gv 7, gv 8, gv 9, gv 10, gv 11, gv 12, gv 13, gv 14, gv 15, gv 16, gv 17, gv 18, gv 19, gv 20, gv 21, gv 22, gv 23]) rfl (fun f gv wx => Below w5.heap.size w5 wx ∧ (∀ j, j < 8 → (fun j => false) j = false → On f j → gv (dkN [17, 18, 19, 20, 21, 22, 23, 4] j) = vkN [.int .i64 (i : Int), .pointer (some ⟨b2, i, none⟩), .int .u8 P', .int .i64 (i : Int), .pointer (some ⟨b3, i, none⟩), .int .u8 Q', .bool (decide (P' < Q')), .bool (decide (P' < Q'))] j)) ?_ ?_ ?_
    ·have hoff : ∀ j, ¬ On (Array.replicate 8 false) j := by
      intro j hj; simp only [On, Array.getD_eq_getD_getElem?, Array.getElem?_replicate] at hj; split at hj <;> simp at hj
     exact ⟨(Below.refl _ _).drew, fun j _ _ x => absurd x (hoff _)⟩
    ·rintro i' o' f gv wm hio hs' hn he ⟨hBx, P⟩ KK hKK
     have hi' : i' < 8 := (Array.getElem?_eq_some_iff.1 hio).1
     replace hs' : f.size = 8 := hs'
     match i', hi' with
     | 0, _ =>
      cases hio
      have off : ¬ On f 0 := on_off (by omega) hn
      have HQ := Lib.hid P
      clear P
      go_simp
      have P := HQ.out
      obtain ⟨bk, fw, fn⟩ := on3 (f := f) (i := 0) (by omega)
      exact hKK (upd gv 17 (.int .i64 (i : Int))) _ (by exact ⟨hBx, vals_step (n := 0) (v := .int .i64 (i : Int)) hD (by decide) (by omega) P (fun _ => rfl)⟩)
     | 1, _ =>
      cases hio
      have off : ¬ On f 1 := on_off (by omega) hn
      have h0 : On f 0 := he ⟨0, .data⟩ (by simp) rfl
      have e0 : gv 17 = .int .i64 (i : Int) := P 0 (by decide) rfl h0
      rw [e0]
      have HQ := Lib.hid P
      clear P
      go_simp
      have P := HQ.out
      obtain ⟨bk, fw, fn⟩ := on3 (f := f) (i := 1) (by omega)
      exact hKK (upd (upd gv 17 (.int .i64 (i : Int))) 18 (.pointer (some ⟨b2, i, none⟩))) _ (by rw [upd_same e0]; exact ⟨hBx, vals_step (n := 1) (v := .pointer (some ⟨b2, i, none⟩)) hD (by decide) (by omega) P (fun _ => rfl)⟩)
     | 2, _ =>
      cases hio
      have off : ¬ On f 2 := on_off (by omega) hn
      have h1 : On f 1 := he ⟨1, .data⟩ (by simp) rfl
      have e1 : gv 18 = .pointer (some ⟨b2, i, none⟩) := P 1 (by decide) rfl h1
      have d0 := carry_cell HG.out.1 (HB4r.out.step hBx)
      rw [e1]
      have HQ := Lib.hid P
      clear P
      go_simp
      have P := HQ.out
      obtain ⟨bk, fw, fn⟩ := on3 (f := f) (i := 2) (by omega)
      exact hKK (upd (upd gv 18 (.pointer (some ⟨b2, i, none⟩))) 19 (.int .u8 P')) _ (by rw [upd_same e1]; exact ⟨hBx, vals_step (n := 2) (v := .int .u8 P') hD (by decide) (by omega) P (fun _ => rfl)⟩)
     | 3, _ =>
      cases hio
      have off : ¬ On f 3 := on_off (by omega) hn
      have HQ := Lib.hid P
      clear P
      go_simp
      have P := HQ.out
      obtain ⟨bk, fw, fn⟩ := on3 (f := f) (i := 3) (by omega)
      exact hKK (upd gv 20 (.int .i64 (i : Int))) _ (by exact ⟨hBx, vals_step (n := 3) (v := .int .i64 (i : Int)) hD (by decide) (by omega) P (fun _ => rfl)⟩)
     | 4, _ =>
      cases hio
      have off : ¬ On f 4 := on_off (by omega) hn
      have h3 : On f 3 := he ⟨3, .data⟩ (by simp) rfl
      have e3 : gv 20 = .int .i64 (i : Int) := P 3 (by decide) rfl h3
      rw [e3]
      have HQ := Lib.hid P
      clear P
      go_simp
      have P := HQ.out
      obtain ⟨bk, fw, fn⟩ := on3 (f := f) (i := 4) (by omega)
      exact hKK (upd (upd gv 20 (.int .i64 (i : Int))) 21 (.pointer (some ⟨b3, i, none⟩))) _ (by rw [upd_same e3]; exact ⟨hBx, vals_step (n := 4) (v := .pointer (some ⟨b3, i, none⟩)) hD (by decide) (by omega) P (fun _ => rfl)⟩)
     | 5, _ =>
      cases hio
      have off : ¬ On f 5 := on_off (by omega) hn
      have h4 : On f 4 := he ⟨4, .data⟩ (by simp) rfl
      have e4 : gv 21 = .pointer (some ⟨b3, i, none⟩) := P 4 (by decide) rfl h4
      have d0 := carry_cell HG.out.2 (HB4r.out.step hBx)
      rw [e4]
      have HQ := Lib.hid P
      clear P
      go_simp
      have P := HQ.out
      obtain ⟨bk, fw, fn⟩ := on3 (f := f) (i := 5) (by omega)
      exact hKK (upd (upd gv 21 (.pointer (some ⟨b3, i, none⟩))) 22 (.int .u8 Q')) _ (by rw [upd_same e4]; exact ⟨hBx, vals_step (n := 5) (v := .int .u8 Q') hD (by decide) (by omega) P (fun _ => rfl)⟩)
     | 6, _ =>
      cases hio
      have off : ¬ On f 6 := on_off (by omega) hn
      have h2 : On f 2 := he ⟨2, .data⟩ (by simp) rfl
      have e2 : gv 19 = .int .u8 P' := P 2 (by decide) rfl h2
      have h5 : On f 5 := he ⟨5, .data⟩ (by simp) rfl
      have e5 : gv 22 = .int .u8 Q' := P 5 (by decide) rfl h5
      rw [e2, e5]
      have HQ := Lib.hid P
      clear P
      go_simp
      have P := HQ.out
      obtain ⟨bk, fw, fn⟩ := on3 (f := f) (i := 6) (by omega)
      exact hKK (upd (upd (upd gv 19 (.int .u8 P')) 22 (.int .u8 Q')) 23 (.bool (decide (P' < Q')))) _ (by rw [upd_same e2]; rw [upd_same e5]; exact ⟨hBx, vals_step (n := 6) (v := .bool (decide (P' < Q'))) hD (by decide) (by omega) P (fun _ => rfl)⟩)
     | 7, _ =>
      cases hio
      have off : ¬ On f 7 := on_off (by omega) hn
      have h6 : On f 6 := he ⟨6, .data⟩ (by simp) rfl
      have e6 : gv 23 = .bool (decide (P' < Q')) := P 6 (by decide) rfl h6
      rw [e6]
      have HQ := Lib.hid P
      clear P
      go_simp
      have P := HQ.out
      obtain ⟨bk, fw, fn⟩ := on3 (f := f) (i := 7) (by omega)
      exact hKK (upd (upd gv 23 (.bool (decide (P' < Q')))) 4 (.bool (decide (P' < Q')))) _ (by rw [upd_same e6]; exact ⟨hBx, vals_step (n := 7) (v := .bool (decide (P' < Q'))) hD (by decide) (by omega) P (fun _ => rfl)⟩)
    ·rintro f gv w5 hall hs' ⟨hBx, P⟩
     replace hs' : f.size = 8 := hs'
     have on : ∀ j, j < 8 → On f j := fun j hj => on_all hall hs' j hj
     have BX := Lib.hid (HB4.out.step hBx)
     have e7 : gv 4 = .bool (decide (P' < Q')) := P 7 (by decide) rfl (on 7 (by decide))
     clear P hBx hall hs' on hD
     rw [e7]
     go_wp2_with fail
     go_ret
     exact ⟨retb HZ.out.symm, HB2.out.step BX.out⟩
set_option maxRecDepth 100000 in
set_option maxHeartbeats 4000000 in
theorem rises_ref (a : Option Addr) (n c : Nat) (l : List (List UInt8)) (w : World) (hr : Ids w a n c l) : Calls Tryz.prog 27 #[.slice a n c] w fun e w' => e = .returned (.bool (risesL l)) ∧ Below w.heap.size w w' := by
 have hn63 : n ≤ 9223372036854775807 := Nat.le_trans hr.le hr.cap
 have HR := Lib.hid hr
 have HLN := Lib.hid hr.len
 clear hr
 go_enter Tryz.func27, Tryz.ntmps27
 go_wp2_with fail
 go_loopw [3] (fun v3 wr => ∃ u m : Nat, (u = 0 ∨ u + 1 ≤ n) ∧ m = u + 1 ∧ v3 = .int .i64 (m : Int) ∧ Hid (risesN l u = true) ∧ Hid (Below w.heap.size w wr)) (fun v3 _ => n + 1 - (intOf v3).toNat)
 case atStart => exact ⟨0, 1, .inl rfl, rfl, rfl, Lib.hid rfl, Lib.hid (Below.refl _ _)⟩
 case round =>
  obtain ⟨u, m, hj, hm, rfl, hR, hB⟩ := hrel
  by_cases hin : m < n
  case neg =>
   have HY := Lib.hid (show risesL l = true by
    unfold risesL
    rw [HLN.out, show n - 1 = u by omega]
    exact hR.out)
   have hni : ¬ (m : Int) < (n : Int) := by omega
   clear hR hm hj
   go_wp2_with fail
   go_ret
   exact ⟨retb HY.out.symm, hB.out⟩
  obtain ⟨b, fo, e1, f1⟩ := HR.out.cells.resolve_left (by omega)
  subst e1
  obtain ⟨x, hx⟩ : ∃ x, x = l.getD u [] := ⟨_, rfl⟩
  obtain ⟨y, hy⟩ : ∃ y, y = l.getD m [] := ⟨_, rfl⟩
  have HX := Lib.hid (show x.length = 32 ∧ y.length = 32 ∧ w.rangeAt b (fo + u * 32) (Bs x) ∧ w.rangeAt b (fo + m * 32) (Bs y) from ⟨by rw [hx]; exact HR.out.at32 u (by omega), by rw [hy]; exact HR.out.at32 m hin, by rw [hx]; exact f1 u (by omega), by rw [hy]; exact f1 m hin⟩)
  have HT := Lib.hid (show ltL x y = true → risesN l m = true from fun h => by rw [hm, risesN_succ, hR.out, ← hm, ← hx, ← hy, h]; rfl)
  have HF := Lib.hid (show ltL x y = false → risesL l = false from fun h => rises_not (j := u) (by rw [HLN.out]; omega) (by rw [← hm, ← hx, ← hy]; exact h))
  have hwr : IntKind.i64.wrap ((m : Int) - 1) = (u : Int) := by rw [IntWalk.i64_in _ ⟨by omega, by omega⟩]; omega
  have HLE := Lib.hid (fun w' => less_ref x y w' HX.out.1 HX.out.2.1)
  obtain ⟨lt, hlt⟩ : ∃ lt, lt = ltL x y := ⟨_, rfl⟩
  unfold arr at HLE
  rw [← hlt] at HLE HT HF
  have hji : (u : Int) < (n : Int) := by omega
  have hj0 : 0 ≤ (u : Int) := by omega
  have hmi : (m : Int) < (n : Int) := by omega
  have hm0 : 0 ≤ (m : Int) := by omega
  clear f1 hx hy hR hj hlt
  have HM := Lib.hid hm
  clear hm
  go_upto_region 4 with fail
  have hD : ∀ j, j < 11 → ∀ n, n < 11 → j ≠ n → dkN [11, 12, 13, 14, 15, 16, 17, 18, 19, 20, 4] j ≠ dkN [11, 12, 13, 14, 15, 16, 17, 18, 19, 20, 4] n := by decide +kernel
  refine region_fun (by kernel_rfl) (by kernel_rfl) (fun gv => #[.slice (some ⟨b, fo, none⟩) n c, undef, gv 2, .int .i64 (m : Int), gv 4, gv 5, gv 6, gv 7, gv 8, gv 9, gv 10, gv 11, gv 12, gv 13, gv 14, gv 15, gv 16, gv 17, gv 18, gv 19, gv 20, gv 21, gv 22]) rfl (fun f gv wx => Below wr.heap.size wr wx ∧ (∀ j, j < 11 → (fun j => false) j = false → On f j → gv (dkN [11, 12, 13, 14, 15, 16, 17, 18, 19, 20, 4] j) = vkN [.slice (some ⟨b, fo, none⟩) n c, .int .i64 (m : Int), .int .i64 (u : Int), .pointer (some ⟨b, fo + u * 32, none⟩), .agg (Bs x).toArray, .slice (some ⟨b, fo, none⟩) n c, .int .i64 (m : Int), .pointer (some ⟨b, fo + m * 32, none⟩), .agg (Bs y).toArray, .bool lt, .bool lt] j)) ?_ ?_ ?_
  ·have hoff : ∀ j, ¬ On (Array.replicate 11 false) j := by
    intro j hj; simp only [On, Array.getD_eq_getD_getElem?, Array.getElem?_replicate] at hj; split at hj <;> simp at hj
   exact ⟨(Below.refl _ _).drew, fun j _ _ x => absurd x (hoff _)⟩
  ·rintro i' o' f gv wm hio hs' hn he ⟨hBx, P⟩ KK hKK
   have hi' : i' < 11 := (Array.getElem?_eq_some_iff.1 hio).1
   replace hs' : f.size = 11 := hs'
   match i', hi' with
   | 0, _ =>
    cases hio
    have off : ¬ On f 0 := on_off (by omega) hn
    have HQ := Lib.hid P
    clear P
    go_simp
    have P := HQ.out
    obtain ⟨bk, fw, fn⟩ := on3 (f := f) (i := 0) (by omega)
    exact hKK (upd gv 11 (.slice (some ⟨b, fo, none⟩) n c)) _ (by exact ⟨hBx, vals_step (n := 0) (v := .slice (some ⟨b, fo, none⟩) n c) hD (by decide) (by omega) P (fun _ => rfl)⟩)
   | 1, _ =>
    cases hio
    have off : ¬ On f 1 := on_off (by omega) hn
    have HQ := Lib.hid P
    clear P
    go_simp
    have P := HQ.out
    obtain ⟨bk, fw, fn⟩ := on3 (f := f) (i := 1) (by omega)
    exact hKK (upd gv 12 (.int .i64 (m : Int))) _ (by exact ⟨hBx, vals_step (n := 1) (v := .int .i64 (m : Int)) hD (by decide) (by omega) P (fun _ => rfl)⟩)
   | 2, _ =>
    cases hio
    have off : ¬ On f 2 := on_off (by omega) hn
    have h1 : On f 1 := he ⟨1, .data⟩ (by simp) rfl
    have e1 : gv 12 = .int .i64 (m : Int) := P 1 (by decide) rfl h1
    rw [e1]
    have HQ := Lib.hid P
    clear P
    go_simp
    have P := HQ.out
    obtain ⟨bk, fw, fn⟩ := on3 (f := f) (i := 2) (by omega)
    exact hKK (upd (upd gv 12 (.int .i64 (m : Int))) 13 (.int .i64 (u : Int))) _ (by rw [upd_same e1]; exact ⟨hBx, vals_step (n := 2) (v := .int .i64 (u : Int)) hD (by decide) (by omega) P (fun _ => rfl)⟩)
   | 3, _ =>
    cases hio
    have off : ¬ On f 3 := on_off (by omega) hn
    have h0 : On f 0 := he ⟨0, .data⟩ (by simp) rfl
    have e0 : gv 11 = .slice (some ⟨b, fo, none⟩) n c := P 0 (by decide) rfl h0
    have h2 : On f 2 := he ⟨2, .data⟩ (by simp) rfl
    have e2 : gv 13 = .int .i64 (u : Int) := P 2 (by decide) rfl h2
    rw [e0, e2]
    have HQ := Lib.hid P
    clear P
    go_simp
    have P := HQ.out
    obtain ⟨bk, fw, fn⟩ := on3 (f := f) (i := 3) (by omega)
    exact hKK (upd (upd (upd gv 11 (.slice (some ⟨b, fo, none⟩) n c)) 13 (.int .i64 (u : Int))) 14 (.pointer (some ⟨b, fo + u * 32, none⟩))) _ (by rw [upd_same e0]; rw [upd_same e2]; exact ⟨hBx, vals_step (n := 3) (v := .pointer (some ⟨b, fo + u * 32, none⟩)) hD (by decide) (by omega) P (fun _ => rfl)⟩)
   | 4, _ =>
    cases hio
    have off : ¬ On f 4 := on_off (by omega) hn
    have h3 : On f 3 := he ⟨3, .data⟩ (by simp) rfl
    have e3 : gv 14 = .pointer (some ⟨b, fo + u * 32, none⟩) := P 3 (by decide) rfl h3
    have hrg := rng_below (HX.out.2.2.1) (hB.out.step hBx)
    rw [e3]
    have HQ := Lib.hid P
    clear P
    refine rng_load (by rfl) 15 rfl 48 (.tmp 14) rfl (by rfl) (Bs x) _ hrg under_ids rfl (info_x HX.out.1) ?_
    simp only [List.setIfInBounds_toArray]
    have P := HQ.out
    obtain ⟨bk, fw, fn⟩ := on3 (f := f) (i := 4) (by omega)
    exact hKK (upd (upd gv 14 (.pointer (some ⟨b, fo + u * 32, none⟩))) 15 (.agg (Bs x).toArray)) _ (by rw [upd_same e3]; exact ⟨hBx, vals_step (n := 4) (v := .agg (Bs x).toArray) hD (by decide) (by omega) P (fun _ => rfl)⟩)
   | 5, _ =>
    cases hio
    have off : ¬ On f 5 := on_off (by omega) hn
    have HQ := Lib.hid P
    clear P
    go_simp
    have P := HQ.out
    obtain ⟨bk, fw, fn⟩ := on3 (f := f) (i := 5) (by omega)
    exact hKK (upd gv 16 (.slice (some ⟨b, fo, none⟩) n c)) _ (by exact ⟨hBx, vals_step (n := 5) (v := .slice (some ⟨b, fo, none⟩) n c) hD (by decide) (by omega) P (fun _ => rfl)⟩)
   | 6, _ =>
    cases hio
    have off : ¬ On f 6 := on_off (by omega) hn
    have HQ := Lib.hid P
    clear P
    go_simp
    have P := HQ.out
    obtain ⟨bk, fw, fn⟩ := on3 (f := f) (i := 6) (by omega)
    exact hKK (upd gv 17 (.int .i64 (m : Int))) _ (by exact ⟨hBx, vals_step (n := 6) (v := .int .i64 (m : Int)) hD (by decide) (by omega) P (fun _ => rfl)⟩)
   | 7, _ =>
    cases hio
    have off : ¬ On f 7 := on_off (by omega) hn
    have h5 : On f 5 := he ⟨5, .data⟩ (by simp) rfl
    have e5 : gv 16 = .slice (some ⟨b, fo, none⟩) n c := P 5 (by decide) rfl h5
    have h6 : On f 6 := he ⟨6, .data⟩ (by simp) rfl
    have e6 : gv 17 = .int .i64 (m : Int) := P 6 (by decide) rfl h6
    rw [e5, e6]
    have HQ := Lib.hid P
    clear P
    go_simp
    have P := HQ.out
    obtain ⟨bk, fw, fn⟩ := on3 (f := f) (i := 7) (by omega)
    exact hKK (upd (upd (upd gv 16 (.slice (some ⟨b, fo, none⟩) n c)) 17 (.int .i64 (m : Int))) 18 (.pointer (some ⟨b, fo + m * 32, none⟩))) _ (by rw [upd_same e5]; rw [upd_same e6]; exact ⟨hBx, vals_step (n := 7) (v := .pointer (some ⟨b, fo + m * 32, none⟩)) hD (by decide) (by omega) P (fun _ => rfl)⟩)
   | 8, _ =>
    cases hio
    have off : ¬ On f 8 := on_off (by omega) hn
    have h7 : On f 7 := he ⟨7, .data⟩ (by simp) rfl
    have e7 : gv 18 = .pointer (some ⟨b, fo + m * 32, none⟩) := P 7 (by decide) rfl h7
    have hrg := rng_below (HX.out.2.2.2) (hB.out.step hBx)
    rw [e7]
    have HQ := Lib.hid P
    clear P
    refine rng_load (by rfl) 19 rfl 48 (.tmp 18) rfl (by rfl) (Bs y) _ hrg under_ids rfl (info_x HX.out.2.1) ?_
    simp only [List.setIfInBounds_toArray]
    have P := HQ.out
    obtain ⟨bk, fw, fn⟩ := on3 (f := f) (i := 8) (by omega)
    exact hKK (upd (upd gv 18 (.pointer (some ⟨b, fo + m * 32, none⟩))) 19 (.agg (Bs y).toArray)) _ (by rw [upd_same e7]; exact ⟨hBx, vals_step (n := 8) (v := .agg (Bs y).toArray) hD (by decide) (by omega) P (fun _ => rfl)⟩)
   | 9, _ =>
    cases hio
    have off : ¬ On f 9 := on_off (by omega) hn
    have h4 : On f 4 := he ⟨4, .data⟩ (by simp) rfl
    have e4 : gv 15 = .agg (Bs x).toArray := P 4 (by decide) rfl h4
    have h8 : On f 8 := he ⟨8, .data⟩ (by simp) rfl
    have e8 : gv 19 = .agg (Bs y).toArray := P 8 (by decide) rfl h8
    rw [e4, e8]
    have HQ := Lib.hid P
    clear P
    go_simp
    refine (HLE.out _).mono ?_
    rintro e w6 ⟨rfl, hb⟩
    have P := HQ.out
    obtain ⟨bk, fw, fn⟩ := on3 (f := f) (i := 9) (by omega)
    exact hKK (upd (upd (upd gv 15 (.agg (Bs x).toArray)) 19 (.agg (Bs y).toArray)) 20 (.bool lt)) _ (by rw [upd_same e4]; rw [upd_same e8]; exact ⟨hBx.step hb, vals_step (n := 9) (v := .bool lt) hD (by decide) (by omega) P (fun _ => rfl)⟩)
   | 10, _ =>
    cases hio
    have off : ¬ On f 10 := on_off (by omega) hn
    have h9 : On f 9 := he ⟨9, .data⟩ (by simp) rfl
    have e9 : gv 20 = .bool lt := P 9 (by decide) rfl h9
    rw [e9]
    have HQ := Lib.hid P
    clear P
    go_simp
    have P := HQ.out
    obtain ⟨bk, fw, fn⟩ := on3 (f := f) (i := 10) (by omega)
    exact hKK (upd (upd gv 20 (.bool lt)) 4 (.bool lt)) _ (by rw [upd_same e9]; exact ⟨hBx, vals_step (n := 10) (v := .bool lt) hD (by decide) (by omega) P (fun _ => rfl)⟩)
  ·rintro f gv w5 hall hs' ⟨hBx, P⟩
   replace hs' : f.size = 11 := hs'
   have on : ∀ j, j < 11 → On f j := fun j hj => on_all hall hs' j hj
   cases lt with
   | false =>
    have e6 : gv 4 = .bool false := P 10 (by decide) rfl (on 10 (by decide))
    have HZ := Lib.hid (HF.out rfl)
    have BX := Lib.hid (hB.out.step hBx)
    clear P hBx hall hs' on hD HT HF HLE
    rw [e6]
    go_wp2_with fail
    go_ret
    exact ⟨retb HZ.out.symm, BX.out⟩
   | true =>
    have e6 : gv 4 = .bool true := P 10 (by decide) rfl (on 10 (by decide))
    have HZ := Lib.hid (HT.out rfl)
    have BX := Lib.hid (hB.out.step hBx)
    clear P hBx hall hs' on hD HT HF HLE hwr
    rw [e6]
    go_wp2_with fail
    refine ⟨⟨m, m + 1, .inr (by omega), rfl, by go_num, HZ, BX⟩, ?_⟩
    simp [intOf]; omega
set_option maxRecDepth 100000 in
set_option maxHeartbeats 4000000 in
theorem sameids_ref (a a' : Option Addr) (n n' c c' : Nat) (l l' : List (List UInt8)) (w : World) (hr : Ids w a n c l) (hr' : Ids w a' n' c' l') : Calls Tryz.prog 30 #[.slice a n c, .slice a' n' c'] w fun e w' => e = .returned (.bool (decide (l = l'))) ∧ Below w.heap.size w w' := by
 have hn63 : n ≤ 9223372036854775807 := Nat.le_trans hr.le hr.cap
 have hn63' : n' ≤ 9223372036854775807 := Nat.le_trans hr'.le hr'.cap
 have HR := Lib.hid hr
 have HR' := Lib.hid hr'
 have HLN := Lib.hid hr.len
 have HLN' := Lib.hid hr'.len
 clear hr hr'
 by_cases hn : n = n'
 case neg =>
  have HNO := Lib.hid (show decide (l = l') = false from decide_eq_false (fun h => hn (by rw [← HLN.out, ← HLN'.out, h])))
  have hn' : ((n : Int) == (n' : Int)) = false := by simp; omega
  clear hn
  go_enter Tryz.func30, Tryz.ntmps30
  go_wp2_with fail
  go_ret
  exact ⟨retb HNO.out.symm, Below.refl _ _⟩
 subst hn
 go_enter Tryz.func30, Tryz.ntmps30
 go_wp2_with fail
 go_loopw [5] (fun vi wr => ∃ i : Nat, i ≤ n ∧ vi = .int .i64 (i : Int) ∧ Hid (l.take i = l'.take i) ∧ Hid (Below w.heap.size w wr)) (fun vi _ => n - (intOf vi).toNat)
 case atStart => exact ⟨0, Nat.zero_le _, rfl, Lib.hid rfl, Lib.hid (Below.refl _ _)⟩
 case round =>
  obtain ⟨i, hi, rfl, hE, hB⟩ := hrel
  by_cases hin : i < n
  case neg =>
   obtain rfl : i = n := by omega
   have HY := Lib.hid (show decide (l = l') = true from decide_eq_true (by
    have := hE.out
    rwa [List.take_of_length_le (Nat.le_of_eq HLN.out), List.take_of_length_le (Nat.le_of_eq HLN'.out)] at this))
   clear hE
   go_wp2_with fail
   go_ret
   exact ⟨retb HY.out.symm, hB.out⟩
  obtain ⟨b, fo, e1, f1⟩ := HR.out.cells.resolve_left (by omega)
  obtain ⟨b', fo', e2, f2⟩ := HR'.out.cells.resolve_left (by omega)
  subst e1 e2
  obtain ⟨x, hx⟩ : ∃ x, x = l.getD i [] := ⟨_, rfl⟩
  obtain ⟨y, hy⟩ : ∃ y, y = l'.getD i [] := ⟨_, rfl⟩
  have HX := Lib.hid (show x.length = 32 ∧ y.length = 32 ∧ w.rangeAt b (fo + i * 32) (Bs x) ∧ w.rangeAt b' (fo' + i * 32) (Bs y) from ⟨by rw [hx]; exact HR.out.at32 i hin, by rw [hy]; exact HR'.out.at32 i hin, by rw [hx]; exact f1 i hin, by rw [hy]; exact f2 i hin⟩)
  have ht1 : l.take (i + 1) = l.take i ++ [x] := by rw [List.take_add_one, hx, List.getD_eq_getElem?_getD, List.getElem?_eq_getElem (by rw [HLN.out]; exact hin)]; rfl
  have ht2 : l'.take (i + 1) = l'.take i ++ [y] := by rw [List.take_add_one, hy, List.getD_eq_getElem?_getD, List.getElem?_eq_getElem (by rw [HLN'.out]; exact hin)]; rfl
  have HT := Lib.hid (show x = y → l.take (i + 1) = l'.take (i + 1) from fun h => by rw [ht1, ht2, hE.out, h])
  have HN := Lib.hid (show x ≠ y → decide (l = l') = false from fun h => decide_eq_false (fun h2 => h (by rw [hx, hy, h2])))
  have HEQ := Lib.hid (fun w' => eq_arr x y HX.out.1 HX.out.2.1 w')
  obtain ⟨q, hq⟩ : ∃ q, q = decide (x = y) := ⟨_, rfl⟩
  rw [← hq] at HEQ
  have HT2 := Lib.hid (show q = true → l.take (i + 1) = l'.take (i + 1) from fun h => HT.out (of_decide_eq_true (by rw [← hq, h])))
  have HN2 := Lib.hid (show q = false → decide (l = l') = false from fun h => HN.out (of_decide_eq_false (by rw [← hq, h])))
  have hii : (i : Int) < (n : Int) := by omega
  have hi0 : 0 ≤ (i : Int) := by omega
  clear f1 f2 hx hy ht1 ht2 HT HN hE hq
  go_upto_region 6 with fail
  have hD : ∀ j, j < 9 → ∀ n, n < 9 → j ≠ n → dkN [17, 18, 19, 20, 21, 22, 23, 24, 25] j ≠ dkN [17, 18, 19, 20, 21, 22, 23, 24, 25] n := by decide +kernel
  refine region_fun (by kernel_rfl) (by kernel_rfl) (fun gv => #[.slice (some ⟨b, fo, none⟩) n c, .slice (some ⟨b', fo', none⟩) n c', undef, undef, gv 4, .int .i64 (i : Int), .slice (some ⟨b, fo, none⟩) n c, .int .i64 (n : Int), .slice (some ⟨b', fo', none⟩) n c', .int .i64 (n : Int), .bool false, gv 11, gv 12, gv 13, gv 14, gv 15, gv 16, gv 17, gv 18, gv 19, gv 20, gv 21, gv 22, gv 23, gv 24, gv 25]) rfl (fun f gv wx => Below wr.heap.size wr wx ∧ (∀ j, j < 9 → (fun j => false) j = false → On f j → gv (dkN [17, 18, 19, 20, 21, 22, 23, 24, 25] j) = vkN [.slice (some ⟨b, fo, none⟩) n c, .int .i64 (i : Int), .pointer (some ⟨b, fo + i * 32, none⟩), .agg (Bs x).toArray, .slice (some ⟨b', fo', none⟩) n c', .int .i64 (i : Int), .pointer (some ⟨b', fo' + i * 32, none⟩), .agg (Bs y).toArray, .bool (!q)] j)) ?_ ?_ ?_
  ·have hoff : ∀ j, ¬ On (Array.replicate 9 false) j := by
    intro j hj; simp only [On, Array.getD_eq_getD_getElem?, Array.getElem?_replicate] at hj; split at hj <;> simp at hj
   exact ⟨(Below.refl _ _).drew, fun j _ _ x => absurd x (hoff _)⟩
  ·rintro i' o' f gv wm hio hs' hn he ⟨hBx, P⟩ KK hKK
   have hi' : i' < 9 := (Array.getElem?_eq_some_iff.1 hio).1
   replace hs' : f.size = 9 := hs'
   match i', hi' with
   | 0, _ =>
    cases hio
    have off : ¬ On f 0 := on_off (by omega) hn
    have HQ := Lib.hid P
    clear P
    go_simp
    have P := HQ.out
    obtain ⟨bk, fw, fn⟩ := on3 (f := f) (i := 0) (by omega)
    exact hKK (upd gv 17 (.slice (some ⟨b, fo, none⟩) n c)) _ (by exact ⟨hBx, vals_step (n := 0) (v := .slice (some ⟨b, fo, none⟩) n c) hD (by decide) (by omega) P (fun _ => rfl)⟩)
   | 1, _ =>
    cases hio
    have off : ¬ On f 1 := on_off (by omega) hn
    have HQ := Lib.hid P
    clear P
    go_simp
    have P := HQ.out
    obtain ⟨bk, fw, fn⟩ := on3 (f := f) (i := 1) (by omega)
    exact hKK (upd gv 18 (.int .i64 (i : Int))) _ (by exact ⟨hBx, vals_step (n := 1) (v := .int .i64 (i : Int)) hD (by decide) (by omega) P (fun _ => rfl)⟩)
   | 2, _ =>
    cases hio
    have off : ¬ On f 2 := on_off (by omega) hn
    have h0 : On f 0 := he ⟨0, .data⟩ (by simp) rfl
    have e0 : gv 17 = .slice (some ⟨b, fo, none⟩) n c := P 0 (by decide) rfl h0
    have h1 : On f 1 := he ⟨1, .data⟩ (by simp) rfl
    have e1 : gv 18 = .int .i64 (i : Int) := P 1 (by decide) rfl h1
    rw [e0, e1]
    have HQ := Lib.hid P
    clear P
    go_simp
    have P := HQ.out
    obtain ⟨bk, fw, fn⟩ := on3 (f := f) (i := 2) (by omega)
    exact hKK (upd (upd (upd gv 17 (.slice (some ⟨b, fo, none⟩) n c)) 18 (.int .i64 (i : Int))) 19 (.pointer (some ⟨b, fo + i * 32, none⟩))) _ (by rw [upd_same e0]; rw [upd_same e1]; exact ⟨hBx, vals_step (n := 2) (v := .pointer (some ⟨b, fo + i * 32, none⟩)) hD (by decide) (by omega) P (fun _ => rfl)⟩)
   | 3, _ =>
    cases hio
    have off : ¬ On f 3 := on_off (by omega) hn
    have h2 : On f 2 := he ⟨2, .data⟩ (by simp) rfl
    have e2 : gv 19 = .pointer (some ⟨b, fo + i * 32, none⟩) := P 2 (by decide) rfl h2
    have hrg := rng_below (HX.out.2.2.1) (hB.out.step hBx)
    rw [e2]
    have HQ := Lib.hid P
    clear P
    refine rng_load (by rfl) 20 rfl 48 (.tmp 19) rfl (by rfl) (Bs x) _ hrg under_ids rfl (info_x HX.out.1) ?_
    simp only [List.setIfInBounds_toArray]
    have P := HQ.out
    obtain ⟨bk, fw, fn⟩ := on3 (f := f) (i := 3) (by omega)
    exact hKK (upd (upd gv 19 (.pointer (some ⟨b, fo + i * 32, none⟩))) 20 (.agg (Bs x).toArray)) _ (by rw [upd_same e2]; exact ⟨hBx, vals_step (n := 3) (v := .agg (Bs x).toArray) hD (by decide) (by omega) P (fun _ => rfl)⟩)
   | 4, _ =>
    cases hio
    have off : ¬ On f 4 := on_off (by omega) hn
    have HQ := Lib.hid P
    clear P
    go_simp
    have P := HQ.out
    obtain ⟨bk, fw, fn⟩ := on3 (f := f) (i := 4) (by omega)
    exact hKK (upd gv 21 (.slice (some ⟨b', fo', none⟩) n c')) _ (by exact ⟨hBx, vals_step (n := 4) (v := .slice (some ⟨b', fo', none⟩) n c') hD (by decide) (by omega) P (fun _ => rfl)⟩)
   | 5, _ =>
    cases hio
    have off : ¬ On f 5 := on_off (by omega) hn
    have HQ := Lib.hid P
    clear P
    go_simp
    have P := HQ.out
    obtain ⟨bk, fw, fn⟩ := on3 (f := f) (i := 5) (by omega)
    exact hKK (upd gv 22 (.int .i64 (i : Int))) _ (by exact ⟨hBx, vals_step (n := 5) (v := .int .i64 (i : Int)) hD (by decide) (by omega) P (fun _ => rfl)⟩)
   | 6, _ =>
    cases hio
    have off : ¬ On f 6 := on_off (by omega) hn
    have h4 : On f 4 := he ⟨4, .data⟩ (by simp) rfl
    have e4 : gv 21 = .slice (some ⟨b', fo', none⟩) n c' := P 4 (by decide) rfl h4
    have h5 : On f 5 := he ⟨5, .data⟩ (by simp) rfl
    have e5 : gv 22 = .int .i64 (i : Int) := P 5 (by decide) rfl h5
    rw [e4, e5]
    have HQ := Lib.hid P
    clear P
    go_simp
    have P := HQ.out
    obtain ⟨bk, fw, fn⟩ := on3 (f := f) (i := 6) (by omega)
    exact hKK (upd (upd (upd gv 21 (.slice (some ⟨b', fo', none⟩) n c')) 22 (.int .i64 (i : Int))) 23 (.pointer (some ⟨b', fo' + i * 32, none⟩))) _ (by rw [upd_same e4]; rw [upd_same e5]; exact ⟨hBx, vals_step (n := 6) (v := .pointer (some ⟨b', fo' + i * 32, none⟩)) hD (by decide) (by omega) P (fun _ => rfl)⟩)
   | 7, _ =>
    cases hio
    have off : ¬ On f 7 := on_off (by omega) hn
    have h6 : On f 6 := he ⟨6, .data⟩ (by simp) rfl
    have e6 : gv 23 = .pointer (some ⟨b', fo' + i * 32, none⟩) := P 6 (by decide) rfl h6
    have hrg := rng_below (HX.out.2.2.2) (hB.out.step hBx)
    rw [e6]
    have HQ := Lib.hid P
    clear P
    refine rng_load (by rfl) 24 rfl 48 (.tmp 23) rfl (by rfl) (Bs y) _ hrg under_ids rfl (info_x HX.out.2.1) ?_
    simp only [List.setIfInBounds_toArray]
    have P := HQ.out
    obtain ⟨bk, fw, fn⟩ := on3 (f := f) (i := 7) (by omega)
    exact hKK (upd (upd gv 23 (.pointer (some ⟨b', fo' + i * 32, none⟩))) 24 (.agg (Bs y).toArray)) _ (by rw [upd_same e6]; exact ⟨hBx, vals_step (n := 7) (v := .agg (Bs y).toArray) hD (by decide) (by omega) P (fun _ => rfl)⟩)
   | 8, _ =>
    cases hio
    have off : ¬ On f 8 := on_off (by omega) hn
    have h3 : On f 3 := he ⟨3, .data⟩ (by simp) rfl
    have e3 : gv 20 = .agg (Bs x).toArray := P 3 (by decide) rfl h3
    have h7 : On f 7 := he ⟨7, .data⟩ (by simp) rfl
    have e7 : gv 24 = .agg (Bs y).toArray := P 7 (by decide) rfl h7
    have d0 := HEQ.out wm
    rw [e3, e7]
    have HQ := Lib.hid P
    clear P
    go_simp
    have P := HQ.out
    obtain ⟨bk, fw, fn⟩ := on3 (f := f) (i := 8) (by omega)
    exact hKK (upd (upd (upd gv 20 (.agg (Bs x).toArray)) 24 (.agg (Bs y).toArray)) 25 (.bool (!q))) _ (by rw [upd_same e3]; rw [upd_same e7]; exact ⟨hBx, vals_step (n := 8) (v := .bool (!q)) hD (by decide) (by omega) P (fun _ => rfl)⟩)
  ·rintro f gv w5 hall hs' ⟨hBx, P⟩
   replace hs' : f.size = 9 := hs'
   have on : ∀ j, j < 9 → On f j := fun j hj => on_all hall hs' j hj
   cases q with
   | false =>
    have HZ := Lib.hid (HN2.out rfl)
    have BX := Lib.hid (hB.out.step hBx)
    have e6 : gv 25 = .bool true := P 8 (by decide) rfl (on 8 (by decide))
    clear P hBx hall hs' on hD HT2 HN2 HEQ
    rw [e6]
    go_wp2_with fail
    go_ret
    exact ⟨retb HZ.out.symm, BX.out⟩
   | true =>
    have HZ := Lib.hid (HT2.out rfl)
    have BX := Lib.hid (hB.out.step hBx)
    have e6 : gv 25 = .bool false := P 8 (by decide) rfl (on 8 (by decide))
    clear P hBx hall hs' on hD HT2 HN2 HEQ
    rw [e6]
    go_wp2_with fail
    refine ⟨⟨i + 1, by omega, rfl, HZ, BX⟩, ?_⟩
    simp [intOf]; omega
end Go.Proofs.YtofadpodlaakbaaGreat
