/- The walks of what kinds hands back. -/
import Derived.Test.YtofadpodlaakbaaGreatOpsKey
import Derived.Carry
import Derived.Laws.EntriesVeiled
import Derived.MapKept
import Derived.Deep.Cut
namespace Go.Proofs.YtofadpodlaakbaaGreat
open Go.ChangeShapes Go.WideShapes Go.ChangeAt Go.RowKit
set_option linter.unusedVariables false
def fnV (n : Nat) : Value := .func (.func n) #[] #[]
def kCnt : Value := .agg #[fnV 96, fnV 97, fnV 98]
def kNam : Value := .agg #[fnV 100, fnV 101, fnV 102]
def kNo : Value := .agg #[.nilFunc, .nilFunc, .nilFunc]
def kindsE : Array MapEntry := #[{ key := .int .i64 0, val := kCnt, born := 0 }, { key := .int .i64 1, val := kNam, born := 1 }, { key := .int .i64 2, val := kNam, born := 2 }, { key := .int .i64 3, val := kNam, born := 3 }]
def kindOf (k : Int) : Value := if k = 0 then kCnt else if k = 1 then kNam else if k = 2 then kNam else if k = 3 then kNam else kNo
theorem under_kinds : Tryz.prog.underlying 112 = some (.map 3 111) := by kernel_rfl
theorem put_new {w0 W : World} {B0 r clock : Nat} {es : Array MapEntry} (k : Int) (v : Value) (hb : W.heap[r]? = some (.map es clock)) (hf : Instr.findNow (.int .i64) (.int .i64 k) es.toList 0 = some none) (hB : Below B0 w0 W) (hr : B0 ≤ r) :
  ∃ W', (Instr.mapUpdate 112 (.map (some r)) (.int .i64 k) v).run Tryz.prog W = .ok () W' ∧ W'.heap[r]? = some (.map (es.push { key := .int .i64 k, val := v, born := clock }) (clock + 1)) ∧ Below B0 w0 W' ∧ (∀ b, b ≠ r → W'.heap[b]? = W.heap[b]?) := by
 have hc : (Instr.checkKey false 10000 3 (.int .i64 k)).run Tryz.prog W = .ok () W := MapKept.run_checkKey (k := .int .i64 k) Tryz.underlying3 (by simp [MapKept.IsKey]) false 9999
 obtain ⟨h1, h2⟩ := MapKept.heap_set (w := W) (o' := .map (es.push { key := .int .i64 k, val := v, born := clock }) (clock + 1)) hb
 refine ⟨{ W with heap := W.heap.setIfInBounds r (.map (es.push { key := .int .i64 k, val := v, born := clock }) (clock + 1)) }, ?_, h1, ⟨hB.os, hB.tape, hB.output, by simpa using hB.size, fun b hbb => ?_⟩, h2⟩
 ·simp [Instr.mapUpdate, run_underlying under_kinds, MapKept.run_getObj_map hb, hc, MapKept.run_findKey Tryz.underlying3 hf, MapKept.run_setObj_map _ hb, Result.andThen]
 ·exact (h2 b (by omega)).trans (hB.block b hbb)
theorem run_look {W : World} {r : Nat} (hb : W.heap[r]? = some (.map kindsE 4)) (k : Int) (b : Bool) :
  (Instr.lookup 112 (.map (some r)) (.int .i64 k) b).run Tryz.prog W = .ok (if b then .tuple #[kindOf k, .bool (inB k)] else kindOf k) W := by
 have hc : (Instr.checkKey kindsE.isEmpty 10000 3 (.int .i64 k)).run Tryz.prog W = .ok () W := MapKept.run_checkKey (k := .int .i64 k) Tryz.underlying3 (by simp [MapKept.IsKey]) _ 9999
 have hf : ∃ i, Instr.findNow (.int .i64) (.int .i64 k) kindsE.toList 0 = some (if inB k = true then some (i, kindOf k) else none) := by
  by_cases h0 : k = 0
  ·subst h0; exact ⟨0, rfl⟩
  by_cases h1 : k = 1
  ·subst h1; exact ⟨1, rfl⟩
  by_cases h2 : k = 2
  ·subst h2; exact ⟨2, rfl⟩
  by_cases h3 : k = 3
  ·subst h3; exact ⟨3, rfl⟩
  refine ⟨0, ?_⟩
  rw [if_neg (by simp [inB]; omega)]
  have e0 : (k == 0) = false := by simpa using h0
  have e1 : (k == 1) = false := by simpa using h1
  have e2 : (k == 2) = false := by simpa using h2
  have e3 : (k == 3) = false := by simpa using h3
  simp [kindsE, Instr.findNow, Instr.sameNow, e0, e1, e2, e3]
 obtain ⟨i, hf⟩ := hf
 cases hin : inB k with
 | true =>
  rw [hin, if_pos rfl] at hf
  simp [Instr.lookup, run_underlying under_kinds, MapKept.run_getObj_map hb, hc, MapKept.run_findKey Tryz.underlying3 hf, Result.andThen]
  try (cases b <;> rfl)
 | false =>
  rw [hin, if_neg (by decide)] at hf
  have hk : kindOf k = kNo := by simp only [inB, Bool.and_eq_false_iff, decide_eq_false_iff_not] at hin; unfold kindOf; rw [if_neg (by omega), if_neg (by omega), if_neg (by omega), if_neg (by omega)]
  simp [Instr.lookup, run_underlying under_kinds, MapKept.run_getObj_map hb, hc, MapKept.run_findKey Tryz.underlying3 hf, hk, Result.andThen]
  try (cases b <;> rfl)
theorem size_alloc (w : World) (o : Obj) : (w.alloc o).heap.size = w.heap.size + 1 := Array.size_push ..
set_option maxRecDepth 100000 in
set_option maxHeartbeats 1000000 in
theorem kinds_any (w : World) : Calls Tryz.prog 77 #[] w fun e w' => ∃ r, e = .returned (.map (some r)) ∧ w'.heap[r]? = some (.map kindsE 4) ∧ w.heap.size ≤ r ∧ Below w.heap.size w w' := by
 have hmm := @run_makeMap Tryz.prog
 go_enter Tryz.func77, Tryz.ntmps77
 go_upto_region 3 with fail
 generalize hw2 : World.alloc (w.alloc (Obj.cells #[_, _, _] _)) _ = w2
 have hB2 : Below w.heap.size w w2 := by rw [← hw2]; exact ((Below.refl _ _).alloc (Nat.le_refl _) _).alloc (by simp) _
 have hs2 : w2.heap.size = w.heap.size + 2 := by rw [← hw2, size_alloc, size_alloc]
 have c10 : w2.cell? ⟨w.heap.size, 0, none⟩ = some (.func (.func 96) #[] #[]) := by rw [← hw2]; exact carry_alloc (new_cell rfl)
 have c11 : w2.cell? ⟨w.heap.size, 1, none⟩ = some (.func (.func 97) #[] #[]) := by rw [← hw2]; exact carry_alloc (new_cell rfl)
 have c12 : w2.cell? ⟨w.heap.size, 2, none⟩ = some (.func (.func 98) #[] #[]) := by rw [← hw2]; exact carry_alloc (new_cell rfl)
 have hsz1 : ∀ o, (w.alloc o).heap.size = w.heap.size + 1 := fun o => size_alloc w o
 have c20 : w2.cell? ⟨w.heap.size + 1, 0, none⟩ = some (.func (.func 100) #[] #[]) := by rw [← hw2, ← hsz1 (Obj.cells #[.func (.func 96) #[] #[], .func (.func 97) #[] #[], .func (.func 98) #[] #[]] 111)]; exact new_cell rfl
 have c21 : w2.cell? ⟨w.heap.size + 1, 1, none⟩ = some (.func (.func 101) #[] #[]) := by rw [← hw2, ← hsz1 (Obj.cells #[.func (.func 96) #[] #[], .func (.func 97) #[] #[], .func (.func 98) #[] #[]] 111)]; exact new_cell rfl
 have c22 : w2.cell? ⟨w.heap.size + 1, 2, none⟩ = some (.func (.func 102) #[] #[]) := by rw [← hw2, ← hsz1 (Obj.cells #[.func (.func 96) #[] #[], .func (.func 97) #[] #[], .func (.func 98) #[] #[]] 111)]; exact new_cell rfl
 obtain ⟨R, hR⟩ : ∃ R, R = w2.heap.size := ⟨_, rfl⟩
 obtain ⟨w3, hw3⟩ : ∃ w3, w3 = w2.alloc (Obj.map #[] 0) := ⟨_, rfl⟩
 have hmk : (Instr.makeMap 112 none).run Tryz.prog w2 = .ok (.map (some R)) w3 := by rw [hR, hw3]; exact hmm _ _
 have hb3 : w3.heap[R]? = some (.map #[] 0) := by rw [hw3, hR]; exact (MapKept.heap_alloc w2 _).1
 have hB3 : Below w.heap.size w w3 := by rw [hw3]; exact hB2.alloc (by omega) _
 have hRR : w.heap.size ≤ R := by omega
 have k3 : ∀ b, b ≠ R → b < R → w3.heap[b]? = w2.heap[b]? := fun b _ hb => by rw [hw3]; exact Below.heap_alloc _ _ _ (by omega)
 obtain ⟨w4, p4, hb4, hB4, k4⟩ := put_new 0 kCnt hb3 rfl hB3 hRR
 obtain ⟨w5, p5, hb5, hB5, k5⟩ := put_new 1 kNam hb4 rfl hB4 hRR
 obtain ⟨w6, p6, hb6, hB6, k6⟩ := put_new 2 kNam hb5 rfl hB5 hRR
 obtain ⟨w7, p7, hb7, hB7, k7⟩ := put_new 3 kNam hb6 rfl hB6 hRR
 have g3 : ∀ i, w3.cell? ⟨w.heap.size, i, none⟩ = w2.cell? ⟨w.heap.size, i, none⟩ := fun i => World.cell?_of_block (k3 _ (by simp; omega) (by simp; omega))
 have g4 : ∀ i, w4.cell? ⟨w.heap.size + 1, i, none⟩ = w2.cell? ⟨w.heap.size + 1, i, none⟩ := fun i => World.cell?_of_block ((k4 _ (by simp; omega)).trans (k3 _ (by simp; omega) (by simp; omega)))
 have g5 : ∀ i, w5.cell? ⟨w.heap.size + 1, i, none⟩ = w2.cell? ⟨w.heap.size + 1, i, none⟩ := fun i => (World.cell?_of_block (k5 _ (by simp; omega))).trans (g4 i)
 have g6 : ∀ i, w6.cell? ⟨w.heap.size + 1, i, none⟩ = w2.cell? ⟨w.heap.size + 1, i, none⟩ := fun i => (World.cell?_of_block (k6 _ (by simp; omega))).trans (g5 i)
 have d30 := (g3 0).trans c10
 have d31 := (g3 1).trans c11
 have d32 := (g3 2).trans c12
 have d40 := (g4 0).trans c20
 have d41 := (g4 1).trans c21
 have d42 := (g4 2).trans c22
 have d50 := (g5 0).trans c20
 have d51 := (g5 1).trans c21
 have d52 := (g5 2).trans c22
 have d60 := (g6 0).trans c20
 have d61 := (g6 1).trans c21
 have d62 := (g6 2).trans c22
 unfold kCnt fnV at p4
 unfold kNam fnV at p5 p6 p7
 have H7 := Lib.hid (show w7.heap[R]? = some (.map kindsE 4) from hb7)
 have HB := Lib.hid hB7
 have HR := Lib.hid hRR
 clear hmm g3 g4 g5 g6 c10 c11 c12 c20 c21 c22 hw2 hB2 hs2 hsz1 hR hw3 hb3 hB3 hRR k3 k4 k5 k6 k7 hb4 hb5 hb6 hb7 hB4 hB5 hB6 hB7
 go_wp2_with fail
 go_ret
 exact ⟨R, rfl, H7.out, HR.out, HB.out⟩
end Go.Proofs.YtofadpodlaakbaaGreat
