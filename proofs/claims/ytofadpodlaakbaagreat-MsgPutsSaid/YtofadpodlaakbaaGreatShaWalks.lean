/- The walks of the layer sha's small functions, and of its reference's. -/
import Derived.Test.YtofadpodlaakbaaGreatShaPlain
import Derived.Test.YtofadpodlaakbaaGreatJ1
import Derived.Deep.QuietTactic
import Derived.Deep.MidRow
namespace Go.Proofs.YtofadpodlaakbaaGreat
open Go.ChangeShapes Go.WideShapes Go.ChangeAt Go.RowKit
set_option linter.unusedVariables false

theorem right_q (x n : Int) (w : World) (h : isW x) : Calls Tryz.prog 116 #[.int .u32 x, .int .i64 n] w fun e w' => e = .returned (.int .u32 (right x n)) ∧ w' = w :=
  (right_any x n w h.1 h.2).mono fun _ _ ⟨a, b⟩ => ⟨a, b.symm⟩
theorem pick_q (x y z : Int) (w : World) : Calls Tryz.prog 93 #[.int .u32 x, .int .u32 y, .int .u32 z] w fun e w' => e = .returned (.int .u32 (pick x y z)) ∧ w' = w :=
  (pick_any x y z w).mono fun _ _ ⟨a, b⟩ => ⟨a, b.symm⟩
theorem most_q (x y z : Int) (w : World) : Calls Tryz.prog 94 #[.int .u32 x, .int .u32 y, .int .u32 z] w fun e w' => e = .returned (.int .u32 (most x y z)) ∧ w' = w :=
  (most_any x y z w).mono fun _ _ ⟨a, b⟩ => ⟨a, b.symm⟩
theorem great_q (x a b c : Int) (w : World) (h : isW x) : Calls Tryz.prog 92 #[.int .u32 x, .int .i64 a, .int .i64 b, .int .i64 c] w fun e w' => e = .returned (.int .u32 (greatP x a b c)) ∧ w' = w := by
  go_enter Tryz.func92, Tryz.ntmps92
  go_wp2_with fail
  refine (right_q x a _ h).mono ?_
  rintro e w1 ⟨rfl, rfl⟩
  go_wp2_with fail
  refine (right_q x b _ h).mono ?_
  rintro e w1 ⟨rfl, rfl⟩
  go_wp2_with fail
  refine (right_q x c _ h).mono ?_
  rintro e w1 ⟨rfl, rfl⟩
  go_wp2
  go_ret
  exact ⟨rfl, rfl⟩
theorem small_q (x a b : Int) (c : Nat) (w : World) (h : isW x) (hc : c < 32) : Calls Tryz.prog 115 #[.int .u32 x, .int .i64 a, .int .i64 b, .int .i64 (c : Int)] w fun e w' => e = .returned (.int .u32 (smallP x a b c)) ∧ ∃ m, w' = w.drewN m := by
  have hc0 : ¬ (c : Int) < 0 := by omega
  have hc1 : ((c : Int)).toNat = c := by omega
  go_enter Tryz.func115, Tryz.ntmps115
  go_wp2_with fail
  go_quiet ((go_at_call 116; refine Calls.quiet_of_same (right_q _ _ _ ?_); exact h))
  go_wp2
  go_ret
  exact ⟨rfl, _, rfl⟩
theorem start_any (w : World) : Calls Tryz.prog 72 #[] w fun e w' => e = .returned startQ.val ∧ Below w.heap.size w w' := by
  go_enter Tryz.func72, Tryz.ntmps72
  go_wp2
  exact bodyPost_ret (v := startQ.val) (by simp [results, Tryz.results72, go_sem, Q8.val, startQ]) rfl ⟨rfl, by go_grown⟩
/-- A fresh variable of a long array type, into which a value is stored. -/
theorem there_new (w : World) (cs : List Value) (t : TypeId) : (w.alloc (.cells cs.toArray t)).there w.heap.size 0 cs.length := fun j hj => by
  refine ⟨?_, ?_⟩
  · rw [new_cell (cs := cs.toArray) (i := 0 + j) (x := cs[j]) (by simp [hj])]; rfl
  · simp
theorem kL_size : (kL.map (Value.int .u32)).toArray.size = 64 := by decide +kernel
theorem info_w64 : (Tryz.prog.info? 119).map (·.size) = some 64 := by kernel_rfl
theorem under_w64 : Tryz.prog.underlying 119 = some (.array 64 100) := by kernel_rfl
section
variable {P : Program} {ops : Array Oper} {rest : List Oper} {op : Oper} {a : Act} {w : World} {Q : Exit → Act → World → Prop}
theorem wpList_value (hgd : op.guard = none) (v : Value) (w' : World) (hrun : (execOp a.eval op).run P w = .ok (.value v) w') (h : wpList P ops Q rest (a.put op.dst v) w') : wpList P ops Q (op :: rest) a w :=
  wpList_plain hgd fun K hK => by unfold Oper.wp; rw [hrun]; exact hK _ _ h
/-- An array (a struct) that is built. -/
theorem wpList_build (hgd : op.guard = none) (ty : TypeId) (xs : _) (ho : op.op = .build ty xs) (v : Value) (hrun : (execOp a.eval op).run P w = .ok (.value v) w) (h : wpList P ops Q rest (a.put op.dst v) w) : wpList P ops Q (op :: rest) a w :=
  wpList_value hgd v w hrun h
/-- A variable that is made. -/
theorem wpList_alloc (hgd : op.guard = none) (ty : TypeId) (ho : op.op = .alloc ty) (cs : Array Value) (hrun : (execOp a.eval op).run P w = .ok (.value (.pointer (some ⟨w.heap.size, 0, none⟩))) (w.alloc (.cells cs ty))) (h : wpList P ops Q rest (a.put op.dst (.pointer (some ⟨w.heap.size, 0, none⟩))) (w.alloc (.cells cs ty))) : wpList P ops Q (op :: rest) a w :=
  wpList_value hgd _ _ hrun h
end
theorem below_cells {B g : Nat} (hg : B ≤ g) : ∀ (vs : List Value) (o : Nat) (w0 w : World), Below B w0 w → Below B w0 (w.setCells g o vs)
  | [], _, _, _, h => h
  | v :: r, o, w0, w, h => by rw [World.setCells]; exact below_cells hg r (o + 1) w0 _ (h.setCell (p := ⟨g, o, none⟩) hg v)
def zeros64 : List Value := List.replicate 64 (.int .u32 0)
def kV : List Value := kL.map (Value.int .u32)
theorem kV_length : kV.length = 64 := by decide +kernel
theorem kV_one : ∀ v ∈ kV, v.oneCell' = true := by intro v hv; obtain ⟨x, _, rfl⟩ := List.mem_map.1 hv; rfl
set_option maxRecDepth 100000 in
theorem constants_any (w : World) : Calls Tryz.prog 90 #[] w fun e w' => e = .returned (.agg kV.toArray) ∧ Below w.heap.size w w' := by
  have hkr : (World.setCells (w.alloc (.cells zeros64.toArray 119)) w.heap.size 0 kV).rangeAt w.heap.size 0 kV := World.rangeAt_setCells_same _ _ _ _ (by rw [kV_length]; exact there_new w zeros64 _)
  go_enter Tryz.func90, Tryz.ntmps90
  iterate 3 go_step
  refine wpList_alloc rfl 119 rfl zeros64.toArray (by kernel_rfl) ?_
  simp only [Act.put, List.setIfInBounds_toArray, List.set_cons_zero]
  go_step
  rename_i K hK
  refine hK _ _ ?_
  iterate 2 go_step
  refine wpList_build rfl 119 _ rfl (.agg kV.toArray) (by kernel_rfl) ?_
  simp only [Act.put, List.setIfInBounds_toArray, List.set_cons_zero, List.set_cons_succ]
  refine wpList_store_mid rfl 119 (.tmp 0) (.tmp 1) rfl w.heap.size 0 kV.toArray rfl rfl ?h1 ?h2 ?h3 ?_
  case h1 => exact (there_new w zeros64 _)
  case h2 => exact info_w64.trans (congrArg some (by rw [List.size_toArray, kV_length]))
  case h3 => exact all_oneCell_toArray kV_one
  go_step
  rename_i K2 hK2
  refine hK2 _ _ ?_
  go_step
  refine bodyPost_ret (v := .agg kV.toArray) ?_ rfl ⟨rfl, ?_⟩
  · rw [List.toList_toArray]
    have hl := run_loadVar_mid (P := Tryz.prog) _ w.heap.size 0 119 kV _ hkr under_w64 rfl (info_w64.trans (congrArg some kV_length.symm))
    simp [results, Tryz.results90, Act.put, asAddr, hl]
  · rw [List.toList_toArray]
    exact below_cells (Nat.le_refl _) _ _ _ _ ((Below.refl _ _).alloc (Nat.le_refl _) _)
end Go.Proofs.YtofadpodlaakbaaGreat
