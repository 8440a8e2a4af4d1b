/- The comparison of two operations. -/
import Derived.Test.YtofadpodlaakbaaGreatOpsGet
import Derived.Laws.StructEq
namespace Go.Proofs.YtofadpodlaakbaaGreat
open Go.ChangeShapes Go.WideShapes Go.ChangeAt Go.RowKit
set_option linter.unusedVariables false

theorem eq_ops (k1 n1 k2 n2 : Int) (s1 t1 s2 t2 : ByteArray) (w : World) :
    (Op.equalIn 10000 39 (.agg #[.int .i64 k1, .string s1, .string t1, .int .i64 n1]) (.agg #[.int .i64 k2, .string s2, .string t2, .int .i64 n2])).run Tryz.prog w = .ok (k1 == k2 && (s1.toList == s2.toList && (t1.toList == t2.toList && n1 == n2))) w := by
  rw [run_equalIn_struct w 9999 39 _ _ (by kernel_rfl) (by kernel_rfl)]
  have h3 := Tryz.underlying3
  have h9 := Tryz.underlying9
  have e : (Program.fieldsOf Tryz.prog 39).toList.map (fun f => (f.name != "_", f.type, f.offset)) = [(true, 3, 0), (true, 9, 1), (true, 9, 2), (true, 3, 3)] := by kernel_rfl
  obtain ⟨f0, f1, f2, f3, ef, a0, a1, a2, a3⟩ : ∃ f0 f1 f2 f3, (Program.fieldsOf Tryz.prog 39).toList = [f0, f1, f2, f3] ∧ (f0.name ≠ "_" ∧ f0.type = 3 ∧ f0.offset = 0) ∧ (f1.name ≠ "_" ∧ f1.type = 9 ∧ f1.offset = 1) ∧ (f2.name ≠ "_" ∧ f2.type = 9 ∧ f2.offset = 2) ∧ (f3.name ≠ "_" ∧ f3.type = 3 ∧ f3.offset = 3) := by
    generalize (Program.fieldsOf Tryz.prog 39).toList = fs at e
    have hl : fs.length = 4 := by have := congrArg List.length e; simpa using this
    match fs, hl with
    | [f0, f1, f2, f3], _ =>
      simp at e
      exact ⟨f0, f1, f2, f3, rfl, e.1, e.2.1, e.2.2.1, e.2.2.2⟩
  rw [ef]
  simp only [Op.eqFields, a0.1, a1.1, a2.1, a3.1, ne_eq, not_false_eq_true, if_true, a0.2.1, a0.2.2, a1.2.1, a1.2.2, a2.2.1, a2.2.2, a3.2.1, a3.2.2]
  go_simp
  by_cases g1 : k1 = k2
  · by_cases g2 : s1.toList = s2.toList
    · by_cases g3 : t1.toList = t2.toList
      · by_cases g4 : n1 = n2
        · simp [g1, g2, g3, g4]
        · simp [g1, g2, g3, g4]
      · simp [g1, g2, g3]
    · simp [g1, g2]
  · simp [g1]
/-- Two operations are the same. -/
theorem eq_opv (o1 o2 : Opn) (w : World) : (Op.equalIn 10000 39 (.agg #[.int .i64 o1.kind, .string ⟨o1.key.toArray⟩, .string ⟨o1.elem.toArray⟩, .int .i64 o1.num]) (.agg #[.int .i64 o2.kind, .string ⟨o2.key.toArray⟩, .string ⟨o2.elem.toArray⟩, .int .i64 o2.num])).run Tryz.prog w = .ok (decide (o1 = o2)) w := by
  rw [eq_ops]
  obtain ⟨a, b, c, d⟩ := o1
  obtain ⟨a', b', c', d'⟩ := o2
  simp only [toList_bytes, Opn.mk.injEq]
  congr 1
  by_cases g1 : a = a' <;> by_cases g2 : b = b' <;> by_cases g3 : c = c' <;> by_cases g4 : d = d' <;> simp [g1, g2, g3, g4]
end Go.Proofs.YtofadpodlaakbaaGreat
