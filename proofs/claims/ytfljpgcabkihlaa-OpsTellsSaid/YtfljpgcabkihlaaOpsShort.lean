/- Short, and the comparison of two operations. -/
import Derived.Test.YtfljpgcabkihlaaOpsAwake
import Derived.Laws.StructEq
namespace Go.Proofs.Ytfljpgcabkihlaa
open Go.ChangeShapes Go.WideShapes Go.ChangeAt Go.RowKit
set_option linter.unusedVariables false

def shortB (s t : ByteArray) : Bool := decide (s.size ≤ 100) && decide (t.size ≤ 100)
set_option maxRecDepth 100000 in
set_option maxHeartbeats 1000000 in
theorem short_any (k n : Int) (s t : ByteArray) (w : World) (h1 : s.size ≤ maxLen) (h2 : t.size ≤ maxLen) : Calls Try.prog 9 #[.agg #[.int .i64 k, .string s, .string t, .int .i64 n]] w fun e w' => e = .returned (.bool (shortB s t)) ∧ Below w.heap.size w w' := by
  obtain ⟨n1, hn1⟩ : ∃ n1, n1 = s.size := ⟨_, rfl⟩
  obtain ⟨n2, hn2⟩ : ∃ n2, n2 = t.size := ⟨_, rfl⟩
  have hz1 := hn1.symm
  have hz2 := hn2.symm
  have hm1 : n1 ≤ 9223372036854775807 := by rw [hn1]; exact Nat.le_trans h1 (by unfold maxLen; decide)
  have hm2 : n2 ≤ 9223372036854775807 := by rw [hn2]; exact Nat.le_trans h2 (by unfold maxLen; decide)
  have HS := Lib.hid (show shortB s t = (decide (n1 ≤ 100) && decide (n2 ≤ 100)) by rw [hn1, hn2]; rfl)
  clear hn1 hn2 h1 h2
  by_cases hl1 : (n1 : Int) ≤ 100
  case neg =>
    go_enter Try.func9, Try.ntmps9
    go_wp2_with fail
    go_ret
    exact ⟨retb (by rw [HS.out, decide_eq_false (by omega)]; rfl), (Below.refl _ _).alloc (Nat.le_refl _) _⟩
  by_cases hl2 : (n2 : Int) ≤ 100
  case neg =>
    go_enter Try.func9, Try.ntmps9
    go_wp2_with fail
    go_ret
    exact ⟨retb (by rw [HS.out, decide_eq_false (show ¬ n2 ≤ 100 by omega), Bool.and_false]), (Below.refl _ _).alloc (Nat.le_refl _) _⟩
  go_enter Try.func9, Try.ntmps9
  go_wp2_with fail
  go_ret
  exact ⟨retb (by rw [HS.out, decide_eq_true (by omega), decide_eq_true (by omega)]; rfl), (Below.refl _ _).alloc (Nat.le_refl _) _⟩

theorem eq_ops (k1 n1 k2 n2 : Int) (s1 t1 s2 t2 : ByteArray) (w : World) :
    (Op.equalIn 10000 23 (.agg #[.int .i64 k1, .string s1, .string t1, .int .i64 n1]) (.agg #[.int .i64 k2, .string s2, .string t2, .int .i64 n2])).run Try.prog w = .ok (k1 == k2 && (s1.toList == s2.toList && (t1.toList == t2.toList && n1 == n2))) w := by
  rw [run_equalIn_struct w 9999 23 _ _ (by kernel_rfl) (by kernel_rfl)]
  have h3 := Try.underlying3
  have h9 := Try.underlying9
  have e : (Program.fieldsOf Try.prog 23).toList.map (fun f => (f.name != "_", f.type, f.offset)) = [(true, 3, 0), (true, 9, 1), (true, 9, 2), (true, 3, 3)] := by kernel_rfl
  obtain ⟨f0, f1, f2, f3, ef, a0, a1, a2, a3⟩ : ∃ f0 f1 f2 f3, (Program.fieldsOf Try.prog 23).toList = [f0, f1, f2, f3] ∧ (f0.name ≠ "_" ∧ f0.type = 3 ∧ f0.offset = 0) ∧ (f1.name ≠ "_" ∧ f1.type = 9 ∧ f1.offset = 1) ∧ (f2.name ≠ "_" ∧ f2.type = 9 ∧ f2.offset = 2) ∧ (f3.name ≠ "_" ∧ f3.type = 3 ∧ f3.offset = 3) := by
    generalize (Program.fieldsOf Try.prog 23).toList = fs at e
    have hl : fs.length = 4 := by have := congrArg List.length e; simpa using this
    match fs, hl with
    | [f0, f1, f2, f3], _ =>
      simp at e
      exact ⟨f0, f1, f2, f3, rfl, e.1, e.2.1, e.2.2.1, e.2.2.2⟩
  rw [ef]
  simp only [Op.eqFields, a0.1, a1.1, a2.1, a3.1, ne_eq, not_false_eq_true, if_true, a0.2.1, a0.2.2, a1.2.1, a1.2.2, a2.2.1, a2.2.2, a3.2.1, a3.2.2]
  go_simp
  by_cases g1 : k1 = k2
  · by_cases g2 : s1.toList = s2.toList
    · by_cases g3 : t1.toList = t2.toList
      · by_cases g4 : n1 = n2
        · simp [g1, g2, g3, g4]
        · simp [g1, g2, g3, g4]
      · simp [g1, g2, g3]
    · simp [g1, g2]
  · simp [g1]
/-- Two operations are the same. -/
theorem eq_opv (o1 o2 : Opn) (w : World) : (Op.equalIn 10000 23 (.agg #[.int .i64 o1.kind, .string ⟨o1.key.toArray⟩, .string ⟨o1.elem.toArray⟩, .int .i64 o1.num]) (.agg #[.int .i64 o2.kind, .string ⟨o2.key.toArray⟩, .string ⟨o2.elem.toArray⟩, .int .i64 o2.num])).run Try.prog w = .ok (decide (o1 = o2)) w := by
  rw [eq_ops]
  obtain ⟨a, b, c, d⟩ := o1
  obtain ⟨a', b', c', d'⟩ := o2
  simp only [toList_bytes, Opn.mk.injEq]
  congr 1
  by_cases g1 : a = a' <;> by_cases g2 : b = b' <;> by_cases g3 : c = c' <;> by_cases g4 : d = d' <;> simp [g1, g2, g3, g4]
end Go.Proofs.Ytfljpgcabkihlaa
