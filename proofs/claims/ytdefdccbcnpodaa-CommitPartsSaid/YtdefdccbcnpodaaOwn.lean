/- Slices of bytes of the call's own, as the contracts tell them; texts made of bytes. -/
import Derived.Test.YtdefdccbcnpodaaMem
import Derived.Test.YtdefdccbcnpodaaChecked
import Derived.Deep.QuietTactic
namespace Go.Proofs.Ytdefdccbcnpodaa
open Go Go.RowKit
set_option linter.unusedVariables false

theorem info_u8 : (Try.prog.info? 5).map (fun i => (i.zero, i.size, i.bytes)) = some (some (.int .u8 0), 1, 1) := by kernel_rfl
/-- Bytes of the call's own. -/
def OwnB (l : List UInt8) (w : World) (e : Ending) (w' : World) : Prop :=
  ∃ v, e = .returned v ∧ w'.ownsRow w.heap.size 5 1 v l.length (l.map B) ∧ Below w.heap.size w w'
theorem own_none {w : World} {base : Nat} {e : TypeId} {a : Option Addr} {n m c : Nat} {xs : List Value} (h : w.ownsRow base e 1 (.slice a n c) m xs) : a = none → c = 0 := by
  rintro rfl
  rcases h.2 with ⟨h1, _⟩ | ⟨g, cap, cur, h1, _⟩
  · cases h1; rfl
  · cases h1

/-- 'string(b)' of bytes of the call's own. -/
theorem str_own {w : World} {base n : Nat} {v : Value} {l : List UInt8} (h : w.ownsRow base 5 1 v n (l.map B)) : (convert 31 9 v).run Try.prog w = .ok (.string ⟨l.toArray⟩) w := by
  obtain ⟨a, c, rfl, hr⟩ := Rd.of_own h
  exact hr.str (P := Try.prog) 31 5 9 Try.underlying31 Try.underlying5 Try.underlying9

theorem below_drewNw (w : World) (k : Nat) : Below w.heap.size w (w.drewN k) := by
  induction k with
  | zero => exact Below.refl _ _
  | succ k ih => exact ⟨rfl, rfl, rfl, Nat.le_refl _, fun _ _ => rfl⟩
/-- 'string(b)', however many orders were drawn. -/
theorem str_drew {w : World} {a : Option Addr} {n c : Nat} {l : List UInt8} (h : Rd w a n c l) (k : Nat) : (convert 31 9 (.slice a n c)).run Try.prog (w.drewN k) = .ok (.string ⟨l.toArray⟩) (w.drewN k) :=
  (h.below (below_drewNw w k)).str (P := Try.prog) 31 5 9 Try.underlying31 Try.underlying5 Try.underlying9
theorem Rd.marked (w : World) (l : List UInt8) (e : TypeId) (fr : Nat × Nat) (h : l.length ≤ 140737488351232) :
    Rd (w.alloc (.cells (l.map fun c => Value.int .u8 (c.toNat : Int)).toArray e fr)) (some ⟨w.heap.size, 0, none⟩) l.length l.length l := by
  refine ⟨rfl, Nat.le_refl _, by omega, .inr ⟨w.heap.size, 0, rfl, by simp, fun i hi => ?_⟩⟩
  rw [cell_of_row _ w.heap.size (0 + i) _ e fr (heap_alloc_new w _)]
  simp [hi]
end Go.Proofs.Ytdefdccbcnpodaa
