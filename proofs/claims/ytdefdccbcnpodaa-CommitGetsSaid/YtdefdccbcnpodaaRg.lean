/- One step of a region that draws its order: what yields in whatever world is taken first, its slot named. Laws over any program. -/
import Derived.Test.YtdefdccbcnpodaaJ1
import Derived.Deep.RegionWith
namespace Go.Proofs.Ytdefdccbcnpodaa
open Go
set_option linter.unusedVariables false

theorem take_at {P : Program} {ops : Array Oper} {Q : Exit → Act → World → Prop} {md : Region.Mode} (i : Nat) (d : Nat) {oi : Oper} {v : Value} {fuel : Nat} {listed : Array Bool} {t : Array Value} {ds : _} {w : World} (hi : ops[i]? = some oi) (hd : oi.dst = some d)
    (hs : Region.noSelect ops = true) (hf : Region.free md ops listed i = true) (hr : (Region.ready md ops listed).contains i = true)
    (hQ : ∀ c a w, Q (.panic c) (a.put oi.dst v) w → Q (.panic c) a w) (hy : Yields P ops oi v ⟨t, ds⟩)
    (h : wpAny P md ops Q fuel (listed.setIfInBounds i true) ⟨t.setIfInBounds d v, ds⟩ w) : wpAny P md ops Q (fuel + 1) listed ⟨t, ds⟩ w :=
  wpAny_take hi hs hf hr hQ hy (by rw [hd]; exact h)
end Go.Proofs.Ytdefdccbcnpodaa
