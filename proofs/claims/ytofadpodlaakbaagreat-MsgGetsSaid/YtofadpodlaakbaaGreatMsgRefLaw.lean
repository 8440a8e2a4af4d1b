/- The plain law of the reference's Get, of the layer msg: what is read without the program's bounds, and then put, is the message that the program reads, or none. -/
import Derived.Test.YtofadpodlaakbaaGreatMsgRd
import Derived.Test.YtofadpodlaakbaaGreatCmRefLaw
import Derived.Test.YtofadpodlaakbaaGreatCmRefRd
import Derived.Test.YtofadpodlaakbaaGreatEncCutRef
namespace Go.Proofs.YtofadpodlaakbaaGreat
set_option linter.unusedVariables false
theorem getM_read {l l1 l2 : List UInt8} {m : Msg} (e1 : l1 = l.drop (getL l).2) (e2 : l2 = l1.drop (getL l1).2) (h : getM l = some m) :
  ¬ (getL l).2 = 0 ∧ ¬ (getL l1).2 = 0 ∧ (getL l).1 ≤ 2 ∧ (getL l1).1 ≤ 16 ∧ (((getL l).1 = 2 ∧ ∃ L r, cmsI (getL l1).1 l2 = some (L, r) ∧ m = ⟨2, [], L⟩) ∨ (¬ (getL l).1 = 2 ∧ 32 * (getL l1).1 ≤ l2.length ∧ m = ⟨((getL l).1 : Int), idsOf (getL l1).1 l2, []⟩)) := by
 unfold getM at h
 cases hr : getR l with
 | none => rw [hr] at h; cases h
 | some p =>
 obtain ⟨m2, r⟩ := p
 rw [hr] at h
 simp only at h
 by_cases hx : r.length = 0 ∧ mayM m2 = true
 case neg => rw [if_neg hx] at h; cases h
 rw [if_pos hx] at h
 injection h with h
 subst h
 unfold getR at hr
 by_cases h1 : (getL l).2 = 0
 ·rw [takeM_none (takeN_no l h1)] at hr; cases hr
 rw [takeM_of (takeN_def l h1), ← e1] at hr
 by_cases m1 : (getL l).1 ≤ 2
 case neg => rw [if_neg m1] at hr; cases hr
 rw [if_pos m1] at hr
 simp only at hr
 by_cases h2 : (getL l1).2 = 0
 ·rw [takeM_none (takeN_no l1 h2)] at hr; cases hr
 rw [takeM_of (takeN_def l1 h2), ← e2] at hr
 by_cases m3 : (getL l1).1 ≤ 16
 case neg => rw [if_neg m3] at hr; cases hr
 rw [if_pos m3] at hr
 simp only at hr
 refine ⟨h1, h2, m1, m3, ?_⟩
 by_cases hk : (getL l).1 = 2
 ·rw [if_pos hk] at hr
  cases hc : cmsI (getL l1).1 l2 with
  | none => rw [hc] at hr; cases hr
  | some q =>
   obtain ⟨L, r'⟩ := q
   rw [hc] at hr
   simp only at hr
   injection hr with hr
   injection hr with e3 e4
   exact .inl ⟨hk, L, r', rfl, e3.symm⟩
 ·rw [if_neg hk] at hr
  by_cases h3 : 32 * (getL l1).1 ≤ l2.length
  case neg => rw [if_neg h3] at hr; cases hr
  rw [if_pos h3] at hr
  injection hr with hr
  injection hr with e3 e4
  exact .inr ⟨hk, h3, e3.symm⟩
theorem cutIs_same {l : List UInt8} (h : l.length ≤ 4000) : cutIs l 100000 = cutIs l 4000 := by
 unfold cutIs
 rw [decide_eq_decide]
 omega
theorem cutT_same {l : List UInt8} (h : l.length ≤ 4000) : cutT l 100000 = cutT l 4000 := by
 unfold cutT
 rw [cutIs_same h]
theorem cutR_same {l : List UInt8} (h : l.length ≤ 4000) : cutR l 100000 = cutR l 4000 := by
 unfold cutR
 rw [cutIs_same h]
theorem cutC_ref {l : List UInt8} (h : l.length ≤ 4000) (h32 : 32 ≤ l.length) : cutC l = (if cutIs (idR l) 100000 = true then
   match getC (cutT (idR l) 100000) with
   | none => none
   | some (c, r) => if r.length = 0 ∧ l.take 32 = hashL (putC c) then some (c, cutR (idR l) 100000) else none
  else none) := by
 have hd : (l.drop 32).length ≤ 4000 := by rw [List.length_drop]; omega
 unfold cutC
 rw [if_pos h32, show idR l = l.drop 32 from if_pos h32, cutIs_same hd, cutT_same hd, cutR_same hd]
 rfl
theorem getC_empty : getC [] = none := getC_no rfl rfl rfl rfl (.inl (by decide))
theorem cmsI_fail {i : Nat} {b lr : List UInt8} {L : List Cmt} (hl : lr.length ≤ 4000) (hi : cmsI i b = none ∨ cmsI i b = some (L, lr))
  (h : getC (cutT (idR lr) 100000) = none ∨ (∃ c r, getC (cutT (idR lr) 100000) = some (c, r) ∧ ¬ r.length = 0) ∨ ¬ 32 ≤ lr.length) : cmsI (i + 1) b = none := by
 have hc : cutC lr = none := by
  by_cases h32 : 32 ≤ lr.length
  case neg => unfold cutC; rw [if_neg h32]
  rw [cutC_ref hl h32]
  by_cases hs : cutIs (idR lr) 100000 = true
  case neg => rw [if_neg hs]
  rw [if_pos hs]
  rcases h with h | ⟨c, r, h, h0⟩ | h
  ·rw [h]
  ·rw [h]
   simp only
   rw [if_neg (fun h => h0 h.1)]
  ·exact absurd h32 h
 rcases hi with hi | hi
 ·unfold cmsI; rw [hi]
 ·unfold cmsI; rw [hi]; simp only; rw [hc]
theorem cmsI_next {i : Nat} {b lr r : List UInt8} {L : List Cmt} {c : Cmt} (hl : lr.length ≤ 4000) (hi : cmsI i b = none ∨ cmsI i b = some (L, lr)) (h : getC (cutT (idR lr) 100000) = some (c, r)) : cmsI (i + 1) b = none ∨ cmsI (i + 1) b = some (L ++ [c], cutR (idR lr) 100000) := by
 rcases hi with hi | hi
 ·left; unfold cmsI; rw [hi]
 by_cases h32 : 32 ≤ lr.length
 case neg => left; exact cmsI_fail hl (.inr hi) (.inr (.inr h32))
 unfold cmsI
 rw [hi]
 simp only
 rw [cutC_ref hl h32]
 by_cases hs : cutIs (idR lr) 100000 = true
 case neg => left; rw [if_neg hs]
 rw [if_pos hs, h]
 simp only
 by_cases hx : r.length = 0 ∧ lr.take 32 = hashL (putC c)
 ·right; rw [if_pos hx]
 ·left; rw [if_neg hx]
theorem getM_end {l : List UInt8} {m : Msg} (h32 : all32M m) (hg : ∀ n, getM l = some n → n = m) : getM l = if mayM m = true ∧ putM m = l then some m else none := by
 by_cases h : mayM m = true ∧ putM m = l
 ·rw [if_pos h, ← h.2]; exact getM_put m h.1 h32
 ·rw [if_neg h]
  cases hm : getM l with
  | none => rfl
  | some n =>
   obtain rfl := hg n hm
   obtain ⟨g1, g2, _⟩ := getM_got hm
   exact absurd ⟨g1, g2⟩ h
structure RefI (l l2 : List UInt8) (K : Int) (q i : Nat) (bad : Bool) (F : List UInt8) (L : List Cmt) (b : List UInt8) : Prop where
 no : bad = true → getM l = none
 ids : bad = false → ¬ K = 2 → 32 * i ≤ l2.length ∧ F = l2.take (32 * i) ∧ b = l2.drop (32 * i)
 cms : bad = false → K = 2 → cmsI i l2 = none ∨ cmsI i l2 = some (L, b)
def ReadM (l l2 : List UInt8) (K : Int) (q : Nat) : Prop := ∀ m, getM l = some m → q ≤ 16 ∧ ((K = 2 ∧ ∃ L r, cmsI q l2 = some (L, r) ∧ m = ⟨2, [], L⟩) ∨ (¬ K = 2 ∧ 32 * q ≤ l2.length ∧ m = ⟨K, idsOf q l2, []⟩))
theorem readM {l l1 l2 : List UInt8} {K : Int} {q : Nat} (e1 : l1 = l.drop (getL l).2) (e2 : l2 = l1.drop (getL l1).2) (hK : K = IntKind.i64.wrap ((getL l).1 : Int)) (hq : q = (getL l1).1) : ReadM l l2 K q := fun m h => by
 obtain ⟨_, _, k2, q16, hr⟩ := getM_read e1 e2 h
 have hKk : K = ((getL l).1 : Int) := by rw [hK, wrap_i64']; split <;> omega
 subst hq
 refine ⟨q16, ?_⟩
 rcases hr with ⟨h2, L, r, h3, h4⟩ | ⟨h2, h3, h4⟩
 ·exact .inl ⟨by omega, L, r, h3, h4⟩
 ·exact .inr ⟨by omega, h3, by rw [hKk]; exact h4⟩
theorem RefI.id {l l2 F F' b : List UInt8} {K : Int} {q i : Nat} {L : List Cmt} {bad : Bool} (h : RefI l l2 K q i false F L b) (hr : ReadM l l2 K q) (hK : ¬ K = 2) (hi : i < q) (hb : bad = (false || !decide (32 ≤ b.length))) (hF : F' = F ++ idX b) : RefI l l2 K q (i + 1) bad F' L (idR b) := by
 obtain ⟨h1, h2, h3⟩ := h.ids rfl hK
 by_cases h32 : 32 ≤ b.length
 ·have hbl : b.length = l2.length - 32 * i := by rw [h3, List.length_drop]
  refine ⟨fun h => ?_, fun _ _ => ⟨by omega, ?_, ?_⟩, fun _ h => absurd h hK⟩
  ·rw [hb, decide_eq_true h32] at h; cases h
  ·rw [hF, h2, show 32 * (i + 1) = 32 * i + 32 by omega, List.take_add, idX, if_pos h32, h3]
  ·rw [idR, if_pos h32, h3, List.drop_drop]; congr 1
 ·refine ⟨fun _ => ?_, fun h => ?_, fun _ h => absurd h hK⟩
  ·cases hm : getM l with
   | none => rfl
   | some m =>
    obtain ⟨_, hx⟩ := hr m hm
    rcases hx with ⟨hx, _⟩ | ⟨_, hx, _⟩
    ·exact absurd hx hK
    ·have hbl : b.length = l2.length - 32 * i := by rw [h3, List.length_drop]
     omega
  ·rw [hb, decide_eq_false h32] at h; cases h
theorem RefI.none {l l2 F b : List UInt8} {K : Int} {q i : Nat} {L : List Cmt} (h : RefI l l2 K q i false F L b) (hr : ReadM l l2 K q) (hK : K = 2) (hi : i < q) (hl : b.length ≤ 4000)
  (hf : getC (cutT (idR b) 100000) = none ∨ (∃ c r, getC (cutT (idR b) 100000) = some (c, r) ∧ ¬ r.length = 0) ∨ ¬ 32 ≤ b.length) : getM l = none := by
 have h1 := cmsI_none (cmsI_fail hl (h.cms rfl hK) hf) q hi
 cases hm : getM l with
 | none => rfl
 | some m =>
  obtain ⟨_, hx⟩ := hr m hm
  rcases hx with ⟨_, L', r, hx, _⟩ | ⟨hx, _⟩
  ·rw [h1] at hx; cases hx
  ·exact absurd hK hx
theorem RefI.cm {l l2 F b r : List UInt8} {K : Int} {q i : Nat} {L : List Cmt} {c : Cmt} {bad : Bool} (h : RefI l l2 K q i false F L b) (hr : ReadM l l2 K q) (hK : K = 2) (hi : i < q) (hl : b.length ≤ 4000) (hb : bad = (false || !decide (32 ≤ b.length)))
  (hf : getC (cutT (idR b) 100000) = some (c, r)) : RefI l l2 K q (i + 1) bad F (L ++ [c]) (cutR (idR b) 100000) := by
 refine ⟨fun h2 => ?_, fun _ h => absurd hK h, fun _ _ => cmsI_next hl (h.cms rfl hK) hf⟩
 refine h.none hr hK hi hl (.inr (.inr fun h32 => ?_))
 rw [hb, decide_eq_true h32] at h2
 cases h2
theorem RefI.only {l l2 F b : List UInt8} {K : Int} {q i ni : Nat} {L : List Cmt} (h : RefI l l2 K q i false F L b) (hr : ReadM l l2 K q) (hi : i ≤ q) (hx : ¬ i < q ∨ 16 < i) (h1 : K = 2 → ni = 0) (h2 : ¬ K = 2 → ni = i ∧ L = []) : ∀ m, getM l = some m → m = ⟨K, idsOf ni F, L⟩ := fun m hm => by
 obtain ⟨hq, hy⟩ := hr m hm
 have hiq : i = q := by omega
 subst hiq
 rcases hy with ⟨hK, L', r, h3, h4⟩ | ⟨hK, h3, h4⟩
 ·rcases h.cms rfl hK with h5 | h5
  ·rw [h5] at h3; cases h3
  ·rw [h5] at h3
   injection h3 with h3
   injection h3 with h3 _
   rw [h4, h1 hK, hK, h3]
   rfl
 ·obtain ⟨e1, e2⟩ := h2 hK
  obtain ⟨_, e3, _⟩ := h.ids rfl hK
  rw [h4, e1, e2, e3, idsOf_take]
end Go.Proofs.YtofadpodlaakbaaGreat
