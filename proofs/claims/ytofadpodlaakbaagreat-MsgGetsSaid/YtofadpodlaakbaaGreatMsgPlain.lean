/- Messages, in plain Lean: which may be, their bytes, and what bytes are read as. -/
import Derived.Test.YtofadpodlaakbaaGreatCmHash
namespace Go.Proofs.YtofadpodlaakbaaGreat
set_option linter.unusedVariables false
structure Msg where
 kind : Int
 ids : List (List UInt8)
 cms : List Cmt
deriving DecidableEq
def okC (c : Cmt) : Bool := mayC c && !mergeC c
def mayM (m : Msg) : Bool :=
 if m.kind = 0 ∨ m.kind = 1 then decide (m.ids.length ≤ 16) && risesL m.ids && decide (m.cms.length = 0)
 else decide (m.kind = 2) && decide (m.ids.length = 0) && decide (m.cms.length ≤ 6) && m.cms.all okC
def all32M (m : Msg) : Prop := all32 m.ids ∧ ∀ c ∈ m.cms, all32 c.par
def oneC (c : Cmt) : List UInt8 := hashL (putC c) ++ txtL (putC c)
def putM (m : Msg) : List UInt8 := numL m.kind.toNat ++ (numL (m.ids.length + m.cms.length) ++ (m.ids.flatten ++ (m.cms.map oneC).flatten))
def cutC (b : List UInt8) : Option (Cmt × List UInt8) :=
 if 32 ≤ b.length then
  if cutIs (b.drop 32) 4000 = true then
   match getC (cutT (b.drop 32) 4000) with
   | none => none
   | some (c, r) => if r.length = 0 ∧ b.take 32 = hashL (putC c) then some (c, cutR (b.drop 32) 4000) else none
  else none
 else none
def cmsI : Nat → List UInt8 → Option (List Cmt × List UInt8)
 | 0, b => some ([], b)
 | k + 1, b => match cmsI k b with
  | none => none
  | some (l, r) => match cutC r with
   | none => none
   | some (c, r') => some (l ++ [c], r')
def getR (b : List UInt8) : Option (Msg × List UInt8) :=
 match takeM 2 b with
 | none => none
 | some (k, r1) =>
  match takeM 16 r1 with
  | none => none
  | some (n, r2) =>
   if k = 2 then
    match cmsI n r2 with
    | none => none
    | some (l, r) => some (⟨2, [], l⟩, r)
   else if 32 * n ≤ r2.length then some (⟨(k : Int), idsOf n r2, []⟩, r2.drop (32 * n)) else none
def getM (b : List UInt8) : Option Msg :=
 match getR b with
 | none => none
 | some (m, r) => if r.length = 0 ∧ mayM m = true then some m else none
theorem cut_putM (s r : List UInt8) (hs : s.length ≤ 4000) : cutIs (txtL s ++ r) 4000 = true ∧ cutT (txtL s ++ r) 4000 = s ∧ cutR (txtL s ++ r) 4000 = r := by
 have hg : getL (txtL s ++ r) = (s.length, (numL s.length).length) := by
  unfold txtL
  rw [List.append_assoc]
  exact getL_put _ (show s.length < 18446744073709551616 by omega) _
 have h1 : cutIs (txtL s ++ r) 4000 = true := by
  unfold cutIs
  rw [hg]
  refine decide_eq_true ?_
  have := numL_pos s.length
  simp only [txtL, List.length_append]
  omega
 refine ⟨h1, ?_, ?_⟩
 ·unfold cutT; rw [if_pos h1, hg]; unfold txtL; rw [List.append_assoc, List.drop_left, List.take_left]
 ·unfold cutR; rw [if_pos h1, hg]; unfold txtL; rw [List.append_assoc, List.drop_left, List.drop_left]
theorem cut_gotM {l : List UInt8} (h : cutIs l 4000 = true) : txtL (cutT l 4000) ++ cutR l 4000 = l := by
 obtain ⟨h1, h2, h3, h4⟩ := cut_parts h
 obtain ⟨g1, g2, g3, _⟩ := getL_got (l := l) (m := (getL l).1) (k := (getL l).2) rfl h1
 have hl : ((l.drop (getL l).2).take (getL l).1).length = (getL l).1 := by rw [List.length_take, List.length_drop]; omega
 unfold cutT cutR txtL
 rw [if_pos h, if_pos h, hl]
 rw [g1, List.append_assoc, List.take_append_drop, List.take_append_drop]
theorem cutC_put {c : Cmt} (h : mayC c = true) (h32 : all32 c.par) (r : List UInt8) : cutC (oneC c ++ r) = some (c, r) := by
 have hl := putC_len h h32
 have hh := hashL_length (putC c)
 have e1 : (oneC c ++ r).drop 32 = txtL (putC c) ++ r := by
  unfold oneC
  rw [List.append_assoc, ← hh, List.drop_left]
 have e2 : (oneC c ++ r).take 32 = hashL (putC c) := by
  unfold oneC
  rw [List.append_assoc, ← hh, List.take_left]
 obtain ⟨h1, h2, h3⟩ := cut_putM (putC c) r (by omega)
 have hg := getC_put c h h32 []
 rw [List.append_nil] at hg
 unfold cutC
 rw [if_pos (by unfold oneC; rw [List.append_assoc, List.length_append]; omega), e1, if_pos h1, h2, h3, hg]
 simp only
 rw [if_pos ⟨rfl, e2⟩]
theorem cutC_got {b r : List UInt8} {c : Cmt} (h : cutC b = some (c, r)) : mayC c = true ∧ all32 c.par ∧ oneC c ++ r = b := by
 unfold cutC at h
 by_cases h32 : 32 ≤ b.length
 case neg => rw [if_neg h32] at h; cases h
 rw [if_pos h32] at h
 by_cases hc : cutIs (b.drop 32) 4000 = true
 case neg => rw [if_neg hc] at h; cases h
 rw [if_pos hc] at h
 cases hg : getC (cutT (b.drop 32) 4000) with
 | none => rw [hg] at h; cases h
 | some p =>
 obtain ⟨d, r2⟩ := p
 rw [hg] at h
 simp only at h
 by_cases hx : r2.length = 0 ∧ b.take 32 = hashL (putC d)
 case neg => rw [if_neg hx] at h; cases h
 rw [if_pos hx] at h
 injection h with h
 injection h with e1 e2
 subst e1 e2
 obtain ⟨g1, g2, g3⟩ := getC_got hg
 have hr2 : r2 = [] := List.eq_nil_of_length_eq_zero hx.1
 rw [hr2, List.append_nil] at g2
 refine ⟨g1, g3, ?_⟩
 unfold oneC
 rw [g2, ← g2, ← hx.2, g2, List.append_assoc, cut_gotM hc, List.take_append_drop]
theorem cmsI_put : ∀ (l : List Cmt) (r : List UInt8), (∀ c ∈ l, mayC c = true ∧ all32 c.par) → ∀ k, k ≤ l.length → cmsI k ((l.map oneC).flatten ++ r) = some (l.take k, ((l.drop k).map oneC).flatten ++ r)
 | l, r, h, 0, _ => by simp [cmsI]
 | l, r, h, k + 1, hk => by
  have hlt : k < l.length := by omega
  unfold cmsI
  rw [cmsI_put l r h k (by omega)]
  simp only
  rw [List.drop_eq_getElem_cons hlt, List.map_cons, List.flatten_cons, List.append_assoc, cutC_put (h _ (List.getElem_mem hlt)).1 (h _ (List.getElem_mem hlt)).2]
  simp only
  rw [List.take_add_one, List.getElem?_eq_getElem hlt]
  rfl
theorem cmsI_got : ∀ (k : Nat) {b r : List UInt8} {l : List Cmt}, cmsI k b = some (l, r) → l.length = k ∧ (∀ c ∈ l, mayC c = true ∧ all32 c.par) ∧ (l.map oneC).flatten ++ r = b
 | 0, b, r, l, h => by
  unfold cmsI at h
  injection h with h
  injection h with e1 e2
  subst e1 e2
  exact ⟨rfl, fun c hc => by simp at hc, by simp⟩
 | k + 1, b, r, l, h => by
  unfold cmsI at h
  cases h1 : cmsI k b with
  | none => rw [h1] at h; cases h
  | some p =>
  obtain ⟨l1, r1⟩ := p
  rw [h1] at h
  simp only at h
  cases h2 : cutC r1 with
  | none => rw [h2] at h; cases h
  | some q =>
  obtain ⟨c, r2⟩ := q
  rw [h2] at h
  simp only at h
  injection h with h
  injection h with e1 e2
  subst e1 e2
  obtain ⟨g1, g2, g3⟩ := cmsI_got k h1
  obtain ⟨k1, k2, k3⟩ := cutC_got h2
  refine ⟨by simp [g1], fun x hx => ?_, ?_⟩
  ·rcases List.mem_append.1 hx with hx | hx
   ·exact g2 x hx
   ·simp only [List.mem_singleton] at hx
    rw [hx]
    exact ⟨k1, k2⟩
  ·rw [List.map_append, List.flatten_append, List.append_assoc]
   simp only [List.map_cons, List.map_nil, List.flatten_cons, List.flatten_nil, List.append_nil]
   rw [k3, g3]
theorem mayM_kind {m : Msg} (h : mayM m = true) : (m.kind = 0 ∨ m.kind = 1) ∧ m.ids.length ≤ 16 ∧ risesL m.ids = true ∧ m.cms = [] ∨ m.kind = 2 ∧ m.ids = [] ∧ m.cms.length ≤ 6 ∧ ∀ c ∈ m.cms, mayC c = true ∧ mergeC c = false := by
 unfold mayM at h
 by_cases hk : m.kind = 0 ∨ m.kind = 1
 ·rw [if_pos hk] at h
  simp only [Bool.and_eq_true, decide_eq_true_eq] at h
  exact .inl ⟨hk, h.1.1, h.1.2, List.eq_nil_of_length_eq_zero h.2⟩
 ·rw [if_neg hk] at h
  simp only [Bool.and_eq_true, decide_eq_true_eq, List.all_eq_true] at h
  refine .inr ⟨h.1.1.1, List.eq_nil_of_length_eq_zero h.1.1.2, h.1.2, fun c hc => ?_⟩
  have := h.2 c hc
  unfold okC at this
  simpa using this
theorem getR_put (m : Msg) (h : mayM m = true) (h32 : all32M m) (r : List UInt8) : getR (putM m ++ r) = some (m, r) := by
 obtain ⟨kind, ids, cms⟩ := m
 rcases mayM_kind h with ⟨hk, h16, _, hc⟩ | ⟨hk, hi, h6, hall⟩
 ·simp only at hk h16 hc
  subst hc
  have e : putM ⟨kind, ids, []⟩ ++ r = numL kind.toNat ++ (numL ids.length ++ (ids.flatten ++ r)) := by
   unfold putM; simp [List.append_assoc]
  unfold getR
  rw [e, takeM_put _ _ (by decide) (by omega)]
  simp only
  rw [takeM_put _ _ (by decide) h16]
  simp only
  have hfl : ids.flatten.length = 32 * ids.length := flat_len _ h32.1
  have hd : (ids.flatten ++ r).drop (32 * ids.length) = r := by rw [← hfl, List.drop_left]
  rw [if_neg (by omega), if_pos (by rw [List.length_append, hfl]; omega), idsOf_flat _ _ h32.1, hd, Int.toNat_of_nonneg (by omega)]
 ·simp only at hk hi h6 hall
  subst hk hi
  have e : putM ⟨2, [], cms⟩ ++ r = numL 2 ++ (numL cms.length ++ ((cms.map oneC).flatten ++ r)) := by
   unfold putM; simp [List.append_assoc]
  have hp := cmsI_put cms r (fun c hc => ⟨(hall c hc).1, h32.2 c hc⟩) cms.length (Nat.le_refl _)
  rw [List.take_length, List.drop_length] at hp
  unfold getR
  rw [e, takeM_put _ _ (by decide) (by omega)]
  simp only
  rw [takeM_put _ _ (by decide) (by omega)]
  simp only
  rw [if_pos trivial, hp]
  rfl
theorem getR_got {b r : List UInt8} {m : Msg} (h : getR b = some (m, r)) : putM m ++ r = b ∧ all32M m := by
 unfold getR at h
 cases h1 : takeM 2 b with
 | none => rw [h1] at h; cases h
 | some p =>
 obtain ⟨k, r1⟩ := p
 rw [h1] at h
 simp only at h
 cases h2 : takeM 16 r1 with
 | none => rw [h2] at h; cases h
 | some q =>
 obtain ⟨n, r2⟩ := q
 rw [h2] at h
 simp only at h
 obtain ⟨g1, hk⟩ := takeM_got h1
 obtain ⟨g2, hn⟩ := takeM_got h2
 by_cases hk2 : k = 2
 ·rw [if_pos hk2] at h
  cases h3 : cmsI n r2 with
  | none => rw [h3] at h; cases h
  | some s =>
  obtain ⟨l, r3⟩ := s
  rw [h3] at h
  simp only at h
  injection h with h
  injection h with e1 e2
  subst e1 e2
  obtain ⟨g3, g4, g5⟩ := cmsI_got n h3
  refine ⟨?_, fun x hx => by simp at hx, fun c hc => (g4 c hc).2⟩
  unfold putM
  simp only [List.length_nil, List.flatten_nil, List.nil_append, Nat.zero_add, g3]
  rw [List.append_assoc, List.append_assoc, g5, g2, ← g1, hk2]
  rfl
 ·rw [if_neg hk2] at h
  by_cases h3 : 32 * n ≤ r2.length
  case neg => rw [if_neg h3] at h; cases h
  rw [if_pos h3] at h
  injection h with h
  injection h with e1 e2
  subst e1 e2
  refine ⟨?_, idsOf_32 h3, fun c hc => by simp at hc⟩
  unfold putM
  simp only [idsOf_length, List.length_nil, Nat.add_zero, List.map_nil, List.flatten_nil, List.append_nil, idsOf_flatten _ _ h3, Int.toNat_natCast]
  rw [List.append_assoc, List.append_assoc, List.take_append_drop, g2, g1]
theorem getM_put (m : Msg) (h : mayM m = true) (h32 : all32M m) : getM (putM m) = some m := by
 have := getR_put m h h32 []
 rw [List.append_nil] at this
 unfold getM
 rw [this]
 simp only
 rw [if_pos ⟨rfl, h⟩]
theorem getM_got {b : List UInt8} {m : Msg} (h : getM b = some m) : mayM m = true ∧ putM m = b ∧ all32M m := by
 unfold getM at h
 cases h1 : getR b with
 | none => rw [h1] at h; cases h
 | some p =>
 obtain ⟨m2, r⟩ := p
 rw [h1] at h
 simp only at h
 by_cases hx : r.length = 0 ∧ mayM m2 = true
 case neg => rw [if_neg hx] at h; cases h
 rw [if_pos hx] at h
 injection h with h
 subst h
 obtain ⟨g1, g2⟩ := getR_got h1
 have hr : r = [] := List.eq_nil_of_length_eq_zero hx.1
 rw [hr, List.append_nil] at g1
 exact ⟨hx.2, g1, g2⟩
end Go.Proofs.YtofadpodlaakbaaGreat
