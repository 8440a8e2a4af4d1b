/- What CommitParts says, of commits as such; rows of ids that are the call's own. -/
import Derived.Test.YtdefdccbcnpodaaCmKinds
namespace Go.Proofs.Ytdefdccbcnpodaa
open Go.ChangeShapes Go.WideShapes Go.ChangeAt Go.RowKit
set_option linter.unusedVariables false
set_option linter.unusedSimpArgs false

theorem putC_long (c : Cmt) (h : mayC c = true) (hm : mergeC c = false) (h32 : all32 c.par) : 32 * c.par.length + 7 ≤ (putC c).length := by
  obtain ⟨_, _, _, _, h5⟩ := mayC_parts h
  rcases h5 with ⟨e1, _⟩ | ⟨e1, _, _, e4⟩
  · unfold mergeC at hm
    rw [h, decide_eq_true e1] at hm
    cases hm
  · have hk := keyB_len (mayB_kind e4).2.2.1
    have hend : 1 ≤ (endL c.op).length := by
      unfold endL
      split
      · exact numL_pos _
      · unfold txtL
        rw [List.length_append]
        have := numL_pos c.op.elem.length
        omega
    have h1 := numL_pos (fold c.node).toNat
    have h2 := numL_pos c.seq.toNat
    have h3 := numL_pos c.gen.toNat
    have h4 := numL_pos c.par.length
    have h6 := numL_pos c.op.kind.toNat
    have h7 := numL_pos c.op.key.length
    unfold putC headL tailL
    rw [if_neg e1]
    unfold putO
    simp only [List.length_append, flat_len _ h32, txtL]
    omega
theorem put_op (c : Cmt) (o : Opn) (h : mayC c = true) (h2 : mayC ⟨c.node, c.seq, c.gen, c.par, o⟩ = true) (h32 : all32 c.par) :
    decide (putC c = putC ⟨c.node, c.seq, c.gen, c.par, o⟩) = decide (o = c.op) :=
  decide_eq_decide.2 ⟨fun e => by
    have := putC_only h h2 h32 h32 e
    exact (congrArg Cmt.op this).symm, fun e => by rw [e]⟩
theorem put_seq (c : Cmt) (s : Int) (h : mayC c = true) (h2 : mayC ⟨c.node, s, c.gen, c.par, c.op⟩ = true) (h32 : all32 c.par) :
    decide (putC c = putC ⟨c.node, s, c.gen, c.par, c.op⟩) = decide (s = c.seq) :=
  decide_eq_decide.2 ⟨fun e => by
    have := putC_only h h2 h32 h32 e
    exact (congrArg Cmt.seq this).symm, fun e => by rw [e]⟩
theorem swap_not (node seq gen : Int) (x y : List UInt8) (r : List (List UInt8)) (o : Opn) (h : mayC ⟨node, seq, gen, x :: y :: r, o⟩ = true) : mayC ⟨node, seq, gen, y :: x :: r, o⟩ = false := by
  obtain ⟨_, _, h3, _⟩ := mayC_parts h
  cases e : mayC ⟨node, seq, gen, y :: x :: r, o⟩ with
  | false => rfl
  | true =>
    obtain ⟨_, _, h4, _⟩ := mayC_parts e
    unfold risesL at h3 h4
    have h5 := risesN_at h3 (j := 0) (by simp)
    have h6 := risesN_at h4 (j := 0) (by simp)
    have h7 := ltL_asymm x y (by simpa using h5)
    have h8 : ltL y x = true := by simpa using h6
    rw [h7] at h8
    cases h8
theorem opn_eq (o p : Opn) : decide (o = p) = (o.kind == p.kind && (ByteArray.toList ⟨o.key.toArray⟩ == ByteArray.toList ⟨p.key.toArray⟩ && (ByteArray.toList ⟨o.elem.toArray⟩ == ByteArray.toList ⟨p.elem.toArray⟩ && o.num == p.num))) := by
  obtain ⟨k, s, t, n⟩ := o
  obtain ⟨k2, s2, t2, n2⟩ := p
  simp only [toList_bytes]
  by_cases h1 : k = k2 <;> by_cases h2 : s = s2 <;> by_cases h3 : t = t2 <;> by_cases h4 : n = n2 <;> simp [h1, h2, h3, h4]

theorem eq_if (k1 k2 n1 n2 : Int) (s1 s2 t1 t2 : List UInt8) (wm : World) (b : Bool) (hb : b = (k1 == k2 && (s1 == s2 && (t1 == t2 && n1 == n2)))) :
    (if k1 = k2 then if s1 = s2 then if t1 = t2 then if n1 = n2 then Result.ok (Next.value (Value.bool true)) wm else Result.ok (Next.value (Value.bool false)) wm else Result.ok (Next.value (Value.bool false)) wm else Result.ok (Next.value (Value.bool false)) wm else Result.ok (Next.value (Value.bool false)) wm) = Result.ok (Next.value (Value.bool b)) wm := by
  rw [hb]
  by_cases g1 : k1 = k2 <;> by_cases g2 : s1 = s2 <;> by_cases g3 : t1 = t2 <;> by_cases g4 : n1 = n2 <;> simp [g1, g2, g3, g4]

/-! ### Ids that lie in a row of the call's own -/
theorem flat_cell (l : List (List UInt8)) (r : List UInt8) (i j : Nat) (h : all32 l) (hi : i < l.length) (hj : j < 32) : (l.flatten ++ r)[32 * i + j]? = (l.getD i [])[j]? := by
  rw [← flat_at l r i h hi, List.getElem?_take_of_lt hj, List.getElem?_drop]
theorem Ids.flat {w : World} {b off n c : Nat} {l : List (List UInt8)} (h : Ids w (some ⟨b, off, none⟩) n c l) (hn : n ≠ 0) (j : Nat) (u : Value) (hu : (Bs l.flatten)[j]? = some u) : w.cell? ⟨b, off + j, none⟩ = some u := by
  have hjl := (List.getElem?_eq_some_iff.1 hu).1
  rw [Bs_length, flat_len _ h.is32] at hjl
  rcases h.cells with h0 | ⟨b', off', e, hc⟩
  · exact absurd h0 hn
  · cases e
    have e2 : 32 * (j / 32) + j % 32 = j := Nat.div_add_mod j 32
    have hi : j / 32 < l.length := by omega
    have hc' := hc (j / 32) (by rw [← h.len]; exact hi) (j % 32) u (by
      have := flat_cell l [] (j / 32) (j % 32) h.is32 hi (by omega)
      rw [List.append_nil, e2] at this
      unfold Bs at hu ⊢
      rw [List.getElem?_map] at hu ⊢
      rw [← this]
      exact hu)
    rw [show off + j / 32 * 32 + j % 32 = off + j by omega] at hc'
    exact hc'
/-- 'append([]ID(nil), l...)'. -/
theorem app_ids {w : World} {a : Option Addr} {n c : Nat} {l : List (List UInt8)} (h : Ids w a n c l) (hn : n ≠ 0) (h8 : n ≤ 8) :
    ∃ g cap rest w', (Builtin.append_ #[24, 24] 24 #[.slice none 0 0, .slice a n c]).run Try.prog w = .ok (.slice (some ⟨g, 0, none⟩) n cap) w' ∧ Cel w' g 36 (Bs l.flatten ++ rest) ∧ n ≤ cap ∧ cap ≤ 9223372036854775807 ∧ w.heap.size ≤ g ∧ Below w.heap.size w w' := by
  obtain ⟨b, off, rfl⟩ : ∃ b off, a = some ⟨b, off, none⟩ := by
    rcases h.cells with h0 | ⟨b', off', e, _⟩
    · exact absurd h0 hn
    · exact ⟨b', off', e⟩
  obtain ⟨i0, hi, hz0, hz1, hz2⟩ := info_parts info_idz
  obtain ⟨v', w', h1, h2, h3, _⟩ := run_append_own (P := Try.prog) w w.heap.size 24 24 36 i0 _ 32 32 Try.underlying24 hi hz0 hz1 hz2 (by rfl) (by decide) (.slice none 0 0) 0 [] (World.ownsRow_nil w w.heap.size 36 32) ⟨b, off, none⟩ n c (Bs l.flatten) (by rw [Bs_length, flat_len _ h.is32, h.len, Nat.mul_comm]) (fun j u hu => by
    have hadd : (⟨b, off, none⟩ : Addr).add j = ⟨b, off + j, none⟩ := by unfold Addr.add; split <;> simp_all
    rw [hadd]; exact h.flat hn j u hu) (Bs_one _) (by unfold maxLen; omega) (by omega) (Nat.le_refl _)
  rw [Nat.zero_add, List.nil_append] at h2
  have hb : Below w.heap.size w w' := (Below.refl _ w).grown h3 (Nat.le_refl _) (fun k hk => by cases hk)
  rcases h2.2 with ⟨_, h0⟩ | ⟨g, cap, cur, rfl, hg, hh, hnc, hcm, _, hcur⟩
  · exact absurd h0 hn
  · refine ⟨g, cap, cur.toList.drop (n * 32), w', h1, ?_, hnc, hcm, hg, hb⟩
    unfold Cel
    rw [← hcur, List.take_append_drop]
    exact hh
theorem Ids.of_cel {w : World} {g n cap : Nat} {l : List (List UInt8)} {rest : List Value} {t : TypeId} (hc : Cel w g t (Bs l.flatten ++ rest)) (hl : l.length = n) (h32 : all32 l) (hn : n ≤ cap) (hcap : cap ≤ 9223372036854775807) : Ids w (some ⟨g, 0, none⟩) n cap l := by
  refine ⟨hl, hn, hcap, (fun h => by cases h), h32, .inr ⟨g, 0, rfl, fun i hi j u hu => ?_⟩⟩
  have hj : j < 32 := by
    have := (List.getElem?_eq_some_iff.1 hu).1
    rw [Bs_length, h32 _ (by
      rw [List.getD_eq_getElem?_getD, List.getElem?_eq_getElem (by omega)]
      exact List.getElem_mem (by omega))] at this
    exact this
  refine hc.at _ u ?_
  have e := flat_cell l [] i j h32 (by omega) hj
  rw [List.append_nil] at e
  have hlt : 0 + i * 32 + j < (Bs l.flatten).length := by
    rw [Bs_length, flat_len _ h32]
    omega
  rw [List.getElem?_append_left hlt]
  unfold Bs at hu ⊢
  rw [List.getElem?_map] at hu ⊢
  rw [show 0 + i * 32 + j = 32 * i + j by omega, e]
  exact hu
theorem Cel.mid (b : Nat) (t : TypeId) : ∀ (vs pre us post : List Value) (w : World), us.length = vs.length → Cel w b t (pre ++ (us ++ post)) → Cel (w.setCells b pre.length vs) b t (pre ++ (vs ++ post))
  | [], pre, us, post, w, hl, h => by
    obtain rfl : us = [] := List.eq_nil_of_length_eq_zero hl
    exact h
  | v :: r, pre, [], post, w, hl, h => by simp at hl
  | v :: r, pre, u :: us, post, w, hl, h => by
    have h1 := h.set pre.length v
    have e1 : (pre ++ (u :: us ++ post)).set pre.length v = (pre ++ [v]) ++ (us ++ post) := by simp
    rw [e1] at h1
    have h2 := Cel.mid b t r (pre ++ [v]) us post _ (by simpa using hl) h1
    rw [show (pre ++ [v]).length = pre.length + 1 by simp] at h2
    have e2 : (pre ++ [v]) ++ (r ++ post) = pre ++ (v :: r ++ post) := by simp
    rw [e2] at h2
    exact h2
section
variable {P : Program} {ops : Array Oper} {Q : Exit → Act → World → Prop} {o : Oper} {w : World} {K : Act → World → Prop} {E : Prop} {ts : Array Value} {ds : List Deferred}
/-- A store into the middle of a row, as a step of a region. -/
theorem mid_store {b off : Nat} {t : TypeId} {pre us post : List Value} (hw : Region.wanted o (yielded ops ts) = true) (hd : o.dst = none) (ty : TypeId) (x y : Operand) (ho : o.op = .store ty x y)
    (hx : Act.eval ⟨ts, ds⟩ x = .pointer (some ⟨b, off, none⟩)) (cs : List Value) (hy : Act.eval ⟨ts, ds⟩ y = .agg cs.toArray) (hc : Cel w b t (pre ++ (us ++ post))) (hoff : pre.length = off) (hl : us.length = cs.length) (hi : (P.info? ty).map (·.size) = some cs.length) (h1 : ∀ v ∈ cs, v.oneCell' = true)
    (h : ∀ w', Cel w' b t (pre ++ (cs ++ post)) → Only w w' b → K ⟨ts, ds⟩ w') : if Region.wanted o (yielded ops ts) = true then o.wp P ⟨ts, ds⟩ w K Q else E := by
  rw [if_pos hw]
  refine wp_store_mid ty x y ho b off cs.toArray hx hy (fun j hj => ?_) (by rw [List.size_toArray]; exact hi) (all_oneCell_toArray h1) ?_
  · rw [List.size_toArray] at hj
    have hlt : off + j < (pre ++ (us ++ post)).length := by
      simp only [List.length_append]
      omega
    refine ⟨?_, hc.free (off + j)⟩
    rw [hc.at (off + j) _ (List.getElem?_eq_getElem hlt)]
    rfl
  · rw [hd, List.toList_toArray]
    refine h _ ?_ (only_sets b cs off w)
    rw [← hoff]
    exact Cel.mid b t cs pre us post w hl hc
end
end Go.Proofs.Ytdefdccbcnpodaa
