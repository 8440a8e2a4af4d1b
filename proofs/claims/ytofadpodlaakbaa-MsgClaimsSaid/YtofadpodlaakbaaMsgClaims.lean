/- The statement MsgClaims, walked out of the contracts of what it calls. -/
import Derived.Test.YtofadpodlaakbaaMsgBack
import Derived.Test.YtofadpodlaakbaaMsgPutO
import Derived.BigQuiet
namespace Go.Proofs.Ytofadpodlaakbaa
open Go.ChangeShapes Go.WideShapes Go.ChangeAt Go.RowKit
set_option linter.unusedVariables false
set_option linter.unusedSimpArgs false

theorem xor_all : ∀ x y : Fin 256, bits .xor .u8 ((x.val : Nat) : Int) ((y.val : Nat) : Int) = (((UInt8.ofNat x.val) ^^^ (UInt8.ofNat y.val)).toNat : Int) := by decide +kernel
theorem xor_u8 (c m : UInt8) : bits .xor .u8 (c.toNat : Int) (m.toNat : Int) = ((c ^^^ m).toNat : Int) := by
  have := xor_all ⟨c.toNat, c.toNat_lt⟩ ⟨m.toNat, m.toNat_lt⟩
  simpa using this
theorem xor_ne {y z : UInt8} (h : z ≠ 0) : y ^^^ z ≠ y := fun e => h (by
  have h2 : y ^^^ (y ^^^ z) = y ^^^ y := congrArg (fun t => y ^^^ t) e
  rw [← UInt8.xor_assoc, UInt8.xor_self, UInt8.zero_xor] at h2
  exact h2)
theorem Rd.set {w : World} {b off n c : Nat} {l : List UInt8} (h : Rd w (some ⟨b, off, none⟩) n c l) (m : Nat) (hm : m < n) (v : UInt8) : Rd (w.setCell ⟨b, off + m, none⟩ (.int .u8 (v.toNat : Int))) (some ⟨b, off, none⟩) n c (l.set m v) := by
  refine ⟨by rw [List.length_set]; exact h.len, h.le, h.cap, ?_⟩
  rcases h.cells with h0 | ⟨b', off', e, hb, hc⟩
  · omega
  · cases e
    refine .inr ⟨b, off, rfl, by simpa using hb, fun i hi => ?_⟩
    by_cases him : i = m
    · subst him
      rw [World.cell?_setCell_same' _ _ _ (by rw [hc i hi]; rfl)]
      rw [List.getD_eq_getElem?_getD, List.getElem?_set_self (by rw [h.len]; exact hi)]
      rfl
    · rw [World.cell?_setCell_other w _ _ _ (fun e => him (by injection e with _ e _; omega)), hc i hi]
      rw [List.getD_eq_getElem?_getD, List.getD_eq_getElem?_getD, List.getElem?_set_ne (fun e => him e.symm)]
/-- A row of the call's own lies at the beginning of its block, and none of it is frozen. -/
theorem own_at {w : World} {base : Nat} {a : Option Addr} {n c m : Nat} {xs : List Value} (h : w.ownsRow base 5 1 (.slice a n c) m xs) (hm : 0 < m) : ∃ g, a = some ⟨g, 0, none⟩ ∧ base ≤ g ∧ g < w.heap.size ∧ ∀ i, w.frozen? ⟨g, i, none⟩ = false := by
  rcases h.2 with ⟨_, h0⟩ | ⟨g, cap, cur, e, hg, hh, _⟩
  · omega
  · injection e with e1 _ _
    subst e1
    have hc : Cel w g 5 cur.toList := by
      show w.heap[g]? = some (.cells cur.toList.toArray 5)
      rw [hh]
    exact ⟨g, rfl, hg, hc.lt, fun i => hc.free i⟩
def claimM (c : Cmt) : Msg := ⟨2, [], [c]⟩
theorem claim_may {c : Cmt} (h : mayM (claimM c) = true) : mayC c = true := by
  rcases mayM_kind h with ⟨h1, _⟩ | ⟨_, _, _, h4⟩
  · rcases h1 with h1 | h1 <;> exact absurd h1 (by show ¬ (2 : Int) = _; decide)
  · exact (h4 c (List.mem_singleton.2 rfl)).1
theorem claim_put (c : Cmt) : putM (claimM c) = 2 :: 1 :: (hashL (putC c) ++ txtL (putC c)) := by
  unfold putM claimM
  rw [show (2 : Int).toNat = 2 from rfl, numL_small (show 2 ≤ 127 by omega)]
  simp only [List.length_nil, List.length_cons, Nat.zero_add, List.flatten_nil, List.map_cons, List.map_nil, List.flatten_cons, List.append_nil, List.nil_append]
  rw [numL_small (show 1 ≤ 127 by omega)]
  rfl
/-- A commit that comes with an id that is not its own is no message. -/
theorem claim_none {c : Cmt} (hm : mayC c = true) (h32 : all32 c.par) {k : Nat} (hk : k < 32) {z : UInt8} (hz : z ≠ 0) :
    getM ((putM (claimM c)).set (2 + k) ((hashL (putC c)).getD k 0 ^^^ z)) = none := by
  have hh := hashL_length (putC c)
  obtain ⟨v, hv⟩ : ∃ v, v = (hashL (putC c)).getD k 0 ^^^ z := ⟨_, rfl⟩
  obtain ⟨H, hH⟩ : ∃ H, H = (hashL (putC c)).set k v := ⟨_, rfl⟩
  have hHl : H.length = 32 := by rw [hH, List.length_set, hh]
  have hne : ¬ H = hashL (putC c) := fun e => by
    have e1 : H.getD k 0 = v := by rw [hH, List.getD_eq_getElem?_getD, List.getElem?_set_self (by rw [hh]; exact hk)]; rfl
    rw [e, hv] at e1
    exact xor_ne hz e1.symm
  have e : (putM (claimM c)).set (2 + k) v = numL 2 ++ (numL 1 ++ (H ++ txtL (putC c))) := by
    rw [claim_put, numL_small (show 2 ≤ 127 by omega), numL_small (show 1 ≤ 127 by omega), show 2 + k = k + 1 + 1 by omega, List.set_cons_succ, List.set_cons_succ, List.set_append_left _ _ (by rw [hh]; exact hk), hH]
    rfl
  have hl := putC_len hm h32
  obtain ⟨c1, c2, c3⟩ := cut_putM (putC c) [] (by omega)
  rw [List.append_nil] at c1 c2 c3
  have hg := getC_put c hm h32 []
  rw [List.append_nil] at hg
  have d1 : (H ++ txtL (putC c)).drop 32 = txtL (putC c) := by rw [← hHl, List.drop_left]
  have d2 : (H ++ txtL (putC c)).take 32 = H := by rw [← hHl, List.take_left]
  have hcut : cutC (H ++ txtL (putC c)) = none := by
    unfold cutC
    rw [if_pos (by rw [List.length_append]; omega), d1, if_pos c1, c2, hg]
    simp only
    rw [d2, if_neg (fun h => hne h.2)]
  rw [← hv, e]
  unfold getM getR
  rw [takeM_put _ _ (by decide) (by omega)]
  simp only
  rw [takeM_put _ _ (by decide) (by omega)]
  simp only [if_true]
  have hcm : cmsI 1 (H ++ txtL (putC c)) = none := by
    show (match cutC (H ++ txtL (putC c)) with
      | none => none
      | some (c, r') => some ([] ++ [c], r')) = none
    rw [hcut]
  rw [hcm]

set_option maxRecDepth 100000 in
set_option maxHeartbeats 16000000 in
theorem msgClaims_walk (c : Cmt) (a : Option Addr) (cap : Nat) (at_ z : Int) (w : World) (hr : CmR w c a cap) (ha : -9223372036854775808 ≤ at_ ∧ at_ ≤ 9223372036854775807) (hz : 0 ≤ z ∧ z ≤ 255) :
    Calls Try.prog 4 #[c.val a cap, .int .i64 at_, .int .u8 z] w fun e w' => e = .returned (.bool true) ∧ Below w.heap.size w w' := by
  have HFE := Lib.hid (fun w' h => fewc_any c a cap w' h)
  have HRC := Lib.hid hr
  obtain ⟨may, hmay⟩ : ∃ b, b = mayM (claimM c) := ⟨_, rfl⟩
  obtain ⟨few, hfew⟩ : ∃ b, b = fewC c := ⟨_, rfl⟩
  rw [← hfew] at HFE
  have HPU := Lib.hid (fun w' b (h : Cel w' b 41 (c.cs a cap)) (h2 : CmR w' c a cap) => show Calls Try.prog 9 #[.agg #[.int .i64 2, .slice none 0 0, .slice (some ⟨b, 0, none⟩) 1 1]] w' (MPutO (claimM c) w') from mput_own (claimM c) none 0 (some ⟨b, 0, none⟩) 1 w' ⟨Ids.nil w', rfl, Nat.le_refl _, by decide, (fun h => by cases h), .inr ⟨b, 0, rfl, fun i hi => by
    have h0 : i = 0 := by have : i < 1 := hi; omega
    subst h0
    exact ⟨a, cap, fun j v hj => by rw [Nat.zero_mul, Nat.zero_add]; exact h.at j v hj, h2⟩⟩⟩)
  unfold MPutO at HPU
  rw [← hmay] at HPU
  obtain ⟨X, hX⟩ : ∃ X, X = putM (claimM c) := ⟨_, rfl⟩
  rw [← hX] at HPU
  obtain ⟨lx, hlx⟩ : ∃ l, l = X.length := ⟨_, rfl⟩
  rw [← hlx] at HPU
  obtain ⟨HS, hHS⟩ : ∃ X, X = hashL (putC c) := ⟨_, rfl⟩
  have hhs32 : HS.length = 32 := by rw [hHS]; exact hashL_length _
  have hlx34 : 34 ≤ lx := by
    rw [hlx, hX, claim_put, List.length_cons, List.length_cons, List.length_append, hashL_length]
    omega
  have hlx4 : may = true → lx ≤ 4000 := fun h => by rw [hlx, hX]; exact putM_len (by rw [← hmay]; exact h) ⟨fun x hx => by simp [claimM] at hx, fun x hx => by simp [claimM] at hx; subst hx; exact hr.ids.is32⟩
  have HLX4 := Lib.hid hlx4
  have HXL := Lib.hid hlx
  have HXG := Lib.hid (show ∀ k, k < 32 → X.getD (2 + k) 0 = HS.getD k 0 from fun k hk => by
    rw [hX, claim_put, ← hHS, show 2 + k = k + 1 + 1 by omega, List.getD_cons_succ, List.getD_cons_succ, List.getD_eq_getElem?_getD, List.getElem?_append_left (by rw [hhs32]; exact hk), ← List.getD_eq_getElem?_getD])
  have HGN := Lib.hid (show may = true → ∀ k, k < 32 → ∀ z : UInt8, z ≠ 0 → getM (X.set (2 + k) (HS.getD k 0 ^^^ z)) = none from fun h k hk z hz => by rw [hX, hHS]; exact claim_none (claim_may (by rw [← hmay]; exact h)) hr.ids.is32 hk hz)
  have HHA := Lib.hid (fun w' (hm : may = true) (h : CmR w' c a cap) => show Calls Try.prog 14 #[c.val a cap] w' (fun e w'' => e = .returned (.tuple #[.agg (Bs HS).toArray, .int .i64 0]) ∧ Below w'.heap.size w' w'') by
    refine (chash_any c a cap w' h hr.ids.is32).mono fun e w'' hp => ?_
    unfold CHashP at hp
    rw [if_pos (claim_may (by rw [← hmay]; exact hm)), ← hHS] at hp
    exact hp)
  have HGE := Lib.hid (fun w' a n c L (h : Rd w' a n c L) (hz : a = none → c = 0) (hn : n ≤ 100000) (hg : getM L = none) => show Calls Try.prog 10 #[.slice a n c] w' (fun e w'' => e = .returned (.tuple #[.agg #[.int .i64 0, .slice none 0 0, .slice none 0 0], .int .i64 2]) ∧ Below w'.heap.size w' w'') by
    have h1 := mget_any a n c L w' h hz hn
    unfold MGetP at h1
    rw [hg] at h1
    exact h1)
  obtain ⟨zb, hzb⟩ : ∃ b : UInt8, z = (b.toNat : Int) := ⟨UInt8.ofNat z.toNat, by rw [UInt8.toNat_ofNat']; omega⟩
  subst hzb
  have HVAL := Lib.hid (show c.cs a cap = [.int .i64 c.node, .int .i64 c.seq, .int .i64 c.gen, .slice a c.par.length cap, .int .i64 c.op.kind, .string ⟨c.op.key.toArray⟩, .string ⟨c.op.elem.toArray⟩, .int .i64 c.op.num] from rfl)
  unfold Cmt.val Cmt.cs at HFE HHA ⊢
  obtain ⟨n, hn⟩ : ∃ x, x = c.par.length := ⟨_, rfl⟩
  obtain ⟨node, hnode⟩ : ∃ x, x = c.node := ⟨_, rfl⟩
  obtain ⟨seq, hseq⟩ : ∃ x, x = c.seq := ⟨_, rfl⟩
  obtain ⟨gen, hgen⟩ : ∃ x, x = c.gen := ⟨_, rfl⟩
  obtain ⟨kind, hkind⟩ : ∃ x, x = c.op.kind := ⟨_, rfl⟩
  obtain ⟨num, hnum⟩ : ∃ x, x = c.op.num := ⟨_, rfl⟩
  obtain ⟨s1, hs1⟩ : ∃ s : ByteArray, s = ⟨c.op.key.toArray⟩ := ⟨_, rfl⟩
  obtain ⟨s2, hs2⟩ : ∃ s : ByteArray, s = ⟨c.op.elem.toArray⟩ := ⟨_, rfl⟩
  try rw [← hn] at HFE
  try rw [← hnode] at HFE
  try rw [← hseq] at HFE
  try rw [← hgen] at HFE
  try rw [← hkind] at HFE
  try rw [← hnum] at HFE
  try rw [← hs1] at HFE
  try rw [← hs2] at HFE
  try rw [← hn] at HHA
  try rw [← hnode] at HHA
  try rw [← hseq] at HHA
  try rw [← hgen] at HHA
  try rw [← hkind] at HHA
  try rw [← hnum] at HHA
  try rw [← hs1] at HHA
  try rw [← hs2] at HHA
  try rw [← hn] at ⊢
  try rw [← hnode] at ⊢
  try rw [← hseq] at ⊢
  try rw [← hgen] at ⊢
  try rw [← hkind] at ⊢
  try rw [← hnum] at ⊢
  try rw [← hs1] at ⊢
  try rw [← hs2] at ⊢
  have HVL := Lib.hid (show c.cs a cap = [.int .i64 node, .int .i64 seq, .int .i64 gen, .slice a n cap, .int .i64 kind, .string s1, .string s2, .int .i64 num] by unfold Cmt.cs; rw [hn, hnode, hseq, hgen, hkind, hnum, hs1, hs2])
  clear HVAL hr hmay hfew hX hlx hHS hlx4 hz hn hnode hseq hgen hkind hnum hs1 hs2
  have HAT := Lib.hid ha
  clear ha
  have HB0 := Lib.hid (Below.refl w.heap.size w)
  go_enter Try.func4, Try.ntmps4
  go_upto_region 1 with fail
  generalize hwn : w.alloc (.cells _ _) = w1
  have hbn : Below w.heap.size w w1 := by rw [← hwn]; exact (Below.refl _ _).alloc (Nat.le_refl _) _
  obtain ⟨b1, hbb⟩ : ∃ b, b = w.heap.size := ⟨_, rfl⟩
  have HDb1 := Lib.hid (show Cel w1 b1 41 [.int .i64 node, .int .i64 seq, .int .i64 gen, .slice a n cap, .int .i64 kind, .string s1, .string s2, .int .i64 num] by rw [← hwn, hbb]; exact Cel.new w _ _)
  rw [← hbb]
  have HB1 := Lib.hid (HB0.out.step hbn)
  clear hwn hbn hbb
  go_wp2_with fail
  refine (awake18 _).mono ?_
  rintro e w2 ⟨rfl, hb⟩
  have HC2 := Lib.hid (HDb1.out.step hb)
  have HB2 := Lib.hid (HB1.out.step hb)
  clear hb
  have p0 : w2.cell? ⟨b1, 0, none⟩ = some (.int .i64 node) := HC2.out.at 0 _ rfl
  have p1 : w2.cell? ⟨b1, 1, none⟩ = some (.int .i64 seq) := HC2.out.at 1 _ rfl
  have p2 : w2.cell? ⟨b1, 2, none⟩ = some (.int .i64 gen) := HC2.out.at 2 _ rfl
  have p3 : w2.cell? ⟨b1, 3, none⟩ = some (.slice a n cap) := HC2.out.at 3 _ rfl
  have p4 : w2.cell? ⟨b1, 4, none⟩ = some (.int .i64 kind) := HC2.out.at 4 _ rfl
  have p5 : w2.cell? ⟨b1, 5, none⟩ = some (.string s1) := HC2.out.at 5 _ rfl
  have p6 : w2.cell? ⟨b1, 6, none⟩ = some (.string s2) := HC2.out.at 6 _ rfl
  have p7 : w2.cell? ⟨b1, 7, none⟩ = some (.int .i64 num) := HC2.out.at 7 _ rfl
  go_wp2_with fail
  refine (HFE.out _ (HRC.out.below HB2.out)).mono ?_
  rintro e w3 ⟨rfl, hb⟩
  clear p0 p1 p2 p3 p4 p5 p6 p7
  have HC3 := Lib.hid (HC2.out.step hb)
  have HB3 := Lib.hid (HB2.out.step hb)
  clear hb
  have p0 : w3.cell? ⟨b1, 0, none⟩ = some (.int .i64 node) := HC3.out.at 0 _ rfl
  have p1 : w3.cell? ⟨b1, 1, none⟩ = some (.int .i64 seq) := HC3.out.at 1 _ rfl
  have p2 : w3.cell? ⟨b1, 2, none⟩ = some (.int .i64 gen) := HC3.out.at 2 _ rfl
  have p3 : w3.cell? ⟨b1, 3, none⟩ = some (.slice a n cap) := HC3.out.at 3 _ rfl
  have p4 : w3.cell? ⟨b1, 4, none⟩ = some (.int .i64 kind) := HC3.out.at 4 _ rfl
  have p5 : w3.cell? ⟨b1, 5, none⟩ = some (.string s1) := HC3.out.at 5 _ rfl
  have p6 : w3.cell? ⟨b1, 6, none⟩ = some (.string s2) := HC3.out.at 6 _ rfl
  have p7 : w3.cell? ⟨b1, 7, none⟩ = some (.int .i64 num) := HC3.out.at 7 _ rfl
  obtain ⟨i0, hi0z, hz0, hz1, _⟩ := info_parts info_cmz
  obtain ⟨w4, hw4⟩ : ∃ w4, w4 = w3.alloc (.cells ([.int .i64 node, .int .i64 seq, .int .i64 gen, .slice a n cap, .int .i64 kind, .string s1, .string s2, .int .i64 num] : List Value).toArray 41) := ⟨_, rfl⟩
  have hb4 : Below w3.heap.size w3 w4 := by rw [hw4]; exact (Below.refl _ _).alloc (Nat.le_refl _) _
  have hc4 : Cel w4 w3.heap.size 41 (c.cs a cap) := by rw [hw4, HVL.out]; exact Cel.new w3 _ _
  have HC4 := Lib.hid (HC3.out.step hb4)
  have HB4 := Lib.hid (HB3.out.step hb4)
  have HP4 := Lib.hid (HPU.out _ _ hc4 (HRC.out.below HB4.out))
  rw [hw4] at HP4
  go_wp2_with (refine wpList_one_sliceM rfl 23 41 (.tmp 19) rfl [.int .i64 node, .int .i64 seq, .int .i64 gen, .slice a n cap, .int .i64 kind, .string s1, .string s2, .int .i64 num] (by rfl) i0 _ Try.underlying23 hi0z hz0 (by rw [hz1]; rfl) (by simp) (by simp) ?_)
  refine HP4.out.mono ?_
  rw [← hw4]
  clear HPU HP4 hi0z hz0 hz1 hc4 hw4 hb4 p0 p1 p2 p3 p4 p5 p6 p7
  rintro e w5 hp
  cases may with
  | false =>
    simp only [Bool.false_eq_true, if_false] at hp
    obtain ⟨rfl, hb⟩ := hp
    have HB5 := Lib.hid (HB4.out.step hb)
    clear hb
    cases few with
    | false =>
      go_wp2_with fail
      go_ret
      exact ⟨rfl, HB5.out⟩
    | true =>
      go_wp2_with fail
      go_ret
      exact ⟨rfl, HB5.out⟩
  | true =>
    simp only [if_true] at hp
    obtain ⟨v5, rfl, ho, hb⟩ := hp
    have hlx4 := HLX4.out (by first | rfl | trivial)
    have hz5 := fun a n c (h : v5 = .slice a n c) => own_none (h ▸ ho)
    have hat5 := fun a n c (h : v5 = .slice a n c) => own_at (h ▸ ho) (by omega)
    obtain ⟨a5, c5, rfl, hr5⟩ := Rd.of_own ho
    obtain ⟨g, rfl, hg1, hg2, hg3⟩ := hat5 a5 _ c5 rfl
    have HX5 := Lib.hid hr5
    have HG5 := Lib.hid (show w4.heap.size ≤ g ∧ g < w5.heap.size from ⟨hg1, hg2⟩)
    have HF5 := Lib.hid hg3
    have HC5 := Lib.hid (HC4.out.step hb)
    have HB5 := Lib.hid (HB4.out.step hb)
    have HWG := Lib.hid (show w.heap.size ≤ g from Nat.le_trans HB4.out.size hg1)
    have hown5 := Lib.hid ho
    clear hz5 hat5 hr5 hg1 hg2 hg3 hb ho
    have hlx63 : lx ≤ 9223372036854775807 := by omega
    have hlxi : (lx : Int) ≥ 34 := by omega
    cases few with
    | false =>
      go_wp2_with fail
      go_ret
      exact ⟨rfl, HB5.out⟩
    | true =>
    by_cases h1 : at_ < 0
    · go_wp2_with fail
      go_ret
      exact ⟨rfl, HB5.out⟩
    by_cases h2 : at_ > 31
    · go_wp2_with fail
      go_ret
      exact ⟨rfl, HB5.out⟩
    by_cases h3 : zb = 0
    · subst h3
      go_wp2_with fail
      go_ret
      exact ⟨rfl, HB5.out⟩
    obtain ⟨k, hk⟩ : ∃ k : Nat, at_ = (k : Int) := ⟨at_.toNat, by omega⟩
    subst hk
    have hk32 : k < 32 := by omega
    have hzn : ¬ zb.toNat = 0 := fun e => h3 (UInt8.toNat_inj.1 e)
    have hzi : ¬ (zb.toNat : Int) = 0 := by omega
    have hzb : ((zb.toNat : Int) == 0) = false := by simpa using hzn
    have hlxn : ¬ (lx : Int) < 34 := by omega
    have h2' : ¬ (k : Int) > 31 := h2
    have H3 := Lib.hid h3
    have p0 : w5.cell? ⟨b1, 0, none⟩ = some (.int .i64 node) := HC5.out.at 0 _ rfl
    have p1 : w5.cell? ⟨b1, 1, none⟩ = some (.int .i64 seq) := HC5.out.at 1 _ rfl
    have p2 : w5.cell? ⟨b1, 2, none⟩ = some (.int .i64 gen) := HC5.out.at 2 _ rfl
    have p3 : w5.cell? ⟨b1, 3, none⟩ = some (.slice a n cap) := HC5.out.at 3 _ rfl
    have p4 : w5.cell? ⟨b1, 4, none⟩ = some (.int .i64 kind) := HC5.out.at 4 _ rfl
    have p5 : w5.cell? ⟨b1, 5, none⟩ = some (.string s1) := HC5.out.at 5 _ rfl
    have p6 : w5.cell? ⟨b1, 6, none⟩ = some (.string s2) := HC5.out.at 6 _ rfl
    have p7 : w5.cell? ⟨b1, 7, none⟩ = some (.int .i64 num) := HC5.out.at 7 _ rfl
    go_wp2_with fail
    refine (HHA.out _ (by first | rfl | trivial) (HRC.out.below HB5.out)).mono ?_
    rintro e w6 ⟨rfl, hb⟩
    rename_i K9 hK9
    refine hK9 _ _ ?_
    clear hK9 K9
    iterate 8 go_step
    rename_i K9 hK9
    refine hK9 _ _ ?_
    clear hK9 K9
    refine wpList_new_store rfl rfl 44 11 (.tmp 65) rfl rfl rfl rfl (Bs zero32) (Bs HS) (by kernel_rfl) (by simp) rfl (by rw [Bs_length, Bs_length, zero32_length, hhs32]) (info_x hhs32) (Bs_one HS) ?_
    intro w7 hd hb2
    obtain ⟨b9, hbb⟩ : ∃ b, b = w6.heap.size := ⟨_, rfl⟩
    rw [← hbb] at hd ⊢
    have hx7 := (HX5.out.below hb).below hb2
    have hfz7 : ∀ i, w7.frozen? ⟨g, i, none⟩ = false := by
      have h57 : w7.heap[g]? = w5.heap[g]? := by rw [hb2.block g (Nat.lt_of_lt_of_le HG5.out.2 hb.size), hb.block g HG5.out.2]
      rcases hown5.out.2 with ⟨e, _⟩ | ⟨g', cap', cur, e, _, hh, _⟩
      · cases e
      · injection e with e1 _ _
        injection e1 with e1
        injection e1 with e1 _ _
        subst e1
        have hc : Cel w7 g 5 cur.toList := by
          show w7.heap[g]? = some (.cells cur.toList.toArray 5)
          rw [h57, hh]
        exact fun i => hc.free i
    have HB7 := Lib.hid ((HB5.out.step hb).step hb2)
    obtain ⟨y, hy⟩ : ∃ y, y = HS.getD k 0 := ⟨_, rfl⟩
    obtain ⟨p, hp⟩ : ∃ p, p = 2 + k := ⟨_, rfl⟩
    have hcx : w7.cell? ⟨g, p, none⟩ = some (.int .u8 (y.toNat : Int)) := by
      rcases hx7.cells with h0 | ⟨b', off', e, _, hcc⟩
      · omega
      · cases e
        have h4 := hcc p (by omega)
        rw [hp, HXG.out k hk32, ← hy, Nat.zero_add] at h4
        rw [hp]
        exact h4
    have hch : w7.cell? ⟨b9, k, none⟩ = some (.int .u8 (y.toNat : Int)) := by
      have h4 := hd.at k _ (Bs_at HS k (by rw [hhs32]; exact hk32))
      rw [← hy] at h4
      exact h4
    have hf7 := hfz7 p
    have hpi : (2 : Int) + (k : Int) = (p : Int) := by omega
    have hpw : IntKind.i64.wrap (p : Int) = (p : Int) := IntWalk.i64_in _ (by omega)
    have hplx : (p : Int) < (lx : Int) := by omega
    have hp0 : (0 : Int) ≤ (p : Int) := by omega
    have hk0 : (0 : Int) ≤ (k : Int) := by omega
    have hki : (k : Int) < 32 := by omega
    have hxr : bits .xor .u8 (y.toNat : Int) (zb.toNat : Int) = ((y ^^^ zb).toNat : Int) := xor_u8 y zb
    have HX7 := Lib.hid hx7
    have HGS := Lib.hid (show getM (X.set p (y ^^^ zb)) = none by rw [hp, hy]; exact HGN.out (by first | rfl | trivial) k hk32 zb h3)
    have hpl : p < lx := by omega
    clear hb hb2 hd hbb hx7 hfz7 hy hp h3 p0 p1 p2 p3 p4 p5 p6 p7
    go_upto_region 7 with fail
    go_quiet (fail)
    rename_i KQ hKQ
    refine hKQ _ _ ?_
    clear hKQ KQ
    obtain ⟨wd, hwd⟩ : ∃ wd, wd = w7.drewN nq := ⟨_, rfl⟩
    rw [← hwd]
    have hbd : Below w7.heap.size w7 wd := by rw [hwd]; exact below_drewNw w7 nq
    have hcd : wd.cell? ⟨g, p, none⟩ = some (.int .u8 (y.toNat : Int)) := carry_cell hcx hbd
    have hfd : wd.frozen? ⟨g, p, none⟩ = false := by rw [hwd]; exact hf7
    have HXd := Lib.hid (HX7.out.below hbd)
    have HBd := Lib.hid (HB7.out.step hbd)
    clear hwd hbd hcx hf7 hch
    go_upto_region 10 with fail
    generalize hw8 : World.setCell wd _ _ = w8
    have ho8 : Only wd w8 g := by rw [← hw8]; exact only_set _ _ _ _
    have HX8 := Lib.hid (show Rd w8 (some ⟨g, 0, none⟩) lx c5 (X.set p (y ^^^ zb)) by
      have h4 := HXd.out.set p hpl (y ^^^ zb)
      rw [Nat.zero_add] at h4
      rw [← hw8]
      exact h4)
    have HB8 := Lib.hid (ho8.below HBd.out HWG.out)
    clear hw8 ho8 hcd hfd
    go_wp2_with fail
    refine (HGE.out _ _ _ _ _ HX8.out (fun h => by cases h) (by omega) HGS.out).mono ?_
    rintro e w9 ⟨rfl, hb⟩
    have HB9 := Lib.hid (HB8.out.step hb)
    clear hb
    go_upto_region 11 with fail
    generalize hwn : w9.alloc (.cells _ _) = w10
    have hbn : Below w9.heap.size w9 w10 := by rw [← hwn]; exact (Below.refl _ _).alloc (Nat.le_refl _) _
    obtain ⟨b10, hbb⟩ : ∃ b, b = w9.heap.size := ⟨_, rfl⟩
    have HDb10 := Lib.hid (show Cel w10 b10 25 [.int .i64 0, .slice none 0 0, .slice none 0 0] by rw [← hwn, hbb]; exact Cel.new w9 _ _)
    rw [← hbb]
    have HB10 := Lib.hid (HB9.out.step hbn)
    clear hwn hbn hbb
    go_wp2_with fail
    go_ret
    exact ⟨rfl, HB10.out⟩
end Go.Proofs.Ytofadpodlaakbaa
