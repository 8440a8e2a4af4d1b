/- The walk of the reference's Put, of the layer commit. -/
import Derived.Test.YtofadpodlaakbaaGreatCmHash
import Derived.Test.YtofadpodlaakbaaGreatCmRef1
import Derived.Test.YtofadpodlaakbaaGreatOpsRefPut
namespace Go.Proofs.YtofadpodlaakbaaGreat
open Go.ChangeShapes Go.WideShapes Go.ChangeAt Go.RowKit
set_option linter.unusedVariables false
set_option linter.unusedSimpArgs false
theorem app_own {w0 w : World} {v : Value} {l l' : List UInt8} {a : Option Addr} {m c : Nat} (hown : w.ownsRow w0.heap.size 5 1 v l.length (l.map B)) (hb : Below w0.heap.size w0 w) (hr : Rd w a m c l') (hac : a = none → c = 0) (hm : l.length + m ≤ 100000) :
  ∃ v' w', (Builtin.append_ #[28, 28] 28 #[v, .slice a m c]).run Tryz.prog w = .ok v' w' ∧ w'.ownsRow w0.heap.size 5 1 v' (l ++ l').length ((l ++ l').map B) ∧ Below w0.heap.size w0 w' := by
 obtain ⟨i0, hi, hz0, hz1, hz2⟩ := info_parts info_u8
 obtain ⟨v', w', h1, h2, h3⟩ := run_app (P := Tryz.prog) (ty := 28) Tryz.underlying28 hi hz0 hz1 hz2 rfl hown hr hac (by omega) hb.size
 refine ⟨v', w', h1, ?_, below_own hb hown h3 hb.size⟩
 rw [List.length_append, List.map_append, hr.len]
 exact h2
theorem app_byte {w0 w : World} {v : Value} {l : List UInt8} (b : UInt8) (hown : w.ownsRow w0.heap.size 5 1 v l.length (l.map B)) (hb : Below w0.heap.size w0 w) (hm : l.length ≤ 90000) :
  ∃ v' w', (Builtin.append_ #[28, 28] 28 #[v, .slice (some ⟨w.heap.size, 0, none⟩) 1 1]).run Tryz.prog (w.alloc (.cells #[.int .u8 (b.toNat : Int)] 5)) = .ok v' w' ∧ w'.ownsRow w0.heap.size 5 1 v' (l ++ [b]).length ((l ++ [b]).map B) ∧ Below w0.heap.size w0 w' := by
 have hb2 : Below w.heap.size w (w.alloc (.cells (Bs [b]).toArray 5)) := (Below.refl _ _).alloc (Nat.le_refl _) _
 have hc := Cel.new w 5 (Bs [b])
 exact app_own (ownsRow_below hown hb2) (hb.step hb2) (hc.rd (by simp)) (fun h => by cases h) (by omega)
def flI (hd : List UInt8) (par : List (List UInt8)) (i k : Nat) : List UInt8 := hd ++ ((par.take i).flatten ++ (par.getD i []).take k)
theorem flI_zero (hd : List UInt8) (par : List (List UInt8)) : flI hd par 0 0 = hd := by simp [flI]
theorem flI_end (hd : List UInt8) (par : List (List UInt8)) : flI hd par par.length 0 = hd ++ par.flatten := by simp [flI]
theorem at32 {par : List (List UInt8)} (h32 : all32 par) {i : Nat} (hi : i < par.length) : (par.getD i []).length = 32 := by
 rw [List.getD_eq_getElem?_getD, List.getElem?_eq_getElem hi]
 exact h32 _ (List.getElem_mem hi)
theorem flI_step (hd : List UInt8) {par : List (List UInt8)} (h32 : all32 par) {i k : Nat} (hi : i < par.length) (hk : k < 32) : flI hd par i (k + 1) = flI hd par i k ++ [(par.getD i []).getD k 0] := by
 have hl := at32 h32 hi
 unfold flI
 generalize par.getD i [] = l at hl ⊢
 have e : l.take (k + 1) = l.take k ++ [l.getD k 0] := by
  rw [List.take_add_one, List.getD_eq_getElem?_getD, List.getElem?_eq_getElem (by omega)]
  rfl
 rw [e]
 simp [List.append_assoc]
theorem flI_next (hd : List UInt8) {par : List (List UInt8)} (h32 : all32 par) {i : Nat} (hi : i < par.length) : flI hd par i 32 = flI hd par (i + 1) 0 := by
 have hl := at32 h32 hi
 have e : par.take (i + 1) = par.take i ++ [par.getD i []] := by
  rw [List.take_add_one, List.getD_eq_getElem?_getD, List.getElem?_eq_getElem hi]
  rfl
 unfold flI
 have e2 : (par.getD i []).take 32 = par.getD i [] := List.take_of_length_le (by omega)
 rw [e, e2]
 simp
theorem flI_len (hd : List UInt8) {par : List (List UInt8)} (h32 : all32 par) {i k : Nat} (hh : hd.length ≤ 40) (hi : i ≤ par.length) (h8 : i ≤ 8) (hk : k ≤ 32) : (flI hd par i k).length ≤ 400 := by
 have h1 := flat_len (par.take i) (fun x hx => h32 x (List.mem_of_mem_take hx))
 unfold flI
 simp only [List.length_append, h1, List.length_take]
 omega
set_option maxRecDepth 100000 in
set_option maxHeartbeats 16000000 in
theorem cput_ref_own (c : Cmt) (a : Option Addr) (cap : Nat) (w : World) (hr : CmR w c a cap) : Calls Tryz.prog 25 #[c.val a cap] w (CPutO c w) := by
 have HMA := Lib.hid (fun w' h => cmay_ref c a cap w' h)
 have HRC := Lib.hid hr
 have HPO := Lib.hid (fun (hmo : mayB c.op = true) w' => show Calls Tryz.prog 55 #[.agg #[.int .i64 c.op.kind, .string ⟨c.op.key.toArray⟩, .string ⟨c.op.elem.toArray⟩, .int .i64 c.op.num]] w' (fun e w'' => ∃ a cc, e = .returned (.tuple #[.slice a (putO c.op).length cc, .int .i64 0]) ∧ Rd w'' a (putO c.op).length cc (putO c.op) ∧ (a = none → cc = 0) ∧ Below w'.heap.size w' w'') by
  have h := put_ref c.op.kind c.op.num c.op.key c.op.elem w' hr.key hr.elem
  unfold PutP at h
  simp only [if_pos (show mayB ⟨c.op.kind, c.op.key, c.op.elem, c.op.num⟩ = true from hmo)] at h
  exact h)
 have hn63 : c.par.length ≤ 9223372036854775807 := Nat.le_trans hr.ids.le hr.ids.cap
 cases hm : mayC c with
 | false =>
  have HEND := Lib.hid (show ∀ w', Below w.heap.size w w' → CPutO c w (.returned (.tuple #[.slice none 0 0, .int .i64 1])) w' from fun w' h => by unfold CPutO; rw [hm, if_neg (by decide)]; exact ⟨rfl, h⟩)
  rw [hm] at HMA
  clear hm HPO
  unfold Cmt.val Cmt.cs at HMA ⊢
  obtain ⟨n, hn⟩ : ∃ x, x = c.par.length := ⟨_, rfl⟩
  obtain ⟨node, hnode⟩ : ∃ x, x = c.node := ⟨_, rfl⟩
  obtain ⟨seq, hseq⟩ : ∃ x, x = c.seq := ⟨_, rfl⟩
  obtain ⟨gen, hgen⟩ : ∃ x, x = c.gen := ⟨_, rfl⟩
  obtain ⟨kind, hkind⟩ : ∃ x, x = c.op.kind := ⟨_, rfl⟩
  obtain ⟨num, hnum⟩ : ∃ x, x = c.op.num := ⟨_, rfl⟩
  obtain ⟨s1, hs1⟩ : ∃ s : ByteArray, s = ⟨c.op.key.toArray⟩ := ⟨_, rfl⟩
  obtain ⟨s2, hs2⟩ : ∃ s : ByteArray, s = ⟨c.op.elem.toArray⟩ := ⟨_, rfl⟩
  try rw [← hn] at HMA
  try rw [← hnode] at HMA
  try rw [← hseq] at HMA
  try rw [← hgen] at HMA
  try rw [← hkind] at HMA
  try rw [← hnum] at HMA
  try rw [← hs1] at HMA
  try rw [← hs2] at HMA
  try rw [← hn] at hn63
  try rw [← hnode] at hn63
  try rw [← hseq] at hn63
  try rw [← hgen] at hn63
  try rw [← hkind] at hn63
  try rw [← hnum] at hn63
  try rw [← hs1] at hn63
  try rw [← hs2] at hn63
  try rw [← hn] at ⊢
  try rw [← hnode] at ⊢
  try rw [← hseq] at ⊢
  try rw [← hgen] at ⊢
  try rw [← hkind] at ⊢
  try rw [← hnum] at ⊢
  try rw [← hs1] at ⊢
  try rw [← hs2] at ⊢
  clear hr hn hnode hseq hgen hkind hnum hs1 hs2
  go_enter Tryz.func25, Tryz.ntmps25
  go_upto_region 1 with fail
  obtain ⟨b1, hb1⟩ : ∃ b, b = w.heap.size := ⟨_, rfl⟩
  have hC0 := Cel.new w 41 [.int .i64 node, .int .i64 seq, .int .i64 gen, .slice a n cap, .int .i64 kind, .string s1, .string s2, .int .i64 num]
  rw [← hb1] at hC0 ⊢
  generalize hw1 : w.alloc (.cells _ _) = w1
  have HC1 := Lib.hid (show Cel w1 b1 41 [.int .i64 node, .int .i64 seq, .int .i64 gen, .slice a n cap, .int .i64 kind, .string s1, .string s2, .int .i64 num] by rw [← hw1]; exact hC0)
  have HB1 := Lib.hid (show Below w.heap.size w w1 by rw [← hw1]; exact (Below.refl _ _).alloc (Nat.le_refl _) _)
  clear hC0 hw1 hb1
  have p0 : w1.cell? ⟨b1, 0, none⟩ = some (.int .i64 node) := HC1.out.at 0 _ rfl
  have p1 : w1.cell? ⟨b1, 1, none⟩ = some (.int .i64 seq) := HC1.out.at 1 _ rfl
  have p2 : w1.cell? ⟨b1, 2, none⟩ = some (.int .i64 gen) := HC1.out.at 2 _ rfl
  have p3 : w1.cell? ⟨b1, 3, none⟩ = some (.slice a n cap) := HC1.out.at 3 _ rfl
  have p4 : w1.cell? ⟨b1, 4, none⟩ = some (.int .i64 kind) := HC1.out.at 4 _ rfl
  have p5 : w1.cell? ⟨b1, 5, none⟩ = some (.string s1) := HC1.out.at 5 _ rfl
  have p6 : w1.cell? ⟨b1, 6, none⟩ = some (.string s2) := HC1.out.at 6 _ rfl
  have p7 : w1.cell? ⟨b1, 7, none⟩ = some (.int .i64 num) := HC1.out.at 7 _ rfl
  go_wp2_with fail
  refine (HMA.out _ (HRC.out.below HB1.out)).mono ?_
  rintro e w2 ⟨rfl, hb⟩
  have HB2 := Lib.hid (HB1.out.step hb)
  clear p0 p1 p2 p3 p4 p5 p6 p7
  clear hb
  go_wp2_with fail
  go_ret2
  exact HEND.out _ HB2.out
 | true =>
  obtain ⟨_, hn8, _, _, h5⟩ := mayC_parts hm
  obtain ⟨e1, e2, e3, e4⟩ := mayC_node hm
  have hg := (mayC_parts hm).1
  have hf0 := fold_lo c.node
  have hf1 := fold_hi c.node (by omega) (by omega)
  rw [hm] at HMA
  obtain ⟨N, hN⟩ : ∃ N, N = (fold c.node).toNat := ⟨_, rfl⟩
  have hfN : fold c.node = (N : Int) := by rw [hN, Int.toNat_of_nonneg hf0]
  obtain ⟨S, hS⟩ : ∃ S : Nat, c.seq = (S : Int) := ⟨c.seq.toNat, by omega⟩
  obtain ⟨G, hG⟩ : ∃ G : Nat, c.gen = (G : Int) := ⟨c.gen.toNat, by omega⟩
  obtain ⟨par, hpar⟩ : ∃ p, p = c.par := ⟨_, rfl⟩
  obtain ⟨hd, hhd⟩ : ∃ h, h = ((numL N ++ numL S) ++ numL G) ++ numL c.par.length := ⟨_, rfl⟩
  obtain ⟨tl, htl⟩ : ∃ t, t = tailL c := ⟨_, rfl⟩
  have hput : putC c = (hd ++ par.flatten) ++ tl := by
   rw [hhd, htl, hpar]
   unfold putC headL
   rw [← hN, hS, hG]
   simp [List.append_assoc]
  have h32 := hr.ids.is32
  rw [← hpar] at h32
  have hhl : hd.length ≤ 40 := by
   have h1 := numL_le10 N (by omega)
   have h2 := numL_le10 S (by omega)
   have h3 := numL_le10 G (by omega)
   have h4 := numL_le10 c.par.length (by omega)
   rw [hhd]
   simp only [List.length_append]
   omega
  have htll : tl.length ≤ 60 := by
   rw [htl]
   unfold tailL
   rcases h5 with ⟨h, _⟩ | ⟨h, _, _, h4⟩
   ·rw [if_pos h]; exact Nat.zero_le _
   ·rw [if_neg h]; exact putO_len h4
  have HEND := Lib.hid (show ∀ (w2 : World) v' w', Below w.heap.size w w2 → w'.ownsRow w2.heap.size 5 1 v' ((hd ++ par.flatten) ++ tl).length (((hd ++ par.flatten) ++ tl).map B) → Below w2.heap.size w2 w' → CPutO c w (.returned (.tuple #[v', .int .i64 0])) w' from fun w2 v' w' h2 ho hb => by
   rw [← hput] at ho
   unfold CPutO
   rw [hm, if_pos rfl]
   exact ⟨v', rfl, ownsRow_mono ho h2.size, h2.step hb⟩)
  obtain ⟨fl, hfl⟩ : ∃ fl, fl = flI hd par := ⟨_, rfl⟩
  have HF0 := Lib.hid (show fl 0 0 = hd by rw [hfl]; exact flI_zero hd par)
  have HFS := Lib.hid (show ∀ i k, i < c.par.length → k < 32 → fl i (k + 1) = fl i k ++ [(par.getD i []).getD k 0] from fun i k hi hk => by rw [hfl]; exact flI_step hd h32 (by rw [hpar]; exact hi) hk)
  have HFN := Lib.hid (show ∀ i, i < c.par.length → fl i 32 = fl (i + 1) 0 from fun i hi => by rw [hfl]; exact flI_next hd h32 (by rw [hpar]; exact hi))
  have HFE := Lib.hid (show fl c.par.length 0 = hd ++ par.flatten by rw [hfl, ← hpar]; exact flI_end hd par)
  have HFL := Lib.hid (show ∀ i k, i ≤ c.par.length → k ≤ 32 → (fl i k).length ≤ 400 from fun i k hi hk => by rw [hfl]; exact flI_len hd h32 hhl (by rw [hpar]; exact hi) (by omega) hk)
  have HHD := Lib.hid (show hd = ((numL N ++ numL S) ++ numL G) ++ numL c.par.length ∧ hd.length ≤ 40 ∧ tl.length ≤ 60 from ⟨hhd, hhl, htll⟩)
  have HTL := Lib.hid (show (c.node = -1 ∧ tl = []) ∨ (0 ≤ c.node ∧ tl = putO c.op ∧ mayB c.op = true) by
   rw [htl]
   unfold tailL
   rcases h5 with ⟨h, _⟩ | ⟨h, h1, _, h4⟩
   ·exact .inl ⟨h, by rw [if_pos h]⟩
   ·exact .inr ⟨h1.1, by rw [if_neg h], h4⟩)
  have HFO := Lib.hid (fun w' => fold_ref c.node w' (by omega) (by omega))
  rw [hfN] at HFO
  have HNN := Lib.hid (fun w' => num_ref N (by omega) w')
  have HNS := Lib.hid (fun w' => num_ref S (by omega) w')
  have HNG := Lib.hid (fun w' => num_ref G (by omega) w')
  have HNP := Lib.hid (fun w' => num_ref c.par.length (by omega) w')
  have hwS : IntKind.u64.wrap (S : Int) = (S : Int) := by rw [wrap_u64]; omega
  have hwG : IntKind.u64.wrap (G : Int) = (G : Int) := by rw [wrap_u64]; omega
  have hwP : IntKind.u64.wrap (c.par.length : Int) = (c.par.length : Int) := by rw [wrap_u64]; omega
  have HIDS := Lib.hid (fun w' (h : Below w.heap.size w w') => (hr.ids.below h))
  have HLN := Lib.hid (show (numL N).length ≤ 10 ∧ (numL S).length ≤ 10 ∧ (numL G).length ≤ 10 ∧ (numL c.par.length).length ≤ 10 from ⟨numL_le10 N (by omega), numL_le10 S (by omega), numL_le10 G (by omega), numL_le10 c.par.length (by omega)⟩)
  clear hput hhl htll hhd htl h5 e1 e2 e3 e4 hg hf0 hf1 hfN hN hm hfl h32
  unfold Cmt.val Cmt.cs at HMA ⊢
  obtain ⟨n, hn⟩ : ∃ x, x = c.par.length := ⟨_, rfl⟩
  obtain ⟨node, hnode⟩ : ∃ x, x = c.node := ⟨_, rfl⟩
  obtain ⟨seq, hseq⟩ : ∃ x, x = c.seq := ⟨_, rfl⟩
  obtain ⟨gen, hgen⟩ : ∃ x, x = c.gen := ⟨_, rfl⟩
  obtain ⟨kind, hkind⟩ : ∃ x, x = c.op.kind := ⟨_, rfl⟩
  obtain ⟨num, hnum⟩ : ∃ x, x = c.op.num := ⟨_, rfl⟩
  obtain ⟨s1, hs1⟩ : ∃ s : ByteArray, s = ⟨c.op.key.toArray⟩ := ⟨_, rfl⟩
  obtain ⟨s2, hs2⟩ : ∃ s : ByteArray, s = ⟨c.op.elem.toArray⟩ := ⟨_, rfl⟩
  try rw [← hn] at HMA
  try rw [← hnode] at HMA
  try rw [← hseq] at HMA
  try rw [← hgen] at HMA
  try rw [← hkind] at HMA
  try rw [← hnum] at HMA
  try rw [← hs1] at HMA
  try rw [← hs2] at HMA
  try rw [← hn] at HPO
  try rw [← hnode] at HPO
  try rw [← hseq] at HPO
  try rw [← hgen] at HPO
  try rw [← hkind] at HPO
  try rw [← hnum] at HPO
  try rw [← hs1] at HPO
  try rw [← hs2] at HPO
  try rw [← hn] at HFO
  try rw [← hnode] at HFO
  try rw [← hseq] at HFO
  try rw [← hgen] at HFO
  try rw [← hkind] at HFO
  try rw [← hnum] at HFO
  try rw [← hs1] at HFO
  try rw [← hs2] at HFO
  try rw [← hn] at HF0
  try rw [← hnode] at HF0
  try rw [← hseq] at HF0
  try rw [← hgen] at HF0
  try rw [← hkind] at HF0
  try rw [← hnum] at HF0
  try rw [← hs1] at HF0
  try rw [← hs2] at HF0
  try rw [← hn] at HFS
  try rw [← hnode] at HFS
  try rw [← hseq] at HFS
  try rw [← hgen] at HFS
  try rw [← hkind] at HFS
  try rw [← hnum] at HFS
  try rw [← hs1] at HFS
  try rw [← hs2] at HFS
  try rw [← hn] at HFN
  try rw [← hnode] at HFN
  try rw [← hseq] at HFN
  try rw [← hgen] at HFN
  try rw [← hkind] at HFN
  try rw [← hnum] at HFN
  try rw [← hs1] at HFN
  try rw [← hs2] at HFN
  try rw [← hn] at HFE
  try rw [← hnode] at HFE
  try rw [← hseq] at HFE
  try rw [← hgen] at HFE
  try rw [← hkind] at HFE
  try rw [← hnum] at HFE
  try rw [← hs1] at HFE
  try rw [← hs2] at HFE
  try rw [← hn] at HFL
  try rw [← hnode] at HFL
  try rw [← hseq] at HFL
  try rw [← hgen] at HFL
  try rw [← hkind] at HFL
  try rw [← hnum] at HFL
  try rw [← hs1] at HFL
  try rw [← hs2] at HFL
  try rw [← hn] at HHD
  try rw [← hnode] at HHD
  try rw [← hseq] at HHD
  try rw [← hgen] at HHD
  try rw [← hkind] at HHD
  try rw [← hnum] at HHD
  try rw [← hs1] at HHD
  try rw [← hs2] at HHD
  try rw [← hn] at HTL
  try rw [← hnode] at HTL
  try rw [← hseq] at HTL
  try rw [← hgen] at HTL
  try rw [← hkind] at HTL
  try rw [← hnum] at HTL
  try rw [← hs1] at HTL
  try rw [← hs2] at HTL
  try rw [← hn] at HNP
  try rw [← hnode] at HNP
  try rw [← hseq] at HNP
  try rw [← hgen] at HNP
  try rw [← hkind] at HNP
  try rw [← hnum] at HNP
  try rw [← hs1] at HNP
  try rw [← hs2] at HNP
  try rw [← hn] at HIDS
  try rw [← hnode] at HIDS
  try rw [← hseq] at HIDS
  try rw [← hgen] at HIDS
  try rw [← hkind] at HIDS
  try rw [← hnum] at HIDS
  try rw [← hs1] at HIDS
  try rw [← hs2] at HIDS
  try rw [← hn] at HLN
  try rw [← hnode] at HLN
  try rw [← hseq] at HLN
  try rw [← hgen] at HLN
  try rw [← hkind] at HLN
  try rw [← hnum] at HLN
  try rw [← hs1] at HLN
  try rw [← hs2] at HLN
  try rw [← hn] at hn63
  try rw [← hnode] at hn63
  try rw [← hseq] at hn63
  try rw [← hgen] at hn63
  try rw [← hkind] at hn63
  try rw [← hnum] at hn63
  try rw [← hs1] at hn63
  try rw [← hs2] at hn63
  try rw [← hn] at hn8
  try rw [← hnode] at hn8
  try rw [← hseq] at hn8
  try rw [← hgen] at hn8
  try rw [← hkind] at hn8
  try rw [← hnum] at hn8
  try rw [← hs1] at hn8
  try rw [← hs2] at hn8
  try rw [← hn] at hwP
  try rw [← hnode] at hwP
  try rw [← hseq] at hwP
  try rw [← hgen] at hwP
  try rw [← hkind] at hwP
  try rw [← hnum] at hwP
  try rw [← hs1] at hwP
  try rw [← hs2] at hwP
  try rw [← hn] at ⊢
  try rw [← hnode] at ⊢
  try rw [← hseq] at ⊢
  try rw [← hgen] at ⊢
  try rw [← hkind] at ⊢
  try rw [← hnum] at ⊢
  try rw [← hs1] at ⊢
  try rw [← hs2] at ⊢
  obtain rfl : seq = (S : Int) := by rw [hseq, hS]
  obtain rfl : gen = (G : Int) := by rw [hgen, hG]
  have HPAR := Lib.hid (show par = c.par ∧ n = c.par.length from ⟨hpar, hn⟩)
  clear hr hS hG hpar hn hnode hseq hgen hkind hnum hs1 hs2
  go_enter Tryz.func25, Tryz.ntmps25
  go_upto_region 1 with fail
  obtain ⟨b1, hb1⟩ : ∃ b, b = w.heap.size := ⟨_, rfl⟩
  have hC0 := Cel.new w 41 [.int .i64 node, .int .i64 (S : Int), .int .i64 (G : Int), .slice a n cap, .int .i64 kind, .string s1, .string s2, .int .i64 num]
  rw [← hb1] at hC0 ⊢
  generalize hw1 : w.alloc (.cells _ _) = w1
  have HC1 := Lib.hid (show Cel w1 b1 41 [.int .i64 node, .int .i64 (S : Int), .int .i64 (G : Int), .slice a n cap, .int .i64 kind, .string s1, .string s2, .int .i64 num] by rw [← hw1]; exact hC0)
  have HB1 := Lib.hid (show Below w.heap.size w w1 by rw [← hw1]; exact (Below.refl _ _).alloc (Nat.le_refl _) _)
  clear hC0 hw1 hb1
  have p0 : w1.cell? ⟨b1, 0, none⟩ = some (.int .i64 node) := HC1.out.at 0 _ rfl
  have p1 : w1.cell? ⟨b1, 1, none⟩ = some (.int .i64 (S : Int)) := HC1.out.at 1 _ rfl
  have p2 : w1.cell? ⟨b1, 2, none⟩ = some (.int .i64 (G : Int)) := HC1.out.at 2 _ rfl
  have p3 : w1.cell? ⟨b1, 3, none⟩ = some (.slice a n cap) := HC1.out.at 3 _ rfl
  have p4 : w1.cell? ⟨b1, 4, none⟩ = some (.int .i64 kind) := HC1.out.at 4 _ rfl
  have p5 : w1.cell? ⟨b1, 5, none⟩ = some (.string s1) := HC1.out.at 5 _ rfl
  have p6 : w1.cell? ⟨b1, 6, none⟩ = some (.string s2) := HC1.out.at 6 _ rfl
  have p7 : w1.cell? ⟨b1, 7, none⟩ = some (.int .i64 num) := HC1.out.at 7 _ rfl
  go_wp2_with fail
  refine (HMA.out _ (HRC.out.below HB1.out)).mono ?_
  rintro e w2 ⟨rfl, hb⟩
  have HB2 := Lib.hid (HB1.out.step hb)
  have HC2 := Lib.hid (HC1.out.step hb)
  clear hb p0 p1 p2 p3 p4 p5 p6 p7
  have p0 : w2.cell? ⟨b1, 0, none⟩ = some (.int .i64 node) := HC2.out.at 0 _ rfl
  have p1 : w2.cell? ⟨b1, 1, none⟩ = some (.int .i64 (S : Int)) := HC2.out.at 1 _ rfl
  have p2 : w2.cell? ⟨b1, 2, none⟩ = some (.int .i64 (G : Int)) := HC2.out.at 2 _ rfl
  have p3 : w2.cell? ⟨b1, 3, none⟩ = some (.slice a n cap) := HC2.out.at 3 _ rfl
  have p4 : w2.cell? ⟨b1, 4, none⟩ = some (.int .i64 kind) := HC2.out.at 4 _ rfl
  have p5 : w2.cell? ⟨b1, 5, none⟩ = some (.string s1) := HC2.out.at 5 _ rfl
  have p6 : w2.cell? ⟨b1, 6, none⟩ = some (.string s2) := HC2.out.at 6 _ rfl
  have p7 : w2.cell? ⟨b1, 7, none⟩ = some (.int .i64 num) := HC2.out.at 7 _ rfl
  go_wp2_with fail
  refine (HFO.out _).mono ?_
  rintro e w' ⟨rfl, hw⟩
  rw [← hw]
  clear hw
  go_wp2_with fail
  refine (HNN.out _).mono ?_
  rintro e w3 ⟨v3, rfl, ho3, hb3⟩
  have HO3 := Lib.hid ho3
  have HB3 := Lib.hid hb3
  have HC3 := Lib.hid (HC2.out.step hb3)
  clear ho3 hb3 p0 p1 p2 p3 p4 p5 p6 p7
  have p0 : w3.cell? ⟨b1, 0, none⟩ = some (.int .i64 node) := HC3.out.at 0 _ rfl
  have p1 : w3.cell? ⟨b1, 1, none⟩ = some (.int .i64 (S : Int)) := HC3.out.at 1 _ rfl
  have p2 : w3.cell? ⟨b1, 2, none⟩ = some (.int .i64 (G : Int)) := HC3.out.at 2 _ rfl
  have p3 : w3.cell? ⟨b1, 3, none⟩ = some (.slice a n cap) := HC3.out.at 3 _ rfl
  have p4 : w3.cell? ⟨b1, 4, none⟩ = some (.int .i64 kind) := HC3.out.at 4 _ rfl
  have p5 : w3.cell? ⟨b1, 5, none⟩ = some (.string s1) := HC3.out.at 5 _ rfl
  have p6 : w3.cell? ⟨b1, 6, none⟩ = some (.string s2) := HC3.out.at 6 _ rfl
  have p7 : w3.cell? ⟨b1, 7, none⟩ = some (.int .i64 num) := HC3.out.at 7 _ rfl
  go_wp2_with fail
  refine (HNS.out _).mono ?_
  rintro e w4 ⟨v4, rfl, ho4, hb4⟩
  obtain ⟨a4, c4, rfl, hr4⟩ := Rd.of_own ho4
  obtain ⟨v5, w5, hrun, ho5, hb5⟩ := app_own (w0 := w2) (ownsRow_below HO3.out hb4) (HB3.out.step hb4) hr4 (own_none ho4) (by have := HLN.out; (try simp only [List.length_append]); omega)
  have HRUN := Lib.hid hrun
  have HO5 := Lib.hid ho5
  have HB5 := Lib.hid hb5
  have HC5 := Lib.hid (HC2.out.step hb5)
  clear hrun ho4 hb4 hr4 ho5 hb5 p0 p1 p2 p3 p4 p5 p6 p7
  go_upto_region 6 with (at_builtin; refine Lib.wpList_append_run _ rfl _ _ _ _ rfl _ _ rfl rfl _ _ HRUN.out ?_)
  clear HRUN
  have p0 : w5.cell? ⟨b1, 0, none⟩ = some (.int .i64 node) := HC5.out.at 0 _ rfl
  have p1 : w5.cell? ⟨b1, 1, none⟩ = some (.int .i64 (S : Int)) := HC5.out.at 1 _ rfl
  have p2 : w5.cell? ⟨b1, 2, none⟩ = some (.int .i64 (G : Int)) := HC5.out.at 2 _ rfl
  have p3 : w5.cell? ⟨b1, 3, none⟩ = some (.slice a n cap) := HC5.out.at 3 _ rfl
  have p4 : w5.cell? ⟨b1, 4, none⟩ = some (.int .i64 kind) := HC5.out.at 4 _ rfl
  have p5 : w5.cell? ⟨b1, 5, none⟩ = some (.string s1) := HC5.out.at 5 _ rfl
  have p6 : w5.cell? ⟨b1, 6, none⟩ = some (.string s2) := HC5.out.at 6 _ rfl
  have p7 : w5.cell? ⟨b1, 7, none⟩ = some (.int .i64 num) := HC5.out.at 7 _ rfl
  go_wp2_with fail
  refine (HNG.out _).mono ?_
  rintro e w6 ⟨v6, rfl, ho6, hb6⟩
  obtain ⟨a6, c6, rfl, hr6⟩ := Rd.of_own ho6
  obtain ⟨v7, w7, hrun, ho7, hb7⟩ := app_own (w0 := w2) (ownsRow_below HO5.out hb6) (HB5.out.step hb6) hr6 (own_none ho6) (by have := HLN.out; (try simp only [List.length_append]); omega)
  have HRUN := Lib.hid hrun
  have HO7 := Lib.hid ho7
  have HB7 := Lib.hid hb7
  have HC7 := Lib.hid (HC2.out.step hb7)
  clear hrun ho6 hb6 hr6 ho7 hb7 p0 p1 p2 p3 p4 p5 p6 p7
  go_upto_region 7 with (at_builtin; refine Lib.wpList_append_run _ rfl _ _ _ _ rfl _ _ rfl rfl _ _ HRUN.out ?_)
  clear HRUN
  have p0 : w7.cell? ⟨b1, 0, none⟩ = some (.int .i64 node) := HC7.out.at 0 _ rfl
  have p1 : w7.cell? ⟨b1, 1, none⟩ = some (.int .i64 (S : Int)) := HC7.out.at 1 _ rfl
  have p2 : w7.cell? ⟨b1, 2, none⟩ = some (.int .i64 (G : Int)) := HC7.out.at 2 _ rfl
  have p3 : w7.cell? ⟨b1, 3, none⟩ = some (.slice a n cap) := HC7.out.at 3 _ rfl
  have p4 : w7.cell? ⟨b1, 4, none⟩ = some (.int .i64 kind) := HC7.out.at 4 _ rfl
  have p5 : w7.cell? ⟨b1, 5, none⟩ = some (.string s1) := HC7.out.at 5 _ rfl
  have p6 : w7.cell? ⟨b1, 6, none⟩ = some (.string s2) := HC7.out.at 6 _ rfl
  have p7 : w7.cell? ⟨b1, 7, none⟩ = some (.int .i64 num) := HC7.out.at 7 _ rfl
  go_wp2_with fail
  refine (HNP.out _).mono ?_
  rintro e w8 ⟨v8, rfl, ho8, hb8⟩
  obtain ⟨a8, c8, rfl, hr8⟩ := Rd.of_own ho8
  obtain ⟨v9, w9, hrun, ho9, hb9⟩ := app_own (w0 := w2) (ownsRow_below HO7.out hb8) (HB7.out.step hb8) hr8 (own_none ho8) (by have := HLN.out; (try simp only [List.length_append]); omega)
  have HRUN := Lib.hid hrun
  have HO9 := Lib.hid ho9
  have HB9 := Lib.hid hb9
  have HC9 := Lib.hid (HC2.out.step hb9)
  clear hrun ho8 hb8 hr8 ho9 hb9 p0 p1 p2 p3 p4 p5 p6 p7
  go_upto_region 8 with (at_builtin; refine Lib.wpList_append_run _ rfl _ _ _ _ rfl _ _ rfl rfl _ _ HRUN.out ?_)
  clear HRUN
  have HOL := Lib.hid (show w9.ownsRow w2.heap.size 5 1 v9 (fl 0 0).length ((fl 0 0).map B) by rw [HF0.out, HHD.out.1]; exact HO9.out)
  have HBL := Lib.hid HB9.out
  go_wp2_with fail
  go_loopw [5, 6, 7] (fun v5 v6 v7 wr => ∃ i : Nat, i ≤ n ∧ v6 = .int .i64 (i : Int) ∧ Hid (wr.ownsRow w2.heap.size 5 1 v5 (fl i 0).length ((fl i 0).map B)) ∧ Hid (Below w2.heap.size w2 wr)) (fun _ v6 _ _ => n - (intOf v6).toNat)
  case atStart => exact ⟨0, Nat.zero_le _, rfl, HOL, HBL⟩
  case round =>
   obtain ⟨i, hi, rfl, hO, hB⟩ := hrel
   have p3 : wr.cell? ⟨b1, 3, none⟩ = some (.slice a n cap) := (HC2.out.step hB.out).at 3 _ rfl
   by_cases hin : i < n
   case neg =>
    obtain rfl : i = n := by omega
    have HOE := Lib.hid (show _ from HFE.out ▸ hO.out)
    have hB2 := Lib.hid hB.out
    have p0 : wr.cell? ⟨b1, 0, none⟩ = some (.int .i64 node) := (HC2.out.step hB.out).at 0 _ rfl
    rcases HTL.out with ⟨hn1, ht⟩ | ⟨hn1, ht, hmo⟩
    ·have HF := Lib.hid (HEND.out w2 _ wr HB2.out (by rw [ht, List.append_nil]; exact HOE.out) hB2.out)
     subst hn1
     clear ht
     go_wp2_with fail
     go_ret2
     exact HF.out
    ·have p4 : wr.cell? ⟨b1, 4, none⟩ = some (.int .i64 kind) := (HC2.out.step hB.out).at 4 _ rfl
     have p5 : wr.cell? ⟨b1, 5, none⟩ = some (.string s1) := (HC2.out.step hB.out).at 5 _ rfl
     have p6 : wr.cell? ⟨b1, 6, none⟩ = some (.string s2) := (HC2.out.step hB.out).at 6 _ rfl
     have p7 : wr.cell? ⟨b1, 7, none⟩ = some (.int .i64 num) := (HC2.out.step hB.out).at 7 _ rfl
     have HPP := Lib.hid (HPO.out hmo)
     rw [← ht] at HPP
     have HLE := Lib.hid (show (hd ++ par.flatten).length ≤ 400 ∧ tl.length ≤ 60 from ⟨by rw [← HFE.out]; exact HFL.out _ 0 (Nat.le_refl _) (by decide), HHD.out.2.2⟩)
     clear ht hmo
     go_wp2_with fail
     refine (HPP.out _).mono ?_
     rintro e wp ⟨ap, cp, rfl, hrp, hzp, hbp⟩
     obtain ⟨v', w', hrun, ho', hb'⟩ := app_own (w0 := w2) (ownsRow_below HOE.out hbp) (hB2.out.step hbp) hrp hzp (by have := HLE.out; omega)
     have HRUN := Lib.hid hrun
     have HF := Lib.hid (HEND.out w2 v' w' HB2.out ho' hb')
     clear hrun ho' hb' hrp hzp hbp p0 p4 p5 p6 p7
     go_wp2_with (at_builtin; refine Lib.wpList_append_run _ rfl _ _ _ _ rfl _ _ rfl rfl _ _ HRUN.out ?_)
     go_ret2
     exact HF.out
   have hin' : (i : Int) < (n : Int) := by omega
   go_wp2_with fail
   go_loopw [5, 7] (fun v5 v7 wx => ∃ k : Nat, k ≤ 32 ∧ v7 = .int .i64 (k : Int) ∧ Hid (wx.ownsRow w2.heap.size 5 1 v5 (fl i k).length ((fl i k).map B)) ∧ Hid (Below w2.heap.size w2 wx)) (fun _ v7 _ => 32 - (intOf v7).toNat)
   case atStart => exact ⟨0, by decide, rfl, hO, hB⟩
   case round =>
    obtain ⟨k, hk, rfl, hO2, hB2⟩ := hrel
    by_cases hkn : k < 32
    case neg =>
     obtain rfl : k = 32 := by omega
     have hOn := Lib.hid (show _ from HFN.out i hin ▸ hO2.out)
     clear p3
     go_wp2_with fail
     refine ⟨⟨i + 1, by omega, by go_num, hOn, hB2⟩, ?_⟩
     simp [intOf]; omega
    have hkk : (k : Int) < 32 := by omega
    obtain ⟨x, hx⟩ : ∃ x, x = par.getD i [] := ⟨_, rfl⟩
    obtain ⟨b, hbb⟩ : ∃ b, b = x.getD k 0 := ⟨_, rfl⟩
    obtain ⟨v', w', hrun, ho', hb'⟩ := app_byte b hO2.out hB2.out (by have := HFL.out i k (by omega) (by omega); omega)
    have HRUN := Lib.hid hrun
    have HO' := Lib.hid (show w'.ownsRow w2.heap.size 5 1 v' (fl i (k + 1)).length ((fl i (k + 1)).map B) by rw [HFS.out i k hin hkn, ← hx, ← hbb]; exact ho')
    have HB' := Lib.hid hb'
    have hidx := HIDS.out _ (HB2.out.step hB2.out)
    have hlen := hidx.at32 i hin
    rcases hidx.cells with h0 | ⟨ba, oa, rfl, hc⟩
    ·omega
    have pb : wr.cell? ⟨ba, oa + i * 32 + k, none⟩ = some (.int .u8 (b.toNat : Int)) := hc i hin k _ (by rw [← HPAR.out.1] at hlen ⊢; rw [hbb, hx]; exact Bs_at _ k (by omega))
    have p3 : wr.cell? ⟨b1, 3, none⟩ = some (.slice (some ⟨ba, oa, none⟩) n cap) := (HC2.out.step hB2.out).at 3 _ rfl
    clear hrun ho' hb' hidx hlen hc hx hbb
    go_wp2_with (at_builtin; refine Lib.wpList_append_run _ rfl _ _ _ _ rfl _ _ rfl rfl _ _ HRUN.out ?_)
    refine ⟨⟨k + 1, by omega, by go_num, HO', HB'⟩, ?_⟩
    simp [intOf]; omega
theorem cput_ref (c : Cmt) (a : Option Addr) (cap : Nat) (w : World) (hr : CmR w c a cap) : Calls Tryz.prog 25 #[c.val a cap] w (CPutP c w) := by
 refine (cput_ref_own c a cap w hr).mono fun e w' h => ?_
 unfold CPutO at h
 unfold CPutP
 by_cases hm : mayC c = true
 ·rw [if_pos hm] at h ⊢
  obtain ⟨v, rfl, ho, hb⟩ := h
  obtain ⟨a', c', rfl, hr'⟩ := Rd.of_own ho
  exact ⟨a', c', rfl, hr', own_none ho, hb⟩
 ·rw [if_neg hm] at h ⊢
  exact h
end Go.Proofs.YtofadpodlaakbaaGreat
