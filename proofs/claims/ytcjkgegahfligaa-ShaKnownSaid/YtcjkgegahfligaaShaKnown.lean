/- The statement ShaKnown, walked out of the contracts of what it calls. -/
import Derived.Test.YtcjkgegahfligaaShaLaws
import Derived.Lib.ConvBytes
import Derived.Lib.AtoiErrMem
namespace Go.Proofs.Ytcjkgegahfligaa
open Go.ChangeShapes Go.WideShapes Go.ChangeAt Go.RowKit
set_option linter.unusedVariables false

def long56 : List UInt8 := [97, 98, 99, 100, 98, 99, 100, 101, 99, 100, 101, 102, 100, 101, 102, 103, 101, 102, 103, 104, 102, 103, 104, 105, 103, 104, 105, 106, 104, 105, 106, 107, 105, 106, 107, 108, 106, 107, 108, 109, 107, 108, 109, 110, 108, 109, 110, 111, 109, 110, 111, 112, 110, 111, 112, 113]
def textK (j : Nat) : List UInt8 := if j = 0 then [] else if j = 1 then [97, 98, 99] else long56
def sumK (j : Nat) : Q8 := if j = 0 then ⟨3820012610, 2566659092, 2600203464, 2574235940, 665731556, 1687917388, 2761267483, 2018687061⟩ else if j = 1 then ⟨3128432319, 2399260650, 1094795486, 1571693091, 2953011619, 2518121116, 3021012833, 4060091821⟩ else ⟨613247585, 3523623096, 3854575251, 205414457, 2738676825, 1694441831, 4142722516, 433784513⟩
def Q8.list (q : Q8) : List Int := [q.a, q.b, q.c, q.d, q.e, q.f, q.g, q.h]
theorem Q8.ext_list {p q : Q8} (h : p.list = q.list) : p = q := by
  cases p; cases q; simp [Q8.list] at h; simp [h]
theorem known0 : (sumQ []).list = [3820012610, 2566659092, 2600203464, 2574235940, 665731556, 1687917388, 2761267483, 2018687061] := by decide +kernel
theorem known1 : (sumQ [97, 98, 99]).list = [3128432319, 2399260650, 1094795486, 1571693091, 2953011619, 2518121116, 3021012833, 4060091821] := by decide +kernel
theorem known2 : (sumQ long56).list = [613247585, 3523623096, 3854575251, 205414457, 2738676825, 1694441831, 4142722516, 433784513] := by decide +kernel
theorem sumK_is (j : Nat) (h : j < 3) : sumQ (textK j) = sumK j := by
  rcases (show j = 0 ∨ j = 1 ∨ j = 2 by omega) with rfl | rfl | rfl
  · exact Q8.ext_list known0
  · exact Q8.ext_list known1
  · exact Q8.ext_list known2

theorem Rd.of_text (w : World) (e : TypeId) (T : List UInt8) (h : T.length ≤ 140737488351232) : Rd (Lib.bytesWorld w e ⟨T.toArray⟩) (some ⟨w.heap.size, 0, none⟩) T.length (grownCap w (ByteArray.mk T.toArray).size 0 e) T := by
  have hsz : (ByteArray.mk T.toArray).size = T.length := List.size_toArray
  refine ⟨rfl, by rw [hsz]; exact grownCap_ge _ _ _ _, Nat.le_trans (grownCap_le_maxLen _ _ _ _ (by unfold maxLen; omega)) (by unfold maxLen; decide), .inr ⟨w.heap.size, 0, rfl, by rw [Lib.bytesWorld_size]; omega, fun i hi => ?_⟩⟩
  rw [Nat.zero_add, Lib.bytesWorld_cell w e ⟨T.toArray⟩ i (by omega)]
set_option maxRecDepth 100000 in
set_option maxHeartbeats 4000000 in
theorem shaKnown_walk (i : Int) (w0 : (Lit.int .i64 i).wf = true) (w : World) :
    Calls Try.prog 6 #[.int .i64 i] w fun e w' => e = .returned (.bool true) ∧ Below w.heap.size w w' := by
  obtain ⟨i0, i1⟩ := wf_i64_bd w0
  clear w0
  by_cases hlo : i < 0
  · go_enter Try.func6, Try.ntmps6
    go_wp2_with fail
    refine (awake_any _).mono ?_
    rintro e v1 ⟨rfl, hb1⟩
    go_wp2_with fail
    go_ret
    exact ⟨rfl, hb1⟩
  by_cases hhi : 2 < i
  · go_enter Try.func6, Try.ntmps6
    go_wp2_with fail
    refine (awake_any _).mono ?_
    rintro e v1 ⟨rfl, hb1⟩
    go_wp2_with fail
    go_ret
    exact ⟨rfl, hb1⟩
  obtain ⟨j, rfl⟩ := Int.eq_ofNat_of_zero_le (show 0 ≤ i by omega)
  have hj3 : j < 3 := by omega
  have hj3' : (j : Int) < 3 := by omega
  have hj0 : (0 : Int) ≤ (j : Int) := by omega
  clear i0 i1
  go_enter Try.func6, Try.ntmps6
  go_wp2_with fail
  refine (awake_any _).mono ?_
  rintro e v1 ⟨rfl, hb1⟩
  go_upto_region 6 with fail
  generalize hw2 : (v1.alloc (.cells _ 9)).alloc (.cells _ 23) = v2
  have hs2 : v2.heap.size = v1.heap.size + 2 := by rw [← hw2]; simp
  have ht2 : ∀ j, j < 3 → v2.cell? ⟨v1.heap.size, j, none⟩ = some (.string ⟨(textK j).toArray⟩) := by
    rw [← hw2]; intro j h
    refine carry_alloc (new_cell ?_)
    rcases (show j = 0 ∨ j = 1 ∨ j = 2 by omega) with rfl | rfl | rfl <;> rfl
  have hk2 : ∀ j k, j < 3 → k < 8 → v2.cell? ⟨v1.heap.size + 1, j * 8 + k, none⟩ = some (.int .u32 ((sumK j).get k)) := by
    rw [← hw2]; intro j k h h8
    have e : v1.heap.size + 1 = (v1.alloc (.cells #[.string ⟨(textK 0).toArray⟩, .string ⟨(textK 1).toArray⟩, .string ⟨(textK 2).toArray⟩] 9)).heap.size := by simp
    rw [e]
    refine new_cell (w := (v1.alloc (.cells #[.string ⟨(textK 0).toArray⟩, .string ⟨(textK 1).toArray⟩, .string ⟨(textK 2).toArray⟩] 9))) ?_
    rcases (show j = 0 ∨ j = 1 ∨ j = 2 by omega) with rfl | rfl | rfl <;> (rcases lt8 h8 with rfl | rfl | rfl | rfl | rfl | rfl | rfl | rfl <;> rfl)
  have hb2 : Below w.heap.size w v2 := by rw [← hw2]; exact (hb1.alloc hb1.size _).alloc (by simp; have := hb1.size; omega) _
  clear hw2
  obtain ⟨T, hT⟩ : ∃ T, T = textK j := ⟨_, rfl⟩
  have hTl : T.length ≤ 56 := by rw [hT]; rcases (show j = 0 ∨ j = 1 ∨ j = 2 by omega) with rfl | rfl | rfl <;> decide
  have ht := ht2 j hj3
  rw [← hT] at ht
  have hcv := Lib.run_convert_string_bytes (P := Try.prog) v2 9 24 5 ⟨T.toArray⟩ Try.underlying9 Try.underlying24 Try.underlying5
  have hr3 := Rd.of_text v2 5 T (by omega)
  have hb3 : Below v2.heap.size v2 (Lib.bytesWorld v2 5 ⟨T.toArray⟩) := Lib.bytesWorld_below v2 5 ⟨T.toArray⟩
  generalize Lib.bytesWorld v2 5 ⟨T.toArray⟩ = v3 at *
  generalize grownCap v2 (ByteArray.mk T.toArray).size 0 5 = cap at *
  have hsz : (ByteArray.mk T.toArray).size = T.length := List.size_toArray
  rw [hsz] at hcv
  have HK := Lib.hid hk2
  have HS2 := Lib.hid hs2
  have HB2 := Lib.hid hb2
  have HT := Lib.hid hT
  have HR := Lib.hid hr3
  clear hs2 ht2 hk2 hb2 hb1 hT hr3 hsz
  go_wp2_with fail
  clear hcv
  refine (sum_any _ _ _ T v3 HR.out (by omega)).mono ?_
  rintro e w4 ⟨rfl, hb4⟩
  obtain ⟨L, hL⟩ : ∃ L, L = idC T := ⟨_, rfl⟩
  have hLl : L.length = 32 := by rw [hL]; exact idC_length T
  have hL1 : ∀ v ∈ L, v.oneCell' = true := by rw [hL]; exact idC_one T
  rw [show idV T = .agg L.toArray by rw [hL]; rfl]
  have HL := Lib.hid (show L.length = 32 ∧ (∀ v ∈ L, v.oneCell' = true) from ⟨hLl, hL1⟩)
  have HLD := Lib.hid hL
  clear hL hLl hL1
  rename_i K1 hK1
  refine hK1 _ _ ?_
  refine wpList_alloc rfl 33 rfl zeros32.toArray (by kernel_rfl) ?_
  simp only [Act.put, List.setIfInBounds_toArray, List.set_cons_zero, List.set_cons_succ]
  obtain ⟨w5x, hx, ht5, hm5⟩ := new_idx w4 L HL.out.1
  rw [← hx]
  refine wpList_store_mid rfl 33 (.tmp 6) (.tmp 31) rfl w4.heap.size 0 L.toArray rfl rfl ?h1 ?h2 ?h3 ?_
  case h1 => rw [show L.toArray.size = 32 from List.size_toArray.trans HL.out.1]; exact ht5
  case h2 => rw [show L.toArray.size = 32 from List.size_toArray.trans HL.out.1]; exact info_id
  case h3 => exact all_oneCell_toArray HL.out.2
  obtain ⟨w5, hy⟩ : ∃ v, v = w5x.setCells w4.heap.size 0 L := ⟨_, rfl⟩
  rw [List.toList_toArray, ← hy]
  rw [← hy] at hm5
  obtain ⟨hr5, hb5, hlt5⟩ := hm5
  obtain ⟨idb, hidb⟩ : ∃ b, b = w4.heap.size := ⟨_, rfl⟩
  rw [← hidb] at hr5 ⊢
  obtain ⟨q, hq⟩ : ∃ q, q = sumQ T := ⟨_, rfl⟩
  have HID : Hid (∀ i, i < 32 → w5.cell? ⟨idb, i, none⟩ = some (.int .u8 (q.bytes.getD i 0))) := Lib.hid fun i hi => by rw [hq]; exact cell_in hr5 (by rw [HLD.out]; exact idC_at T i hi)
  have HQ := Lib.hid (show q = sumK j by rw [hq, HT.out]; exact sumK_is j hj3)
  have hok : q.Ok := by rw [hq]; exact sumQ_ok T
  have hb345 := Below.step hb3 (Below.step hb4 hb5)
  have HKN : Hid (∀ k, k < 8 → w5.cell? ⟨v1.heap.size + 1, j * 8 + k, none⟩ = some (.int .u32 (q.get k))) := Lib.hid fun k hk => by rw [HQ.out]; exact carry_cell (HK.out j k hj3 hk) hb345
  have HB5 := Lib.hid (HB2.out.trans (hb345.mono HB2.out.size))
  clear hx hy ht5 hr5 hb5 hlt5 hidb hq hb345 hb3 hb4 HK HR HT HL HLD
  go_wp2_with fail
  go_loopw [7] (fun kv wr => ∃ k : Nat, k ≤ 8 ∧ kv = .int .i64 (k : Int) ∧ Hid (∀ p : Addr, wr.cell? p = w5.cell? p) ∧ Hid (Below w.heap.size w wr)) (fun kv _ => 8 - (intOf kv).toNat)
  case atStart => exact ⟨0, by omega, rfl, Lib.hid (fun _ => rfl), HB5.out⟩
  case round =>
    obtain ⟨k, hk, rfl, hC, hB⟩ := hrel
    by_cases hlt : k < 8
    · have hk8 : (k : Int) < 8 := by omega
      have hk0 : (0 : Int) ≤ (k : Int) := by omega
      obtain ⟨x, hx⟩ : ∃ x, x = q.get k := ⟨_, rfl⟩
      obtain ⟨o0, h0⟩ : ∃ o, o = 4 * k := ⟨_, rfl⟩
      obtain ⟨o1, h1⟩ : ∃ o, o = 4 * k + 1 := ⟨_, rfl⟩
      obtain ⟨o2, h2⟩ : ∃ o, o = 4 * k + 2 := ⟨_, rfl⟩
      obtain ⟨o3, h3⟩ : ∃ o, o = 4 * k + 3 := ⟨_, rfl⟩
      have ho := q8_ok hok k
      rw [← hx] at ho
      obtain ⟨x0, x1⟩ := ho
      obtain ⟨b0, c0⟩ : ∃ b, b = x / 16777216 := ⟨_, rfl⟩
      obtain ⟨b1, c1⟩ : ∃ b, b = x / 65536 % 256 := ⟨_, rfl⟩
      obtain ⟨b2, c2⟩ : ∃ b, b = x / 256 % 256 := ⟨_, rfl⟩
      obtain ⟨b3, c3⟩ : ∃ b, b = x % 256 := ⟨_, rfl⟩
      have d0 : wr.cell? ⟨idb, o0, none⟩ = some (.int .u8 b0) := by rw [hC.out, h0, ← Nat.add_zero (4 * k), HID.out _ (by omega), ← bytes_get q k 0 hlt (by decide), ← hx, c0]; rfl
      have d1 : wr.cell? ⟨idb, o1, none⟩ = some (.int .u8 b1) := by rw [hC.out, h1, HID.out _ (by omega), ← bytes_get q k 1 hlt (by decide), ← hx, c1]; rfl
      have d2 : wr.cell? ⟨idb, o2, none⟩ = some (.int .u8 b2) := by rw [hC.out, h2, HID.out _ (by omega), ← bytes_get q k 2 hlt (by decide), ← hx, c2]; rfl
      have d3 : wr.cell? ⟨idb, o3, none⟩ = some (.int .u8 b3) := by rw [hC.out, h3, HID.out _ (by omega), ← bytes_get q k 3 hlt (by decide), ← hx, c3]; rfl
      have dk : wr.cell? ⟨v1.heap.size + 1, j * 8 + k, none⟩ = some (.int .u32 x) := by rw [hC.out, HKN.out k hlt, hx]
      have q0 : IntKind.i64.wrap (4 * (k : Int)) = (o0 : Int) := by rw [IntWalk.i64_in _ ⟨by omega, by omega⟩]; omega
      have q1 : IntKind.i64.wrap ((o0 : Int) + 1) = (o1 : Int) := by rw [IntWalk.i64_in _ ⟨by omega, by omega⟩]; omega
      have q2 : IntKind.i64.wrap ((o0 : Int) + 2) = (o2 : Int) := by rw [IntWalk.i64_in _ ⟨by omega, by omega⟩]; omega
      have q3 : IntKind.i64.wrap ((o0 : Int) + 3) = (o3 : Int) := by rw [IntWalk.i64_in _ ⟨by omega, by omega⟩]; omega
      have l0 : (o0 : Int) < 32 := by omega
      have l1 : (o1 : Int) < 32 := by omega
      have l2 : (o2 : Int) < 32 := by omega
      have l3 : (o3 : Int) < 32 := by omega
      have z0 : (0 : Int) ≤ (o0 : Int) := by omega
      have z1 : (0 : Int) ≤ (o1 : Int) := by omega
      have z2 : (0 : Int) ≤ (o2 : Int) := by omega
      have z3 : (0 : Int) ≤ (o3 : Int) := by omega
      have HX := Lib.hid (show b0 = x / 16777216 ∧ b1 = x / 65536 % 256 ∧ b2 = x / 256 % 256 ∧ b3 = x % 256 from ⟨c0, c1, c2, c3⟩)
      clear h0 h1 h2 h3 c0 c1 c2 c3 hx
      go_wp2_with fail
      go_quiet (fail)
      have hsum : ((16777216 * (b0 % 4294967296) + 65536 * (b1 % 4294967296) + 256 * (b2 % 4294967296)) % 4294967296 + b3 % 4294967296) % 4294967296 = x := by
        obtain ⟨e0, e1, e2, e3⟩ := HX.out
        omega
      rw [hsum]
      obtain ⟨wq, hwq⟩ : ∃ wq, wq = wr.drewN nq := ⟨_, rfl⟩
      rw [← hwq]
      have dk' : wq.cell? ⟨v1.heap.size + 1, j * 8 + k, none⟩ = some (.int .u32 x) := by rw [hwq]; exact dk
      have HW := Lib.hid (show (∀ p : Addr, wq.cell? p = w5.cell? p) ∧ Below w.heap.size w wq by rw [hwq]; exact ⟨hC.out, below_drewN hB.out nq⟩)
      clear hsum hwq dk d0 d1 d2 d3 q0 q1 q2 q3 l0 l1 l2 l3 z0 z1 z2 z3
      go_wp2_with fail
      go_roundw
      case rel => exact ⟨k + 1, by omega, by go_num, HW.out.1, HW.out.2⟩
      case measure => simp [intOf]; omega
    · have hk8 : ¬ (k : Int) < 8 := by omega
      go_wp2_with fail
      go_ret
      exact ⟨rfl, hB.out⟩
end Go.Proofs.Ytcjkgegahfligaa
