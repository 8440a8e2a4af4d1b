/- The walks of Key, of the layer ops and of its reference. -/
import Derived.Test.YtofadpodlaakbaaGreatJ1
import Derived.Lib.Bytealg
import Derived.Laws.Externs
namespace Go.Proofs.YtofadpodlaakbaaGreat
open Go.ChangeShapes Go.WideShapes Go.ChangeAt Go.RowKit
set_option linter.unusedVariables false
def signs : ByteArray := ⟨#[97, 98, 99, 100, 101, 102, 103, 104, 105, 106, 107, 108, 109, 110, 111, 112, 113, 114, 115, 116, 117, 118, 119, 120, 121, 122, 48, 49, 50, 51, 52, 53, 54, 55, 56, 57]⟩
theorem signs_all : ∀ x : Fin 256, decide (Lib.indexByte signs.data.toList (UInt8.ofNat x.val) < 0) = !isC (UInt8.ofNat x.val) := by decide +kernel
theorem signs_c (c : UInt8) : decide (Lib.indexByte signs.data.toList c < 0) = !isC c := by
 have := signs_all ⟨c.toNat, c.toNat_lt⟩
 simpa using this
set_option maxRecDepth 100000 in
theorem slite_any (s : ByteArray) (c : Int) (w : World) :
  Calls Tryz.prog 119 #[.string s, .int .u8 c] w fun e w' => e = .returned (.int .i64 (Lib.indexByte s.data.toList c.toNat.toUInt8)) ∧ w' = w := by
 go_enter Tryz.func119, Tryz.ntmps119
 go_wp2
 rw [run_callFunc_extern Tryz.func125 (by kernel_rfl) (by kernel_rfl) (by kernel_rfl) (e := Extern.BytealgIndexByte.indexByte) (by kernel_rfl), Lib.run_indexByteString]
 simp only [Result.andThen]
 rw [Oper.upon_value]
 go_wp2
 go_ret
 exact ⟨rfl, rfl⟩
theorem index_any (s : ByteArray) (c : Int) (w : World) :
  Calls Tryz.prog 111 #[.string s, .int .u8 c] w fun e w' => e = .returned (.int .i64 (Lib.indexByte s.data.toList c.toNat.toUInt8)) ∧ w' = w := by
 go_enter Tryz.func111, Tryz.ntmps111
 go_wp2_with fail
 refine (slite_any s c w).mono ?_
 rintro e w' ⟨rfl, rfl⟩
 go_wp2_with fail
 go_ret
 exact ⟨rfl, rfl⟩
set_option maxRecDepth 100000 in
set_option maxHeartbeats 1000000 in
theorem key_any (l : List UInt8) (w : World) (hl : l.length ≤ 9223372036854775807) : Calls Tryz.prog 84 #[.string ⟨l.toArray⟩] w fun e w' => e = .returned (.bool (keyB l)) ∧ w' = w := by
 obtain ⟨s, hs⟩ : ∃ s : ByteArray, s = ⟨l.toArray⟩ := ⟨_, rfl⟩
 rw [← hs]
 obtain ⟨n, hn⟩ : ∃ n, n = l.length := ⟨_, rfl⟩
 have hsz : s.size = n := by rw [hs, hn]; simp [ByteArray.size]
 have hn2 : n ≤ 9223372036854775807 := by omega
 have HS := Lib.hid (show s = ⟨l.toArray⟩ ∧ n = l.length from ⟨hs, hn⟩)
 clear hs hn hl
 go_enter Tryz.func84, Tryz.ntmps84
 go_wp2_with fail
 go_loopw [3, 6] (fun v3 v6 wr => ∃ i : Nat, i ≤ n ∧ v6 = .int .i64 (i : Int) ∧ wr = w ∧ Hid ((l.take i).all isC = true)) (fun _ v6 _ => n - (intOf v6).toNat)
 case atStart => exact ⟨0, Nat.zero_le _, rfl, rfl, Lib.hid rfl⟩
 case round =>
  obtain ⟨i, hi, rfl, rfl, hA⟩ := hrel
  by_cases hin : i < n
  case neg =>
   obtain rfl : i = n := by omega
   have hall : l.all isC = true := by have := hA.out; rwa [List.take_of_length_le (by rw [← HS.out.2]; omega)] at this
   have HA := Lib.hid hall
   clear hall hA
   by_cases h0 : i = 0
   ·subst h0
    have e0 : s.toList.isEmpty = true := by
     have : l = [] := List.eq_nil_of_length_eq_zero HS.out.2.symm
     rw [HS.out.1, this, toList_bytes]; rfl
    go_wp2_with fail
    go_ret
    exact ⟨retb (by have : l = [] := List.eq_nil_of_length_eq_zero HS.out.2.symm; rw [this]; rfl), rfl⟩
   have e0 : s.toList.isEmpty = false := by
    rw [HS.out.1, toList_bytes]
    cases hl : l with
    | nil => exfalso; apply h0; rw [HS.out.2, hl]; rfl
    | cons x r => rfl
   by_cases h8 : (i : Int) ≤ 8
   ·go_wp2_with fail
    go_ret
    exact ⟨retb (by unfold keyB; rw [HA.out, ← HS.out.2]; simp; omega), rfl⟩
   ·go_wp2_with fail
    go_ret
    exact ⟨retb (by unfold keyB; rw [HA.out, ← HS.out.2]; simp; omega), rfl⟩
  have hlt : i < s.size := by omega
  have hix := index_any signs (((s[i]'hlt).toNat : Nat) : Int) wr
  have hc : s[i]'hlt = l.getD i 0 := by
   obtain ⟨h1, h2⟩ := HS.out
   subst h1
   rw [List.getD_eq_getElem?_getD, List.getElem?_eq_getElem (by omega)]
   rfl
  obtain ⟨r, hr⟩ : ∃ r, r = Lib.indexByte signs.data.toList ((((s[i]'hlt).toNat : Nat) : Int).toNat.toUInt8) := ⟨_, rfl⟩
  have hr2 : decide (r < 0) = !isC (l.getD i 0) := by
   rw [hr, hc, show ((((l.getD i 0).toNat : Nat) : Int).toNat.toUInt8) = l.getD i 0 by simp]
   exact signs_c _
  rw [← hr] at hix
  have HIX := Lib.hid hix
  have HT := Lib.hid (show (l.take (i + 1)).all isC = isC (l.getD i 0) from by
   have h1 : l.take (i + 1) = l.take i ++ [l.getD i 0] := by
    rw [List.take_add_one, List.getD_eq_getElem?_getD, List.getElem?_eq_getElem (by have := HS.out.2; omega)]; rfl
   rw [h1, List.all_append, hA.out]; simp)
  have HN := Lib.hid (show isC (l.getD i 0) = false → keyB l = false from fun h => by
   have h1 : l.all isC = false := by
    rw [List.all_eq_false]
    refine ⟨l.getD i 0, ?_, by rw [h]; decide⟩
    rw [List.getD_eq_getElem?_getD, List.getElem?_eq_getElem (by have := HS.out.2; omega)]
    exact List.getElem_mem _
   unfold keyB; rw [h1]; rfl)
  clear hix hc hr hA
  cases hb : isC (l.getD i 0) with
  | false =>
   rw [hb] at hr2
   have hr3 : r < 0 := of_decide_eq_true hr2
   have HB := Lib.hid (HN.out hb)
   clear hr2 hb HT HN
   go_wp2_with fail
   refine HIX.out.mono ?_
   rintro e w' ⟨rfl, rfl⟩
   go_wp2_with fail
   go_ret
   exact ⟨retb HB.out.symm, rfl⟩
  | true =>
   rw [hb] at hr2
   have hr3 : ¬ r < 0 := of_decide_eq_false hr2
   have HB := Lib.hid (HT.out.trans hb)
   clear hr2 hb HT HN
   go_wp2_with fail
   refine HIX.out.mono ?_
   rintro e w' ⟨rfl, rfl⟩
   go_wp2_with fail
   refine ⟨⟨i + 1, by omega, rfl, by first | rfl | trivial, HB⟩, ?_⟩
   simp [intOf]; omega
set_option maxRecDepth 100000 in
set_option maxHeartbeats 2000000 in
theorem key_ref (l : List UInt8) (w : World) (hl : l.length ≤ 9223372036854775807) : Calls Tryz.prog 82 #[.string ⟨l.toArray⟩] w fun e w' => e = .returned (.bool (keyB l)) ∧ w' = w := by
 obtain ⟨s, hs⟩ : ∃ s : ByteArray, s = ⟨l.toArray⟩ := ⟨_, rfl⟩
 rw [← hs]
 obtain ⟨n, hn⟩ : ∃ n, n = l.length := ⟨_, rfl⟩
 have hsz : s.size = n := by rw [hs, hn]; simp [ByteArray.size]
 have hn2 : n ≤ 9223372036854775807 := by omega
 have HS := Lib.hid (show s = ⟨l.toArray⟩ ∧ n = l.length from ⟨hs, hn⟩)
 clear hs hn hl
 go_enter Tryz.func82, Tryz.ntmps82
 go_wp2_with fail
 go_loopw [3] (fun v3 wr => ∃ i : Nat, i ≤ n ∧ v3 = .int .i64 (i : Int) ∧ wr = w ∧ Hid ((l.take i).all isC = true)) (fun v3 _ => n - (intOf v3).toNat)
 case atStart => exact ⟨0, Nat.zero_le _, rfl, rfl, Lib.hid rfl⟩
 case round =>
  obtain ⟨i, hi, rfl, rfl, hA⟩ := hrel
  by_cases hin : i < n
  case neg =>
   obtain rfl : i = n := by omega
   have hall : l.all isC = true := by have := hA.out; rwa [List.take_of_length_le (by rw [← HS.out.2]; omega)] at this
   have HA := Lib.hid hall
   clear hall hA
   by_cases h0 : i < 1
   ·go_wp2_with fail
    go_ret
    exact ⟨retb (by unfold keyB; rw [HA.out, ← HS.out.2]; simp; omega), rfl⟩
   by_cases h8 : (i : Int) ≤ 8
   ·go_wp2_with fail
    go_ret
    exact ⟨retb (by unfold keyB; rw [HA.out, ← HS.out.2]; simp; omega), rfl⟩
   ·go_wp2_with fail
    go_ret
    exact ⟨retb (by unfold keyB; rw [HA.out, ← HS.out.2]; simp; omega), rfl⟩
  have hlt : i < s.size := by omega
  have hc : s[i]'hlt = l.getD i 0 := by
   obtain ⟨h1, h2⟩ := HS.out
   subst h1
   rw [List.getD_eq_getElem?_getD, List.getElem?_eq_getElem (by omega)]
   rfl
  obtain ⟨x, hx⟩ : ∃ x, x = (l.getD i 0).toNat := ⟨_, rfl⟩
  have HC : (s[i]'hlt).toNat = x := by rw [hc, hx]
  have HT := Lib.hid (show (l.take (i + 1)).all isC = isC (l.getD i 0) from by
   have h1 : l.take (i + 1) = l.take i ++ [l.getD i 0] := by
    rw [List.take_add_one, List.getD_eq_getElem?_getD, List.getElem?_eq_getElem (by have := HS.out.2; omega)]; rfl
   rw [h1, List.all_append, hA.out]; simp)
  have HN := Lib.hid (show isC (l.getD i 0) = false → keyB l = false from fun h => by
   have h1 : l.all isC = false := by
    rw [List.all_eq_false]
    refine ⟨l.getD i 0, ?_, by rw [h]; decide⟩
    rw [List.getD_eq_getElem?_getD, List.getElem?_eq_getElem (by have := HS.out.2; omega)]
    exact List.getElem_mem _
   unfold keyB; rw [h1]; rfl)
  have HX := Lib.hid (show isC (l.getD i 0) = isN x from by rw [hx]; rfl)
  clear hc hA hx
  by_cases h1 : 97 ≤ (x : Int) ∧ (x : Int) ≤ 122
  ·have h2 := h1.1
   have h3 := h1.2
   have HB := Lib.hid (HT.out.trans (HX.out.trans (show isN x = true by unfold isN; simp; omega)))
   clear HT HN HX h1
   go_wp2_with fail
   refine ⟨⟨i + 1, by omega, rfl, by first | rfl | trivial, HB⟩, ?_⟩
   simp [intOf]; omega
  by_cases h2 : 48 ≤ (x : Int) ∧ (x : Int) ≤ 57
  ·have h3 := h2.1
   have h4 := h2.2
   have h5 : ¬ 97 ≤ (x : Int) := by omega
   have HB := Lib.hid (HT.out.trans (HX.out.trans (show isN x = true by unfold isN; simp; omega)))
   clear HT HN HX h1 h2
   go_wp2_with fail
   refine ⟨⟨i + 1, by omega, rfl, by first | rfl | trivial, HB⟩, ?_⟩
   simp [intOf]; omega
  have HB := Lib.hid (HN.out (HX.out.trans (show isN x = false by unfold isN; simp; omega)))
  clear HT HN HX
  by_cases g1 : 97 ≤ (x : Int)
  ·have g2 : ¬ (x : Int) ≤ 122 := by omega
   have g3 : 48 ≤ (x : Int) := by omega
   have g4 : ¬ (x : Int) ≤ 57 := by omega
   clear h1 h2
   go_wp2_with fail
   go_ret
   exact ⟨retb HB.out.symm, rfl⟩
  by_cases g3 : 48 ≤ (x : Int)
  ·have g4 : ¬ (x : Int) ≤ 57 := by omega
   clear h1 h2
   go_wp2_with fail
   go_ret
   exact ⟨retb HB.out.symm, rfl⟩
  ·clear h1 h2
   go_wp2_with fail
   go_ret
   exact ⟨retb HB.out.symm, rfl⟩
end Go.Proofs.YtofadpodlaakbaaGreat
