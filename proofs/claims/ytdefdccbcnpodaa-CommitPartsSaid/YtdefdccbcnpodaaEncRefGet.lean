/- The walk of Get of the layer enc's reference. -/
import Derived.Test.YtdefdccbcnpodaaEncGet
import Derived.Deep.RegionWith
import Derived.Deep.DeepMust
namespace Go.Proofs.Ytdefdccbcnpodaa
open Go.ChangeShapes Go.WideShapes Go.ChangeAt Go.RowKit
set_option linter.unusedVariables false

theorem valN_step (l : List UInt8) (k : Nat) (x : UInt8) (hk : k < l.length) (hx : l.getD k 0 = x) : valN (l.take (k + 1)) = valN (l.take k) + 128 ^ k * (x.toNat % 128) := by
  have e : l.take (k + 1) = l.take k ++ [x] := by
    rw [List.take_succ_eq_append_getElem hk]
    have : l[k] = x := by rw [← hx]; simp [hk]
    rw [this]
  rw [e, valN_snoc]
  rw [List.length_take, Nat.min_eq_left (by omega)]

/-- How many numbers of 64 bits there are. -/
def M64 : Nat := 18446744073709551616
theorem M64_int : (M64 : Int) = 18446744073709551616 := rfl
theorem lt_M64 {n : Nat} (h : n < M64) : n < 18446744073709551616 := h
theorem wrap_M64 (n : Int) : IntKind.u64.wrap n = n % (M64 : Int) := wrap_u64 n
theorem ref_step (V P y q p : Nat) (hq : q = V % M64) (hp : p = P % M64) :
    IntKind.u64.wrap ((q : Int) + IntKind.u64.wrap ((p : Int) * (y : Int))) = (((V + P * y) % M64 : Nat) : Int) := by
  rw [wrap_M64, wrap_M64]
  have e : (V + P * y) % M64 = (q + (p * y) % M64) % M64 := by
    rw [hq, hp, Nat.add_mod V, Nat.mul_mod P y, Nat.mul_mod (P % M64) y, Nat.mod_mod]
  rw [e, Int.natCast_emod, Int.natCast_add, Int.natCast_emod, Int.natCast_mul]
theorem place_step (p k : Nat) (hp : p = 128 ^ k % M64) : IntKind.u64.wrap ((p : Int) * 128) = ((128 ^ (k + 1) % M64 : Nat) : Int) := by
  have e : 128 ^ (k + 1) % M64 = (p * 128) % M64 := by rw [hp, Nat.pow_succ, Nat.mod_mul_mod]
  rw [wrap_M64, e, Int.natCast_emod, Int.natCast_mul]; rfl
theorem getL_by' (l : List UInt8) (k N : Nat) (hN : N = valN (l.take (k + 1)) % M64) (hk : k < l.length) (h10 : k < 10) (hall : ∀ i, i < k → (l.getD i 0).toNat ≥ 128) (hlast : (l.getD k 0).toNat < 128) :
    getL l = if numL N = l.take (k + 1) then (N, k + 1) else (0, 0) := by
  rw [hN]; exact getL_by l k hk h10 hall hlast

set_option maxRecDepth 100000 in
set_option maxHeartbeats 1000000 in
theorem get_ref_some (n c : Nat) (l : List UInt8) (w : World) (b off : Nat) (hnc : n ≤ c) (hcap : c ≤ 9223372036854775807) (hl : n ≤ 140737488351232) (hln : l.length = n) (hrd : Rd w (some ⟨b, off, none⟩) n c l) (hpos : 0 < n)
    (hc : ∀ i, i < n → w.cell? ⟨b, off + i, none⟩ = some (.int .u8 ((l.getD i 0).toNat : Int))) :
    Calls Try.prog 72 #[.slice (some ⟨b, off, none⟩) n c] w fun e w' => e = .returned (.tuple #[.int .u64 ((getL l).1 : Int), .int .i64 ((getL l).2 : Int)]) ∧ Below w.heap.size w w' := by
  have HC := Lib.hid hc; clear hc
  have HL := Lib.hid hln; clear hln
  go_enter Try.func72, Try.ntmps72
  go_wp2
  go_loop [4, 5, 6] (fun nv pv kv => ∃ (k q p : Nat), k ≤ n ∧ k ≤ 10 ∧ kv = .int .i64 (k : Int) ∧ nv = .int .u64 (q : Int) ∧ pv = .int .u64 (p : Int) ∧ q < 18446744073709551616 ∧ p < 18446744073709551616 ∧
      Hid (q = valN (l.take k) % M64) ∧ Hid (p = 128 ^ k % M64) ∧ Hid (∀ i, i < k → (l.getD i 0).toNat ≥ 128))
    (fun _ _ kv => 10 - (intOf kv).toNat)
  case atStart => exact ⟨0, 0, 1, Nat.zero_le _, by decide, rfl, rfl, rfl, by decide, by decide, (rfl : 0 = 0 % M64), (rfl : 1 = 128 ^ 0 % M64), (fun i h => by omega : ∀ i, i < 0 → (l.getD i 0).toNat ≥ 128)⟩
  case round =>
    obtain ⟨k, q, p, hk, hk10, rfl, rfl, rfl, hq, hp, HQ, HP, HA⟩ := hrel
    by_cases hlt : k < n ∧ k < 10
    · obtain ⟨hlt, hlt2⟩ := hlt
      have hcell := HC.out k hlt
      obtain ⟨x, hx⟩ : ∃ x, l.getD k 0 = x := ⟨_, rfl⟩
      rw [hx] at hcell
      have hstep := valN_step l k x (by have := HL.out; omega) hx
      obtain ⟨x0, x1⟩ := u8_bd x
      have hr := ref_step (valN (l.take k)) (128 ^ k) (x.toNat % 128) q p HQ.out HP.out
      rw [← hstep, show ((x.toNat % 128 : Nat) : Int) = (x.toNat : Int) % 128 from by omega] at hr
      have hN : valN (l.take (k + 1)) % M64 < 18446744073709551616 := Nat.mod_lt _ (by decide)
      have HX := Lib.hid hx; clear hx
      obtain ⟨N, hNe⟩ : ∃ N, N = valN (l.take (k + 1)) % M64 := ⟨_, rfl⟩
      rw [← hNe] at hr hN
      have HN := Lib.hid hNe; clear hNe hstep
      by_cases hbig : x.toNat ≥ 128
      · have hbig' : ¬ (x.toNat : Int) < 128 := by omega
        have HA2 := Lib.hid (show ∀ i, i < k + 1 → (l.getD i 0).toNat ≥ 128 by
          intro i hi
          by_cases e : i = k
          · rw [e, HX.out]; exact hbig
          · exact HA.out i (by omega))
        obtain ⟨p2, hp2⟩ : ∃ p2, p2 = 128 ^ (k + 1) % M64 := ⟨_, rfl⟩
        have hpl : p2 < 18446744073709551616 := by rw [hp2]; exact Nat.mod_lt _ (by decide)
        have hpw := place_step p k HP.out
        rw [← hp2] at hpw
        have HP2 := Lib.hid hp2; clear hp2
        go_wp2
        exact ⟨⟨k + 1, N, p2, by omega, by omega, by go_num, rfl, rfl, hN, hpl, HN.out, HP2.out, HA2.out⟩, by simp [intOf]; omega⟩
      · have hbig' : (x.toNat : Int) < 128 := by omega
        have HB := Lib.hid (getL_by' l k N HN.out (by have := HL.out; omega) hlt2 HA.out (by rw [HX.out]; omega))
        have hpart : ∀ W : World, Below w.heap.size w W → (convert 31 9 (.slice (some ⟨b, off, none⟩) (k + 1) c)).run Try.prog W = .ok (.string ⟨(l.take (k + 1)).toArray⟩) W := by
          intro W hW
          have := ((hrd.below hW).part 0 (k + 1) (by omega) (by omega)).str (P := Try.prog) 31 5 9 Try.underlying31 Try.underlying5 Try.underlying9
          simpa [S] using this
        have htl := toList_bytes
        have HT := Lib.hid hpart; clear hpart
        have hs0 := HT.out w.drew ((Below.refl _ _).drew)
        have HF : getL l = (0, 0) ∨ getL l = (N, k + 1) := by
          rw [HB.out]; split
          · exact .inr rfl
          · exact .inl rfl
        cases he : (numL N == l.take (k + 1)) with
        | true =>
          have he2 : numL N = l.take (k + 1) := by simpa using he
          have HB2 := Lib.hid (HB.out.trans (if_pos he2)); clear he2 HF
          go_wp2
          have j1 : (k : Int) + 1 ≤ (c : Int) := by omega
          have j2 : (0 : Int) ≤ (k : Int) + 1 := by omega
          have j3 : IntKind.i64.wrap ((k : Int) + 1) = (k : Int) + 1 := IntWalk.i64_in _ (by omega)
          have j4 : ((k : Int) + 1).toNat = k + 1 := by omega
          go_region_with ((go_at_call 29; refine (num_ref N hN _).mono ?_; rintro e w1 ⟨v, rfl, hown, hb⟩; obtain ⟨a', c', rfl, hrd'⟩ := Rd.of_own hown; have hs1 := hrd'.str (P := Try.prog) 31 5 9 Try.underlying31 Try.underlying5 Try.underlying9; unfold S at hs1; have hs2 := HT.out w1 (Below.step ((Below.refl _ w).drew) hb)))
          all_goals
            clear j3 j4 j1 j2
            go_wp2
            go_ret2
            refine ⟨?_, Below.step ((Below.refl _ w).drew) hb⟩
            rw [HB2.out]; exact ret_ii rfl (by simp)
        | false =>
          have he2 : ¬ numL N = l.take (k + 1) := by simpa using he
          have HB2 := Lib.hid (HB.out.trans (if_neg he2)); clear he2 HF
          go_wp2
          have j1 : (k : Int) + 1 ≤ (c : Int) := by omega
          have j2 : (0 : Int) ≤ (k : Int) + 1 := by omega
          have j3 : IntKind.i64.wrap ((k : Int) + 1) = (k : Int) + 1 := IntWalk.i64_in _ (by omega)
          have j4 : ((k : Int) + 1).toNat = k + 1 := by omega
          go_region_with ((go_at_call 29; refine (num_ref N hN _).mono ?_; rintro e w1 ⟨v, rfl, hown, hb⟩; obtain ⟨a', c', rfl, hrd'⟩ := Rd.of_own hown; have hs1 := hrd'.str (P := Try.prog) 31 5 9 Try.underlying31 Try.underlying5 Try.underlying9; unfold S at hs1; have hs2 := HT.out w1 (Below.step ((Below.refl _ w).drew) hb)))
          all_goals
            clear j3 j4 j1 j2
            go_wp2
            go_ret2
            refine ⟨?_, Below.step ((Below.refl _ w).drew) hb⟩
            rw [HB2.out]; rfl
    · have HN := Lib.hid (getL_no l (fun i h1 h2 => HA.out i (by have := HL.out; omega)))
      by_cases hkn : k < n
      · have hk9 : ¬ k < 10 := by omega
        clear hlt
        go_wp2
        go_ret2
        exact ⟨by rw [HN.out]; rfl, Below.refl _ _⟩
      · clear hlt
        go_wp2
        go_ret2
        exact ⟨by rw [HN.out]; rfl, Below.refl _ _⟩

theorem get_ref_zero (a : Option Addr) (c : Nat) (w : World) (hcap : c ≤ 9223372036854775807) :
    Calls Try.prog 72 #[.slice a 0 c] w fun e w' => e = .returned (.tuple #[.int .u64 0, .int .i64 0]) ∧ w = w' := by
  go_enter Try.func72, Try.ntmps72
  go_wp2
  go_rounds 1
  go_ret2
  exact ⟨rfl, rfl⟩

theorem get_ref (a : Option Addr) (n c : Nat) (l : List UInt8) (w : World) (hr : Rd w a n c l) (hl : n ≤ 140737488351232) :
    Calls Try.prog 72 #[.slice a n c] w fun e w' => e = .returned (.tuple #[.int .u64 ((getL l).1 : Int), .int .i64 ((getL l).2 : Int)]) ∧ Below w.heap.size w w' := by
  rcases Nat.eq_zero_or_pos n with h0 | h0
  · subst h0
    have : l = [] := List.eq_nil_of_length_eq_zero hr.len
    subst this
    exact (get_ref_zero a c w hr.cap).mono fun e w' ⟨he, hw⟩ => ⟨he, hw ▸ Below.refl _ _⟩
  · rcases hr.cells with h | ⟨b, off, rfl, _, hc⟩
    · omega
    · exact get_ref_some n c l w b off hr.le hr.cap hl hr.len hr h0 hc
end Go.Proofs.Ytdefdccbcnpodaa
