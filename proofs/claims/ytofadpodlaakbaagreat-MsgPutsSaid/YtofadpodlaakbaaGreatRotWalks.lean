/- The walks of the layer rot and of its reference: what each function answers. -/
import Derived.Test.YtofadpodlaakbaaGreatChecked
import Derived.Test.YtofadpodlaakbaaGreatJ1
import Derived.Test.YtofadpodlaakbaaGreatRotPlain
import Derived.WalkKit
import Derived.ProofKit
import Derived.OpenShut
import Derived.WalkLawsBesides
import Derived.WalkSpells
import Derived.IntWalk
import Derived.Outline
import Derived.Handy
import Derived.Deep.QuietTactic
import Derived.BigQuiet
import Derived.WalkSmall
import Derived.Laws.Cover3
namespace Go.Proofs.YtofadpodlaakbaaGreat
open Go.ChangeShapes Go.WideShapes Go.ChangeAt Go.RowKit
set_option linter.unusedVariables false

theorem tmod_u64_32 (n : Int) : (IntKind.u64.wrap n).tmod 32 = n % 32 := by
  rw [wrap_u64, Int.tmod_eq_emod_of_nonneg (Int.emod_nonneg _ (by decide))]; omega
theorem tmod32 (n : Int) : -31 ≤ n.tmod 32 ∧ n.tmod 32 ≤ 31 ∧ Hid ((n.tmod 32 < 0 → n.tmod 32 + 32 = n % 32) ∧ (0 ≤ n.tmod 32 → n.tmod 32 = n % 32)) := by
  have h := Int.tmod_add_mul_tdiv n 32
  have a := Int.tmod_lt_of_pos n (show (0 : Int) < 32 by decide)
  have b := Int.lt_tmod_of_pos n (show (0 : Int) < 32 by decide)
  exact ⟨by omega, by omega, ⟨fun _ => by omega, fun _ => by omega⟩⟩

theorem right_any (x n : Int) (w : World) (hx : 0 ≤ x) (hx2 : x ≤ 4294967295) :
    Calls Tryz.prog 116 #[.int .u32 x, .int .i64 n] w fun e w' => e = .returned (.int .u32 (right x n)) ∧ w = w' := by
  have hk := tmod_u64_32 n
  have h0 : 0 ≤ n % 32 := by omega
  have h1 : n % 32 ≤ 31 := by omega
  have h2 : (32 - n % 32) ≤ 32 := by omega
  go_enter Tryz.func116, Tryz.ntmps116
  go_wp2
  go_ret
  exact ⟨ret1 (right_of x n (n % 32) _ hx hx2 rfl rfl), rfl⟩

theorem right_ref (x n : Int) (w : World) (hx : 0 ≤ x) (hx2 : x ≤ 4294967295) :
    Calls Tryz.prog 107 #[.int .u32 x, .int .i64 n] w fun e w' => e = .returned (.int .u32 (right x n)) ∧ w = w' := by
  obtain ⟨hb, hb2, Hm⟩ := tmod32 n
  by_cases h : n.tmod 32 < 0
  · go_enter Tryz.func107, Tryz.ntmps107
    go_wp2
    go_ret
    exact ⟨ret1 (right_of x n (n.tmod 32 + 32) _ hx hx2 (by have := Hm.out; omega) (by omega)), rfl⟩
  · go_enter Tryz.func107, Tryz.ntmps107
    go_wp2
    go_ret
    exact ⟨ret1 (right_of x n (n.tmod 32) _ hx hx2 (by have := Hm.out; omega) (by omega)), rfl⟩

theorem pick_any (y a b : Int) (w : World) :
    Calls Tryz.prog 93 #[.int .u32 y, .int .u32 a, .int .u32 b] w fun e w' => e = .returned (.int .u32 (pick y a b)) ∧ w = w' := by
  go_enter Tryz.func93, Tryz.ntmps93
  go_wp2
  go_ret
  exact ⟨ret1 (pick_of y a b), rfl⟩

theorem most_any (a b c : Int) (w : World) :
    Calls Tryz.prog 94 #[.int .u32 a, .int .u32 b, .int .u32 c] w fun e w' => e = .returned (.int .u32 (most a b c)) ∧ w = w' := by
  go_enter Tryz.func94, Tryz.ntmps94
  go_wp2
  go_ret
  exact ⟨ret1 (most_of a b c), rfl⟩

theorem pick_ref_any (y a b : Int) (w : World) :
    Calls Tryz.prog 108 #[.int .u32 y, .int .u32 a, .int .u32 b] w fun e w' => e = .returned (.int .u32 (pick y a b)) ∧ w = w' := by
  go_enter Tryz.func108, Tryz.ntmps108
  go_wp2
  go_ret
  exact ⟨ret1 (pick_ref y a b), rfl⟩

theorem most_ref_any (a b c : Int) (w : World) :
    Calls Tryz.prog 109 #[.int .u32 a, .int .u32 b, .int .u32 c] w fun e w' => e = .returned (.int .u32 (most a b c)) ∧ w = w' := by
  go_enter Tryz.func109, Tryz.ntmps109
  go_wp2
  go_ret
  exact ⟨ret1 (most_ref a b c), rfl⟩

/-- The bytes of a word, as a value. -/
abbrev fourV (x : Int) : Value := .agg #[.int .u8 (x / 16777216), .int .u8 (x / 65536 % 256), .int .u8 (x / 256 % 256), .int .u8 (x % 256)]

theorem four_any (x : Int) (w : World) (hx : 0 ≤ x) (hx2 : x ≤ 4294967295) :
    Calls Tryz.prog 75 #[.int .u32 x] w fun e w' => e = .returned (fourV x) ∧ Below w.heap.size w w' := by
  go_enter Tryz.func75, Tryz.ntmps75
  go_wp2
  go_rounds 5
  exact bodyPost_ret (v := fourV x) (by simp [results, Tryz.results75, go_sem]) rfl ⟨rfl, by go_grown⟩

theorem four_ref (x : Int) (w : World) (hx : 0 ≤ x) (hx2 : x ≤ 4294967295) :
    Calls Tryz.prog 81 #[.int .u32 x] w fun e w' => e = .returned (fourV x) ∧ Below w.heap.size w w' := by
  go_enter Tryz.func81, Tryz.ntmps81
  go_wp2
  exact bodyPost_ret (v := fourV x) (by simp [results, Tryz.results81, go_sem]) rfl ⟨rfl, by go_grown⟩

/-- The eight bytes of a long word, as a value. -/
abbrev longV (x : Int) : Value := .agg #[.int .u8 (x / 72057594037927936), .int .u8 (x / 281474976710656 % 256), .int .u8 (x / 1099511627776 % 256), .int .u8 (x / 4294967296 % 256), .int .u8 (x / 16777216 % 256), .int .u8 (x / 65536 % 256), .int .u8 (x / 256 % 256), .int .u8 (x % 256)]

theorem long_any (x : Int) (w : World) (hx : 0 ≤ x) (hx2 : x ≤ 18446744073709551615) :
    Calls Tryz.prog 89 #[.int .u64 x] w fun e w' => e = .returned (longV x) ∧ Below w.heap.size w w' := by
  go_enter Tryz.func89, Tryz.ntmps89
  go_wp2
  go_rounds 9
  exact bodyPost_ret (v := longV x) (by simp [results, Tryz.results89, go_sem]) rfl ⟨rfl, by go_grown⟩

theorem long_ref_eq (x : Int) (hx : 0 ≤ x) (hx2 : x ≤ 18446744073709551615) :
    (Value.agg #[.int .u8 (x / 256 / 256 / 256 / 256 / 256 / 256 / 256 % 256), .int .u8 (x / 256 / 256 / 256 / 256 / 256 / 256 % 256), .int .u8 (x / 256 / 256 / 256 / 256 / 256 % 256),
      .int .u8 (x / 256 / 256 / 256 / 256 % 256), .int .u8 (x / 256 / 256 / 256 % 256), .int .u8 (x / 256 / 256 % 256), .int .u8 (x / 256 % 256), .int .u8 (x % 256)]) = longV x := by
  have e1 : x / 256 / 256 / 256 / 256 / 256 / 256 / 256 % 256 = x / 72057594037927936 := by omega
  have e2 : x / 256 / 256 / 256 / 256 / 256 / 256 % 256 = x / 281474976710656 % 256 := by omega
  have e3 : x / 256 / 256 / 256 / 256 / 256 % 256 = x / 1099511627776 % 256 := by omega
  have e4 : x / 256 / 256 / 256 / 256 % 256 = x / 4294967296 % 256 := by omega
  have e5 : x / 256 / 256 / 256 % 256 = x / 16777216 % 256 := by omega
  have e6 : x / 256 / 256 % 256 = x / 65536 % 256 := by omega
  rw [e1, e2, e3, e4, e5, e6]

theorem long_ref (x : Int) (w : World) (hx : 0 ≤ x) (hx2 : x ≤ 18446744073709551615) :
    Calls Tryz.prog 103 #[.int .u64 x] w fun e w' => e = .returned (longV x) ∧ Below w.heap.size w w' := by
  go_enter Tryz.func103, Tryz.ntmps103
  go_wp2
  go_rounds 9
  exact bodyPost_ret (v := longV x) (by rw [← long_ref_eq x hx hx2]; simp [results, Tryz.results103, go_sem]) rfl ⟨rfl, by go_grown⟩

/-- The word of four bytes from a place on. -/
def wordAt (l : List UInt8) (p : Int) : Int :=
  if 0 ≤ p ∧ p + 4 ≤ l.length then wordOf (l.getD p.toNat 0).toNat (l.getD (p.toNat + 1) 0).toNat (l.getD (p.toNat + 2) 0).toNat (l.getD (p.toNat + 3) 0).toNat else 0
/-- Are there four bytes from a place on? -/
def wordIs (l : List UInt8) (p : Int) : Bool := decide (0 ≤ p ∧ p + 4 ≤ l.length)
theorem wordAt_lo (l : List UInt8) (p : Int) : 0 ≤ wordAt l p := by
  unfold wordAt wordOf; split
  · omega
  · exact Int.le_refl _
theorem wordAt_hi (l : List UInt8) (p : Int) : wordAt l p ≤ 4294967295 := by
  unfold wordAt wordOf; split
  · have a := u8_bd (l.getD p.toNat 0)
    have b := u8_bd (l.getD (p.toNat + 1) 0)
    have c := u8_bd (l.getD (p.toNat + 2) 0)
    have d := u8_bd (l.getD (p.toNat + 3) 0)
    omega
  · decide

theorem word_core (b off n c p : Nat) (x0 x1 x2 x3 : Int) (w : World) (hp : p + 4 ≤ n) (hn : n ≤ c) (hn2 : n ≤ 140737488351232) (hcap : c ≤ 9223372036854775807)
    (b0 : 0 ≤ x0) (b0' : x0 ≤ 255) (b1 : 0 ≤ x1) (b1' : x1 ≤ 255) (b2 : 0 ≤ x2) (b2' : x2 ≤ 255) (b3 : 0 ≤ x3) (b3' : x3 ≤ 255)
    (hc0 : w.cell? ⟨b, off + p, none⟩ = some (.int .u8 x0)) (hc1 : w.cell? ⟨b, off + p + 1, none⟩ = some (.int .u8 x1))
    (hc2 : w.cell? ⟨b, off + p + 2, none⟩ = some (.int .u8 x2)) (hc3 : w.cell? ⟨b, off + p + 3, none⟩ = some (.int .u8 x3)) :
    Calls Tryz.prog 114 #[.slice (some ⟨b, off, none⟩) n c, .int .i64 (p : Int)] w fun e w' => e = .returned (.tuple #[.int .u32 (wordOf x0 x1 x2 x3), .bool true]) ∧ Below w.heap.size w w' := by
  have har : ∀ c, (Instr.arrayAt 105 (.slice (some ⟨b, off + p, none⟩) 4 c)).run Tryz.prog w = .ok (.pointer (some ⟨b, off + p, none⟩)) w := fun c => run_arrayAt (P := Tryz.prog) w 105 5 4 _ 4 c Tryz.underlying105 (by decide)
  go_enter Tryz.func114, Tryz.ntmps114
  go_wp2
  go_ret2
  exact ⟨ret_i (word_of x0 x1 x2 x3 ⟨b0, b0'⟩ ⟨b1, b1'⟩ ⟨b2, b2'⟩ ⟨b3, b3'⟩), by go_grown⟩

theorem word_core_ref (b off n c p : Nat) (x0 x1 x2 x3 : Int) (w : World) (hp : p + 4 ≤ n) (hn : n ≤ c) (hn2 : n ≤ 140737488351232) (hcap : c ≤ 9223372036854775807)
    (b0 : 0 ≤ x0) (b0' : x0 ≤ 255) (b1 : 0 ≤ x1) (b1' : x1 ≤ 255) (b2 : 0 ≤ x2) (b2' : x2 ≤ 255) (b3 : 0 ≤ x3) (b3' : x3 ≤ 255)
    (hc0 : w.cell? ⟨b, off + p, none⟩ = some (.int .u8 x0)) (hc1 : w.cell? ⟨b, off + (p + 1), none⟩ = some (.int .u8 x1))
    (hc2 : w.cell? ⟨b, off + (p + 2), none⟩ = some (.int .u8 x2)) (hc3 : w.cell? ⟨b, off + (p + 3), none⟩ = some (.int .u8 x3)) :
    Calls Tryz.prog 117 #[.slice (some ⟨b, off, none⟩) n c, .int .i64 (p : Int)] w fun e w' => e = .returned (.tuple #[.int .u32 (wordOf x0 x1 x2 x3), .bool true]) ∧ Below w.heap.size w w' := by
  go_enter Tryz.func117, Tryz.ntmps117
  go_wp2
  go_quiet (fail)
  go_wp2
  go_ret2
  exact ⟨rfl, below_drewN (Below.refl _ _) _⟩

theorem word_out (a : Option Addr) (n c : Nat) (p : Int) (w : World) (hn : n ≤ 140737488351232) (hp : p < 0 ∨ n < p + 4) (hp1 : -9223372036854775808 ≤ p) (hp2 : p ≤ 9223372036854775807) :
    Calls Tryz.prog 114 #[.slice a n c, .int .i64 p] w fun e w' => e = .returned (.tuple #[.int .u32 0, .bool false]) ∧ Below w.heap.size w w' := by
  by_cases h : p < 0
  · go_enter Tryz.func114, Tryz.ntmps114
    go_wp2
    go_ret2
    exact ⟨rfl, by go_grown⟩
  · have h2 : (n : Int) - 4 < p := by omega
    clear hp
    go_enter Tryz.func114, Tryz.ntmps114
    go_wp2
    go_ret2
    exact ⟨rfl, by go_grown⟩

theorem word_out_ref (a : Option Addr) (n c : Nat) (p : Int) (w : World) (hn : n ≤ 140737488351232) (hp : p < 0 ∨ n < p + 4) (hp1 : -9223372036854775808 ≤ p) (hp2 : p ≤ 9223372036854775807) :
    Calls Tryz.prog 117 #[.slice a n c, .int .i64 p] w fun e w' => e = .returned (.tuple #[.int .u32 0, .bool false]) ∧ Below w.heap.size w w' := by
  by_cases h : p < 0
  · go_enter Tryz.func117, Tryz.ntmps117
    go_wp2
    go_ret2
    exact ⟨rfl, by go_grown⟩
  · have h2 : (n : Int) - 4 < p := by omega
    clear hp
    go_enter Tryz.func117, Tryz.ntmps117
    go_wp2
    go_ret2
    exact ⟨rfl, by go_grown⟩

theorem word_tells (w : World) (a : Option Addr) (n c : Nat) (l : List UInt8) (p : Int) (hr : Rd w a n c l) (hn2 : n ≤ 140737488351232) (hp1 : -9223372036854775808 ≤ p) (hp2 : p ≤ 9223372036854775807) (F : Nat)
    (hin : ∀ (b off p : Nat) (x0 x1 x2 x3 : Int), p + 4 ≤ n → 0 ≤ x0 → x0 ≤ 255 → 0 ≤ x1 → x1 ≤ 255 → 0 ≤ x2 → x2 ≤ 255 → 0 ≤ x3 → x3 ≤ 255 →
      w.cell? ⟨b, off + p, none⟩ = some (.int .u8 x0) → w.cell? ⟨b, off + (p + 1), none⟩ = some (.int .u8 x1) → w.cell? ⟨b, off + (p + 2), none⟩ = some (.int .u8 x2) → w.cell? ⟨b, off + (p + 3), none⟩ = some (.int .u8 x3) →
      Calls Tryz.prog F #[.slice (some ⟨b, off, none⟩) n c, .int .i64 (p : Int)] w fun e w' => e = .returned (.tuple #[.int .u32 (wordOf x0 x1 x2 x3), .bool true]) ∧ Below w.heap.size w w')
    (hout : p < 0 ∨ n < p + 4 → Calls Tryz.prog F #[.slice a n c, .int .i64 p] w fun e w' => e = .returned (.tuple #[.int .u32 0, .bool false]) ∧ Below w.heap.size w w') :
    Calls Tryz.prog F #[.slice a n c, .int .i64 p] w fun e w' => e = .returned (.tuple #[.int .u32 (wordAt l p), .bool (wordIs l p)]) ∧ Below w.heap.size w w' := by
  by_cases h : 0 ≤ p ∧ p + 4 ≤ l.length
  · have e1 : wordIs l p = true := by unfold wordIs; exact decide_eq_true h
    have e2 : wordAt l p = wordOf (l.getD p.toNat 0).toNat (l.getD (p.toNat + 1) 0).toNat (l.getD (p.toNat + 2) 0).toNat (l.getD (p.toNat + 3) 0).toNat := by unfold wordAt; rw [if_pos h]
    rw [e1, e2]
    obtain ⟨q, rfl⟩ := Int.eq_ofNat_of_zero_le h.1
    have hl := hr.len
    rcases hr.cells with h0 | ⟨b, off, rfl, _, hc⟩
    · omega
    · exact hin b off q _ _ _ _ (by omega) (u8_bd _).1 (u8_bd _).2 (u8_bd _).1 (u8_bd _).2 (u8_bd _).1 (u8_bd _).2 (u8_bd _).1 (u8_bd _).2 (hc q (by omega)) (hc (q + 1) (by omega)) (hc (q + 2) (by omega)) (hc (q + 3) (by omega))
  · have e1 : wordIs l p = false := by unfold wordIs; exact decide_eq_false h
    have e2 : wordAt l p = 0 := by unfold wordAt; rw [if_neg h]
    rw [e1, e2]
    exact hout (by have := hr.len; omega)

theorem word_any (w : World) (a : Option Addr) (n c : Nat) (l : List UInt8) (p : Int) (hr : Rd w a n c l) (hn2 : n ≤ 140737488351232) (hp1 : -9223372036854775808 ≤ p) (hp2 : p ≤ 9223372036854775807) :
    Calls Tryz.prog 114 #[.slice a n c, .int .i64 p] w fun e w' => e = .returned (.tuple #[.int .u32 (wordAt l p), .bool (wordIs l p)]) ∧ Below w.heap.size w w' := by
  have hle := hr.le
  have hcap := hr.cap
  refine word_tells w a n c l p hr hn2 hp1 hp2 _ ?_ (fun h => word_out a n c p w (by omega) h hp1 hp2)
  intro b off q x0 x1 x2 x3 hq b0 b0' b1 b1' b2 b2' b3 b3' h0 h1 h2 h3
  exact word_core b off n c q x0 x1 x2 x3 w hq hle hn2 hcap b0 b0' b1 b1' b2 b2' b3 b3' h0 h1 h2 h3

theorem word_ref (w : World) (a : Option Addr) (n c : Nat) (l : List UInt8) (p : Int) (hr : Rd w a n c l) (hn2 : n ≤ 140737488351232) (hp1 : -9223372036854775808 ≤ p) (hp2 : p ≤ 9223372036854775807) :
    Calls Tryz.prog 117 #[.slice a n c, .int .i64 p] w fun e w' => e = .returned (.tuple #[.int .u32 (wordAt l p), .bool (wordIs l p)]) ∧ Below w.heap.size w w' := by
  have hle := hr.le
  have hcap := hr.cap
  refine word_tells w a n c l p hr hn2 hp1 hp2 _ ?_ (fun h => word_out_ref a n c p w (by omega) h hp1 hp2)
  intro b off q x0 x1 x2 x3 hq b0 b0' b1 b1' b2 b2' b3 b3' h0 h1 h2 h3
  exact word_core_ref b off n c q x0 x1 x2 x3 w hq hle hn2 hcap b0 b0' b1 b1' b2 b2' b3 b3' h0 h1 h2 h3
end Go.Proofs.YtofadpodlaakbaaGreat
