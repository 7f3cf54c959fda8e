/- Words of 64 bits: a product's halves, a sum's carry; a number held between two. -/
import Derived.Test.YtlgkkolgdjgclaaGreatA
import Derived.Test.YtlgkkolgdjgclaaGreatProg
import Derived.Lib.Mul64
import Derived.Laws.Bits64b
import Derived.Laws.Externs
namespace Go.Proofs.YtlgkkolgdjgclaaGreat
open Go.RowKit
set_option linter.unusedVariables false
set_option linter.unusedSimpArgs false

theorem w64_mask (a : Nat) (ha : a < 18446744073709551616) : bits .and .u64 (a : Int) 4294967295 = ((a % 4294967296 : Nat) : Int) := by
  have h := bits_and_u64_nat a 4294967295 ha (by omega)
  rw [show a &&& 4294967295 = a % 4294967296 from Nat.and_two_pow_sub_one_eq_mod a 32] at h
  exact h
theorem w64_div (a : Nat) : (a : Int) / 4294967296 = ((a / 4294967296 : Nat) : Int) := by omega
theorem w64_mul (a b : Nat) : (a : Int) * (b : Int) = ((a * b : Nat) : Int) := (Int.natCast_mul a b).symm
theorem w64_add (a b : Nat) : (a : Int) + (b : Int) = ((a + b : Nat) : Int) := (Int.natCast_add a b).symm
theorem w64_in (a : Nat) (ha : a < 18446744073709551616) : IntKind.u64.wrap (a : Int) = (a : Int) := by rw [IntKind.wrap_u64]; omega
theorem w64_mod (a : Nat) : IntKind.u64.wrap (a : Int) = ((a % 18446744073709551616 : Nat) : Int) := by rw [IntKind.wrap_u64]; omega

set_option maxHeartbeats 1000000 in
/-- The product of two words, in two words. -/
theorem mul64_nat (x y : Nat) (hx : x < 18446744073709551616) (hy : y < 18446744073709551616) (w : World) :
    Calls Tryz.prog 234 #[.int .u64 x, .int .u64 y] w fun e w' => e = .returned (.tuple #[.int .u64 ((x * y / 18446744073709551616 : Nat) : Int), .int .u64 ((x * y % 18446744073709551616 : Nat) : Int)]) ∧ w = w' := by
  obtain ⟨p1, p2, p3, ph⟩ := Lib.mul64_hi x y hx hy
  have q1 := Lib.half_mul_le (a := x / 4294967296) (b := y / 4294967296) (by omega) (by omega)
  have q2 := Lib.half_mul_le (a := x / 4294967296) (b := y % 4294967296) (by omega) (by omega)
  have q3 := Lib.half_mul_le (a := x % 4294967296) (b := y / 4294967296) (by omega) (by omega)
  have s1 : x / 4294967296 * (y / 4294967296) < 18446744073709551616 := by omega
  have s2 : x / 4294967296 * (y % 4294967296) < 18446744073709551616 := by omega
  have s3 : x % 4294967296 * (y / 4294967296) < 18446744073709551616 := by omega
  have s4 : x / 4294967296 * (y / 4294967296) + (x / 4294967296 * (y % 4294967296) + x % 4294967296 * (y % 4294967296) / 4294967296) / 4294967296 < 18446744073709551616 := by omega
  have s5 : x / 4294967296 * (y / 4294967296) + (x / 4294967296 * (y % 4294967296) + x % 4294967296 * (y % 4294967296) / 4294967296) / 4294967296 + ((x / 4294967296 * (y % 4294967296) + x % 4294967296 * (y % 4294967296) / 4294967296) % 4294967296 + x % 4294967296 * (y / 4294967296)) / 4294967296 < 18446744073709551616 := by omega
  go_enter Tryz.func234, Tryz.ntmps234
  go_wp2
  simp only [w64_mask x hx, w64_mask y hy, w64_div, w64_mul, w64_add, w64_in _ p1, w64_in _ s2, w64_in _ p2, w64_mask _ p2, w64_in _ s3, w64_in _ p3, w64_in _ s1, w64_in _ s4, w64_in _ s5, w64_mod (x * y)]
  rw [ph]
  go_ret2
  exact ⟨rfl, rfl⟩
/-- The same, told by its halves. -/
theorem mul64_any (x y : Int) (hx : 0 ≤ x) (hx2 : x < 18446744073709551616) (hy : 0 ≤ y) (hy2 : y < 18446744073709551616) {h l : Int} (he : x * y = h * 18446744073709551616 + l) (hl : 0 ≤ l) (hl2 : l < 18446744073709551616) (w : World) :
    Calls Tryz.prog 234 #[.int .u64 x, .int .u64 y] w fun e w' => e = .returned (.tuple #[.int .u64 h, .int .u64 l]) ∧ w = w' := by
  obtain ⟨a, rfl⟩ := Int.eq_ofNat_of_zero_le hx
  obtain ⟨b, rfl⟩ := Int.eq_ofNat_of_zero_le hy
  have e1 : ((a * b / 18446744073709551616 : Nat) : Int) = h := by
    have : ((a * b : Nat) : Int) = h * 18446744073709551616 + l := by rw [Int.natCast_mul]; exact he
    omega
  have e2 : ((a * b % 18446744073709551616 : Nat) : Int) = l := by
    have : ((a * b : Nat) : Int) = h * 18446744073709551616 + l := by rw [Int.natCast_mul]; exact he
    omega
  have := mul64_nat a b (by omega) (by omega) w
  rw [e1, e2] at this
  exact this
/-- A number in two words. -/
theorem halves (p : Int) : ∃ h l : Int, p = h * 18446744073709551616 + l ∧ 0 ≤ l ∧ l < 18446744073709551616 := ⟨p / 18446744073709551616, p % 18446744073709551616, by omega, by omega, by omega⟩
theorem add64_nat (x y c : Nat) (hc : c ≤ 1) (w : World) : (callFunc 235 #[.int .u64 x, .int .u64 y, .int .u64 c]).run Tryz.prog w =
    .ok (.value (.tuple #[.int .u64 (((x + y + c) % 18446744073709551616 : Nat) : Int), .int .u64 (((x + y + c) / 18446744073709551616 : Nat) : Int)])) w := by
  rw [run_callFunc_extern Tryz.func235 (by kernel_rfl) (by kernel_rfl) (by kernel_rfl) (e := add64Entry) (by kernel_rfl), run_add64 x y c (by omega) (by omega) (by omega) (by omega)]
  simp only [Result.andThen]
  congr 5 <;> omega
theorem add64_any (x y : Int) (hx : 0 ≤ x) (hy : 0 ≤ y) {s c : Int} (he : x + y = c * 18446744073709551616 + s) (hs : 0 ≤ s) (hs2 : s < 18446744073709551616) (w : World) :
    (callFunc 235 #[.int .u64 x, .int .u64 y, .int .u64 0]).run Tryz.prog w = .ok (.value (.tuple #[.int .u64 s, .int .u64 c])) w := by
  obtain ⟨a, rfl⟩ := Int.eq_ofNat_of_zero_le hx
  obtain ⟨b, rfl⟩ := Int.eq_ofNat_of_zero_le hy
  have e1 : (((a + b + 0) % 18446744073709551616 : Nat) : Int) = s := by omega
  have e2 : (((a + b + 0) / 18446744073709551616 : Nat) : Int) = c := by omega
  have := add64_nat a b 0 (by omega) w
  rw [e1, e2] at this
  exact this
theorem wHeld_any (x lo hi : Int) (w : World) (h : lo ≤ hi) {r : Int} (hr : max lo (min x hi) = r) : Calls Tryz.prog 236 #[.int .i64 x, .int .i64 lo, .int .i64 hi] w fun e w' => e = .returned (.int .i64 r) ∧ w = w' := by
  have hg : ¬ hi < lo := by omega
  by_cases h1 : x < lo
  · obtain rfl : r = lo := by omega
    go_enter Tryz.func236, Tryz.ntmps236
    go_wp2
    go_ret
    exact ⟨rfl, rfl⟩
  · by_cases h2 : hi < x
    · obtain rfl : r = hi := by omega
      go_enter Tryz.func236, Tryz.ntmps236
      go_wp2
      go_ret
      exact ⟨rfl, rfl⟩
    · obtain rfl : r = x := by omega
      go_enter Tryz.func236, Tryz.ntmps236
      go_wp2
      go_ret
      exact ⟨rfl, rfl⟩
end Go.Proofs.YtlgkkolgdjgclaaGreat
