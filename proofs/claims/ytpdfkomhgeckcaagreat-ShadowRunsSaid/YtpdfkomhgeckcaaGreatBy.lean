/- Numbers in bytes, as the walk meets them; what is written is read back. -/
import Derived.Lib.EndianBits
namespace Go.Proofs.YtpdfkomhgeckcaaGreat
set_option linter.unusedVariables false
set_option linter.unusedSimpArgs false

/-- An int64. -/
def W64 (m : Int) : Int := (m + 9223372036854775808) % 18446744073709551616 - 9223372036854775808
theorem W64_is (m : Int) : IntKind.i64.wrap m = W64 m := by simp [IntKind.wrap, IntKind.bits, IntKind.signed, W64]; try omega
theorem W64_id {m : Int} (h0 : -9223372036854775808 ≤ m) (h1 : m ≤ 9223372036854775807) : W64 m = m := by unfold W64; omega
theorem W64_lo (m : Int) : -9223372036854775808 ≤ W64 m ∧ W64 m ≤ 9223372036854775807 := by unfold W64; omega
theorem W64_mul (a c b : Int) : W64 (W64 a * c + b) = W64 (a * c + b) := by
  have h : W64 a = a - 18446744073709551616 * ((a + 9223372036854775808) / 18446744073709551616) := by unfold W64; omega
  generalize (a + 9223372036854775808) / 18446744073709551616 = q at h
  rw [h, Int.sub_mul, Int.mul_assoc]
  unfold W64
  generalize q * c = r
  generalize a * c = s
  omega

/-- 'x | y' where x is a multiple of 256 and y is one byte. -/
theorem or8 (x y : Int) (hx : x % 256 = 0) (hy0 : 0 ≤ y) (hy1 : y < 256) : bits .or .i64 x y = W64 (x + y) := by
  obtain ⟨b, rfl⟩ := Int.eq_ofNat_of_zero_le hy0
  have e1 : BitVec.ofInt 64 x = BitVec.ofNat 64 (x % 18446744073709551616).toNat := by
    apply BitVec.eq_of_toNat_eq
    rw [BitVec.toNat_ofInt, BitVec.toNat_ofNat]
    have : ((2 ^ 64 : Nat) : Int) = 18446744073709551616 := by decide
    rw [this]
    omega
  obtain ⟨a, ha⟩ := Int.eq_ofNat_of_zero_le (show 0 ≤ x % 18446744073709551616 by omega)
  have hlt : a < 18446744073709551616 := by omega
  have hb : b < 256 := by omega
  have hd : a % 256 = 0 := by omega
  have e2 : (BitVec.ofInt 64 x ||| BitVec.ofInt 64 (b : Int)).toNat = a + b := by
    rw [e1, ha]
    rw [show BitVec.ofInt 64 (b : Int) = BitVec.ofNat 64 b from BitVec.ofInt_natCast _ _]
    rw [BitVec.toNat_or, BitVec.toNat_ofNat, BitVec.toNat_ofNat, Int.toNat_natCast, Nat.mod_eq_of_lt (by omega), Nat.mod_eq_of_lt (by omega)]
    have hq : a = 2 ^ 8 * (a / 2 ^ 8) := by have := Nat.div_add_mod a (2 ^ 8); omega
    rw [hq, ← Nat.two_pow_add_eq_or_of_lt (by omega) (a / 2 ^ 8)]
  show IntKind.i64.wrap ((BitVec.ofInt 64 x ||| BitVec.ofInt 64 (b : Int)).toNat : Int) = _
  rw [e2, W64_is]
  unfold W64
  omega

/-- The byte of n that has k bytes behind it. -/
def byteAt (n : Int) (k : Nat) : Int := n / 256 ^ k % 256
/-- A number in k bytes, the highest first. -/
def numB (n : Int) : Nat → List Int
  | 0 => []
  | k + 1 => byteAt n k :: numB n k
theorem numB_length (n : Int) : ∀ k, (numB n k).length = k
  | 0 => rfl
  | k + 1 => by rw [numB, List.length_cons, numB_length n k]
/-- One byte more is read. -/
def rd (n x : Int) : Int := W64 (n * 256 + x)
def readB (l : List Int) : Int := l.foldl rd 0
def Byte (x : Int) : Prop := 0 ≤ x ∧ x ≤ 255
theorem byteAt_byte (n : Int) (k : Nat) : Byte (byteAt n k) := by unfold byteAt Byte; omega
theorem numB_byte (n : Int) : ∀ k, ∀ x ∈ numB n k, Byte x
  | 0 => fun x h => by cases h
  | k + 1 => fun x h => by
    rw [numB, List.mem_cons] at h
    rcases h with rfl | h
    · exact byteAt_byte n k
    · exact numB_byte n k x h
theorem fold_numB (n : Int) : ∀ (k : Nat) (acc : Int), (numB n k).foldl rd (W64 acc) = W64 (acc * 256 ^ k + n % 256 ^ k)
  | 0, acc => by simp [numB, W64]
  | k + 1, acc => by
    have hp : (0 : Int) < 256 ^ k := Int.pow_pos (by decide)
    have e : rd (W64 acc) (byteAt n k) = W64 (acc * 256 + byteAt n k) := by unfold rd; rw [W64_mul]
    rw [numB, List.foldl_cons, e, fold_numB n k]
    congr 1
    have h1 : n % 256 ^ (k + 1) = byteAt n k * 256 ^ k + n % 256 ^ k := by
      unfold byteAt
      have a1 : n = 256 ^ k * (n / 256 ^ k) + n % 256 ^ k := (Int.mul_ediv_add_emod n (256 ^ k)).symm
      have a3 := Int.emod_nonneg n (Int.ne_of_gt hp)
      have a4 := Int.emod_lt_of_pos n hp
      rw [Int.pow_succ]
      generalize n % 256 ^ k = r at a1 a3 a4 ⊢
      generalize n / 256 ^ k = q at a1 ⊢
      generalize (256 : Int) ^ k = P at hp a1 a4 ⊢
      have b1 : P * q = P * 256 * (q / 256) + q % 256 * P := by
        have : q = 256 * (q / 256) + q % 256 := by omega
        generalize q / 256 = t at this ⊢
        generalize q % 256 = d at this ⊢
        rw [this, Int.mul_add, Int.mul_assoc, Int.mul_comm P d]
      have b2 : n = (q % 256 * P + r) + P * 256 * (q / 256) := by omega
      have d0 : 0 ≤ q % 256 := by omega
      have d1 : q % 256 ≤ 255 := by omega
      have c0 := Int.mul_nonneg d0 (Int.le_of_lt hp)
      have c1 := Int.mul_le_mul_of_nonneg_right d1 (Int.le_of_lt hp)
      rw [b2, Int.add_mul_emod_self_left]
      exact Int.emod_eq_of_lt (by omega) (by omega)
    rw [h1, Int.pow_succ, Int.add_mul]
    have : acc * 256 * 256 ^ k = acc * (256 ^ k * 256) := by rw [Int.mul_assoc, Int.mul_comm 256]
    omega
theorem read_numB (n : Int) (k : Nat) : readB (numB n k) = W64 (n % 256 ^ k) := by
  have := fold_numB n k 0
  rw [show W64 0 = 0 from by decide, Int.zero_mul, Int.zero_add] at this
  exact this
theorem read8 {n : Int} (h0 : -9223372036854775808 ≤ n) (h1 : n ≤ 9223372036854775807) : readB (numB n 8) = n := by
  rw [read_numB, show (256 : Int) ^ 8 = 18446744073709551616 from by decide]; unfold W64; omega
theorem read4 {n : Int} (h0 : 0 ≤ n) (h1 : n < 4294967296) : readB (numB n 4) = n := by
  rw [read_numB, show (256 : Int) ^ 4 = 4294967296 from by decide]; unfold W64; omega
theorem read1 {n : Int} (h : Byte n) : readB [n] = n := by
  show W64 (0 * 256 + n) = n
  unfold W64; unfold Byte at h; omega
/-- So many bytes make no greater number. -/
theorem fold_bound : ∀ (l : List Int) (acc : Int) (m : Nat), (∀ x ∈ l, Byte x) → 0 ≤ acc → acc < 256 ^ m → l.length + m ≤ 7 → 0 ≤ l.foldl rd acc ∧ l.foldl rd acc < 256 ^ (l.length + m)
  | [], acc, m, _, h0, h1, _ => by rw [List.length_nil, Nat.zero_add]; exact ⟨h0, h1⟩
  | x :: l, acc, m, hb, h0, h1, hl => by
    have hx := hb x List.mem_cons_self
    unfold Byte at hx
    rw [List.length_cons] at hl
    have hm : (256 : Int) ^ (m + 1) ≤ 256 ^ 7 := by
      have : (256 : Nat) ^ (m + 1) ≤ 256 ^ 7 := Nat.pow_le_pow_right (by decide) (by omega)
      have h := Int.ofNat_le.2 this
      rw [Int.natCast_pow, Int.natCast_pow] at h
      exact h
    have h7 : (256 : Int) ^ 7 = 72057594037927936 := by decide
    have hs : (256 : Int) ^ (m + 1) = 256 ^ m * 256 := Int.pow_succ _ _
    have e : rd acc x = acc * 256 + x := by unfold rd; exact W64_id (by omega) (by omega)
    rw [List.foldl_cons, List.length_cons, e]
    have := fold_bound l (acc * 256 + x) (m + 1) (fun y hy => hb y (List.mem_cons_of_mem _ hy)) (by omega) (by omega) (by omega)
    rw [show l.length + 1 + m = l.length + (m + 1) by omega]
    exact this
theorem read_bound {l : List Int} (hb : ∀ x ∈ l, Byte x) (hl : l.length ≤ 7) : 0 ≤ readB l ∧ readB l < 256 ^ l.length := by
  have := fold_bound l 0 0 hb (by decide) (by decide) (by omega)
  exact this
theorem read_lo (l : List Int) : -9223372036854775808 ≤ readB l ∧ readB l ≤ 9223372036854775807 := by
  unfold readB
  have : ∀ (l : List Int) (acc : Int), (-9223372036854775808 ≤ acc ∧ acc ≤ 9223372036854775807) → -9223372036854775808 ≤ l.foldl rd acc ∧ l.foldl rd acc ≤ 9223372036854775807 := by
    intro l
    induction l with
    | nil => intro acc h; exact h
    | cons x l ih => intro acc h; exact ih _ (W64_lo _)
  exact this l 0 (by decide)
end Go.Proofs.YtpdfkomhgeckcaaGreat
