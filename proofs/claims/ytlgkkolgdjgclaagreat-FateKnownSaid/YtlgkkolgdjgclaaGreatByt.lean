/- Numbers in bytes, as the walk meets them; what is written is read back. -/
import Derived.Lib.EndianBits
import Derived.Test.YtlgkkolgdjgclaaGreatJ
import Derived.Test.YtlgkkolgdjgclaaGreatNum
import Derived.Test.YtlgkkolgdjgclaaGreatR
import Derived.Deep.AppendLies
import Derived.Test.YtlgkkolgdjgclaaGreatF
namespace Go.Proofs.YtlgkkolgdjgclaaGreat
set_option linter.unusedVariables false
set_option linter.unusedSimpArgs false

/-- An int64. -/
def W64 (m : Int) : Int := (m + 9223372036854775808) % 18446744073709551616 - 9223372036854775808
theorem W64_is (m : Int) : IntKind.i64.wrap m = W64 m := by simp [IntKind.wrap, IntKind.bits, IntKind.signed, W64]; try omega
theorem W64_id {m : Int} (h0 : -9223372036854775808 ≤ m) (h1 : m ≤ 9223372036854775807) : W64 m = m := by unfold W64; omega
theorem W64_lo (m : Int) : -9223372036854775808 ≤ W64 m ∧ W64 m ≤ 9223372036854775807 := by unfold W64; omega
theorem W64_mul (a c b : Int) : W64 (W64 a * c + b) = W64 (a * c + b) := by
  have h : W64 a = a - 18446744073709551616 * ((a + 9223372036854775808) / 18446744073709551616) := by unfold W64; omega
  generalize (a + 9223372036854775808) / 18446744073709551616 = q at h
  rw [h, Int.sub_mul, Int.mul_assoc]
  unfold W64
  generalize q * c = r
  generalize a * c = s
  omega

/-- 'x | y' where x is a multiple of 256 and y is one byte. -/
theorem or8 (x y : Int) (hx : x % 256 = 0) (hy0 : 0 ≤ y) (hy1 : y < 256) : bits .or .i64 x y = W64 (x + y) := by
  obtain ⟨b, rfl⟩ := Int.eq_ofNat_of_zero_le hy0
  have e1 : BitVec.ofInt 64 x = BitVec.ofNat 64 (x % 18446744073709551616).toNat := by
    apply BitVec.eq_of_toNat_eq
    rw [BitVec.toNat_ofInt, BitVec.toNat_ofNat]
    have : ((2 ^ 64 : Nat) : Int) = 18446744073709551616 := by decide
    rw [this]
    omega
  obtain ⟨a, ha⟩ := Int.eq_ofNat_of_zero_le (show 0 ≤ x % 18446744073709551616 by omega)
  have hlt : a < 18446744073709551616 := by omega
  have hb : b < 256 := by omega
  have hd : a % 256 = 0 := by omega
  have e2 : (BitVec.ofInt 64 x ||| BitVec.ofInt 64 (b : Int)).toNat = a + b := by
    rw [e1, ha]
    rw [show BitVec.ofInt 64 (b : Int) = BitVec.ofNat 64 b from BitVec.ofInt_natCast _ _]
    rw [BitVec.toNat_or, BitVec.toNat_ofNat, BitVec.toNat_ofNat, Int.toNat_natCast, Nat.mod_eq_of_lt (by omega), Nat.mod_eq_of_lt (by omega)]
    have hq : a = 2 ^ 8 * (a / 2 ^ 8) := by have := Nat.div_add_mod a (2 ^ 8); omega
    rw [hq, ← Nat.two_pow_add_eq_or_of_lt (by omega) (a / 2 ^ 8)]
  show IntKind.i64.wrap ((BitVec.ofInt 64 x ||| BitVec.ofInt 64 (b : Int)).toNat : Int) = _
  rw [e2, W64_is]
  unfold W64
  omega

/-- The byte of n that has k bytes behind it. -/
def byteAt (n : Int) (k : Nat) : Int := n / 256 ^ k % 256
/-- A number in k bytes, the highest first. -/
def numB (n : Int) : Nat → List Int
  | 0 => []
  | k + 1 => byteAt n k :: numB n k
theorem numB_length (n : Int) : ∀ k, (numB n k).length = k
  | 0 => rfl
  | k + 1 => by rw [numB, List.length_cons, numB_length n k]
/-- One byte more is read. -/
def rd (n x : Int) : Int := W64 (n * 256 + x)
def readB (l : List Int) : Int := l.foldl rd 0
def Byte (x : Int) : Prop := 0 ≤ x ∧ x ≤ 255
theorem byteAt_byte (n : Int) (k : Nat) : Byte (byteAt n k) := by unfold byteAt Byte; omega
theorem numB_byte (n : Int) : ∀ k, ∀ x ∈ numB n k, Byte x
  | 0 => fun x h => by cases h
  | k + 1 => fun x h => by
    rw [numB, List.mem_cons] at h
    rcases h with rfl | h
    · exact byteAt_byte n k
    · exact numB_byte n k x h
theorem fold_numB (n : Int) : ∀ (k : Nat) (acc : Int), (numB n k).foldl rd (W64 acc) = W64 (acc * 256 ^ k + n % 256 ^ k)
  | 0, acc => by simp [numB, W64]
  | k + 1, acc => by
    have hp : (0 : Int) < 256 ^ k := Int.pow_pos (by decide)
    have e : rd (W64 acc) (byteAt n k) = W64 (acc * 256 + byteAt n k) := by unfold rd; rw [W64_mul]
    rw [numB, List.foldl_cons, e, fold_numB n k]
    congr 1
    have h1 : n % 256 ^ (k + 1) = byteAt n k * 256 ^ k + n % 256 ^ k := by
      unfold byteAt
      have a1 : n = 256 ^ k * (n / 256 ^ k) + n % 256 ^ k := (Int.mul_ediv_add_emod n (256 ^ k)).symm
      have a3 := Int.emod_nonneg n (Int.ne_of_gt hp)
      have a4 := Int.emod_lt_of_pos n hp
      rw [Int.pow_succ]
      generalize n % 256 ^ k = r at a1 a3 a4 ⊢
      generalize n / 256 ^ k = q at a1 ⊢
      generalize (256 : Int) ^ k = P at hp a1 a4 ⊢
      have b1 : P * q = P * 256 * (q / 256) + q % 256 * P := by
        have : q = 256 * (q / 256) + q % 256 := by omega
        generalize q / 256 = t at this ⊢
        generalize q % 256 = d at this ⊢
        rw [this, Int.mul_add, Int.mul_assoc, Int.mul_comm P d]
      have b2 : n = (q % 256 * P + r) + P * 256 * (q / 256) := by omega
      have d0 : 0 ≤ q % 256 := by omega
      have d1 : q % 256 ≤ 255 := by omega
      have c0 := Int.mul_nonneg d0 (Int.le_of_lt hp)
      have c1 := Int.mul_le_mul_of_nonneg_right d1 (Int.le_of_lt hp)
      rw [b2, Int.add_mul_emod_self_left]
      exact Int.emod_eq_of_lt (by omega) (by omega)
    rw [h1, Int.pow_succ, Int.add_mul]
    have : acc * 256 * 256 ^ k = acc * (256 ^ k * 256) := by rw [Int.mul_assoc, Int.mul_comm 256]
    omega
theorem read_numB (n : Int) (k : Nat) : readB (numB n k) = W64 (n % 256 ^ k) := by
  have := fold_numB n k 0
  rw [show W64 0 = 0 from by decide, Int.zero_mul, Int.zero_add] at this
  exact this
theorem read8 {n : Int} (h0 : -9223372036854775808 ≤ n) (h1 : n ≤ 9223372036854775807) : readB (numB n 8) = n := by
  rw [read_numB, show (256 : Int) ^ 8 = 18446744073709551616 from by decide]; unfold W64; omega
theorem read4 {n : Int} (h0 : 0 ≤ n) (h1 : n < 4294967296) : readB (numB n 4) = n := by
  rw [read_numB, show (256 : Int) ^ 4 = 4294967296 from by decide]; unfold W64; omega
theorem read1 {n : Int} (h : Byte n) : readB [n] = n := by
  show W64 (0 * 256 + n) = n
  unfold W64; unfold Byte at h; omega
/-- So many bytes make no greater number. -/
theorem fold_bound : ∀ (l : List Int) (acc : Int) (m : Nat), (∀ x ∈ l, Byte x) → 0 ≤ acc → acc < 256 ^ m → l.length + m ≤ 7 → 0 ≤ l.foldl rd acc ∧ l.foldl rd acc < 256 ^ (l.length + m)
  | [], acc, m, _, h0, h1, _ => by rw [List.length_nil, Nat.zero_add]; exact ⟨h0, h1⟩
  | x :: l, acc, m, hb, h0, h1, hl => by
    have hx := hb x List.mem_cons_self
    unfold Byte at hx
    rw [List.length_cons] at hl
    have hm : (256 : Int) ^ (m + 1) ≤ 256 ^ 7 := by
      have : (256 : Nat) ^ (m + 1) ≤ 256 ^ 7 := Nat.pow_le_pow_right (by decide) (by omega)
      have h := Int.ofNat_le.2 this
      rw [Int.natCast_pow, Int.natCast_pow] at h
      exact h
    have h7 : (256 : Int) ^ 7 = 72057594037927936 := by decide
    have hs : (256 : Int) ^ (m + 1) = 256 ^ m * 256 := Int.pow_succ _ _
    have e : rd acc x = acc * 256 + x := by unfold rd; exact W64_id (by omega) (by omega)
    rw [List.foldl_cons, List.length_cons, e]
    have := fold_bound l (acc * 256 + x) (m + 1) (fun y hy => hb y (List.mem_cons_of_mem _ hy)) (by omega) (by omega) (by omega)
    rw [show l.length + 1 + m = l.length + (m + 1) by omega]
    exact this
theorem read_bound {l : List Int} (hb : ∀ x ∈ l, Byte x) (hl : l.length ≤ 7) : 0 ≤ readB l ∧ readB l < 256 ^ l.length := by
  have := fold_bound l 0 0 hb (by decide) (by decide) (by omega)
  exact this
theorem read_lo (l : List Int) : -9223372036854775808 ≤ readB l ∧ readB l ≤ 9223372036854775807 := by
  unfold readB
  have : ∀ (l : List Int) (acc : Int), (-9223372036854775808 ≤ acc ∧ acc ≤ 9223372036854775807) → -9223372036854775808 ≤ l.foldl rd acc ∧ l.foldl rd acc ≤ 9223372036854775807 := by
    intro l
    induction l with
    | nil => intro acc h; exact h
    | cons x l ih => intro acc h; exact ih _ (W64_lo _)
  exact this l 0 (by decide)
end Go.Proofs.YtlgkkolgdjgclaaGreat
/- The plain model of what is written and read: the seal, a form in bytes, as it was written once. -/
namespace Go.Proofs.YtlgkkolgdjgclaaGreat
set_option linter.unusedVariables false
set_option linter.unusedSimpArgs false

/-! ### the seal -/
def ofStep (c : Int) : Int := bits .xor .u32 (c / 2) (bits .and .u32 2197175160 (-(bits .and .u32 c 1) % 4294967296))
def stepN : Nat → Int → Int
  | 0, c => c
  | k + 1, c => ofStep (stepN k c)
def ofR (c : Int) (l : List Int) : Int := l.foldl (fun c x => stepN 8 (bits .xor .u32 c (x % 4294967296))) c
def ofB (l : List Int) : Int := bits .xor .u32 4294967295 (ofR 4294967295 l)
def sealT (c : Int) : List Int := [c / 16777216 % 256, c / 65536 % 256, c / 256 % 256, c % 256]
def sealP (l : List Int) : List Int := l ++ sealT (ofB l)
def sealG (b : List Int) : Option (List Int) := if 4 ≤ b.length ∧ sealP (b.take (b.length - 4)) = b then some (b.take (b.length - 4)) else none
theorem sealP_length (l : List Int) : (sealP l).length = l.length + 4 := by simp [sealP, sealT]
theorem sealG_P (l : List Int) : sealG (sealP l) = some l := by
  have h : (sealP l).take ((sealP l).length - 4) = l := by
    rw [sealP_length, Nat.add_sub_cancel]
    unfold sealP
    rw [List.take_left]
  unfold sealG
  rw [h, if_pos ⟨by rw [sealP_length]; omega, rfl⟩]
theorem sealT_byte (c : Int) : ∀ x ∈ sealT c, Byte x := by
  intro x hx
  simp only [sealT, List.mem_cons, List.not_mem_nil, or_false] at hx
  unfold Byte
  rcases hx with rfl | rfl | rfl | rfl <;> omega
theorem sealP_byte {l : List Int} (h : ∀ x ∈ l, Byte x) : ∀ x ∈ sealP l, Byte x := fun x hx => (List.mem_append.1 hx).elim (h x) (sealT_byte _ x)
theorem sealG_byte {b l : List Int} (h : ∀ x ∈ b, Byte x) (hg : sealG b = some l) : ∀ x ∈ l, Byte x := by
  unfold sealG at hg
  split at hg
  · cases hg; exact fun x hx => h x (List.mem_of_mem_take hx)
  · cases hg

/-! ### the version -/
def openB (b : List Int) : List Int × Int × Int :=
  match sealG b with
  | none => ([], 0, 9)
  | some x => if 3 ≤ x.length ∧ x.getD 0 0 = 83 ∧ x.getD 1 0 = 72 then (x.drop 3, x.getD 2 0, 0) else ([], 0, 8)
theorem openB_byte {b : List Int} (h : ∀ x ∈ b, Byte x) : ∀ x ∈ (openB b).1, Byte x := by
  unfold openB
  cases hg : sealG b with
  | none => intro x hx; cases hx
  | some y =>
    simp only
    split
    · exact fun x hx => sealG_byte h hg x (List.mem_of_mem_drop hx)
    · intro x hx; cases hx

/-! ### a form -/
def goodC (tag : Int) (f : Fm) : Bool := decide (0 ≤ tag ∧ tag ≤ 2) && goodF f
def itemB (x : It) : List Int := numB x.id 4 ++ (x.w :: numB x.lag 8)
def formB (tag : Int) (f : Fm) : List Int := [83, 72, 3, tag] ++ numB (f.cur + 1) 4 ++ ((f.l.length : Int) :: f.l.flatMap itemB)
def putB (tag : Int) (f : Fm) : List Int := sealP (formB tag f)
def items3 : Nat → List Int → List It
  | 0, _ => []
  | k + 1, b => ⟨readB (b.take 4), readB ((b.drop 4).take 1), readB (((b.drop 4).drop 1).take 8)⟩ :: items3 k (((b.drop 4).drop 1).drop 8)
def readF (x : List Int) : Fm := ⟨readB ((x.drop 1).take 4) - 1, items3 (x.getD 5 0).toNat (((x.drop 1).drop 4).drop 1)⟩
def fits3 (x : List Int) : Prop := 6 ≤ x.length ∧ (x.length : Int) = 6 + 13 * x.getD 5 0
instance (x : List Int) : Decidable (fits3 x) := by unfold fits3; infer_instance
def getB (b : List Int) : Int × Fm × Int :=
  if (openB b).2.2 ≠ 0 then (0, ⟨0, []⟩, (openB b).2.2)
  else if (openB b).2.1 ≠ 3 then (0, ⟨0, []⟩, 10)
  else if ¬ fits3 (openB b).1 then (0, ⟨0, []⟩, 8)
  else if goodC ((openB b).1.getD 0 0) (readF (openB b).1) = true then ((openB b).1.getD 0 0, readF (openB b).1, 0)
  else (0, ⟨0, []⟩, 11)
theorem getB_good {b : List Int} (h : (getB b).2.2 = 0) : goodC (getB b).1 (getB b).2.1 = true := by
  unfold getB at h ⊢
  split at h
  · rename_i h1; exact absurd h h1
  · rename_i h1
    rw [if_neg h1]
    split at h
    · simp at h
    · rename_i h2
      rw [if_neg h2]
      split at h
      · simp at h
      · rename_i h3
        rw [if_neg h3]
        split at h
        · rename_i h4; rw [if_pos h4]; exact h4
        · simp at h
theorem itemB_length (x : It) : (itemB x).length = 13 := by simp [itemB, numB_length]
theorem flatB_length : ∀ l : List It, (l.flatMap itemB).length = 13 * l.length
  | [] => rfl
  | x :: l => by rw [List.flatMap_cons, List.length_append, itemB_length, flatB_length l, List.length_cons]; omega
theorem take_app (a b : List Int) (k : Nat) (h : a.length = k) : (a ++ b).take k = a := by subst h; exact List.take_left
theorem drop_app (a b : List Int) (k : Nat) (h : a.length = k) : (a ++ b).drop k = b := by subst h; exact List.drop_left
theorem items_flat : ∀ (l : List It), (∀ x ∈ l, mayB x.id x.w x.lag = true) → items3 l.length (l.flatMap itemB) = l
  | [], _ => rfl
  | x :: l, h => by
    have hm := mayB_true (h x List.mem_cons_self)
    have e1 : (x :: l).flatMap itemB = numB x.id 4 ++ ([x.w] ++ (numB x.lag 8 ++ l.flatMap itemB)) := by simp [itemB]
    rw [List.length_cons, e1, items3, take_app _ _ 4 (numB_length _ _), drop_app _ _ 4 (numB_length _ _), take_app _ _ 1 rfl, drop_app _ _ 1 rfl, take_app _ _ 8 (numB_length _ _), drop_app _ _ 8 (numB_length _ _),
      items_flat l fun y hy => h y (List.mem_cons_of_mem _ hy), read4 (by omega) (by omega), read8 (by omega) (by omega), read1 (by unfold Byte; omega)]
theorem goodF_P {f : Fm} (h : goodF f = true) : GoodP f := of_decide_eq_true h
theorem cur_bound {f : Fm} (h : GoodP f) : -1 ≤ f.cur ∧ f.cur ≤ 1073741824 := by
  rcases h.2.1 with h1 | ⟨x, hx, h1⟩
  · omega
  · have := mayB_true (h.2.2.1 x hx); omega
theorem openB_put (tag : Int) (f : Fm) : openB (putB tag f) = (tag :: (numB (f.cur + 1) 4 ++ ((f.l.length : Int) :: f.l.flatMap itemB)), 3, 0) := by
  unfold openB putB
  rw [sealG_P]
  rfl
theorem get_put {tag : Int} {f : Fm} (h : goodC tag f = true) : getB (putB tag f) = (tag, f, 0) := by
  have hg := h
  unfold goodC at hg
  rw [Bool.and_eq_true, decide_eq_true_eq] at hg
  have hp := goodF_P hg.2
  have hc := cur_bound hp
  have e5 : (tag :: (numB (f.cur + 1) 4 ++ ((f.l.length : Int) :: f.l.flatMap itemB))).getD 5 0 = (f.l.length : Int) := rfl
  have hf : fits3 (tag :: (numB (f.cur + 1) 4 ++ ((f.l.length : Int) :: f.l.flatMap itemB))) := by
    refine ⟨by simp only [List.length_cons, List.length_append, numB_length, flatB_length]; omega, ?_⟩
    rw [e5]
    simp only [List.length_cons, List.length_append, numB_length, flatB_length]
    omega
  have hr : readF (tag :: (numB (f.cur + 1) 4 ++ ((f.l.length : Int) :: f.l.flatMap itemB))) = f := by
    unfold readF
    rw [e5]
    have e1 : (tag :: (numB (f.cur + 1) 4 ++ ((f.l.length : Int) :: f.l.flatMap itemB))).drop 1 = numB (f.cur + 1) 4 ++ ([(f.l.length : Int)] ++ f.l.flatMap itemB) := rfl
    rw [e1, take_app _ _ 4 (numB_length _ _), drop_app _ _ 4 (numB_length _ _), drop_app _ _ 1 rfl, read4 (by omega) (by omega), Int.toNat_natCast, items_flat _ hp.2.2.1]
    cases f
    simp
  unfold getB
  rw [openB_put]
  simp only
  rw [if_neg (by simp), if_neg (by simp), if_neg (by simpa using hf), hr, List.getD_cons_zero, if_pos h]

/-! ### as it was written once -/
def W32 (m : Int) : Int := (m + 2147483648) % 4294967296 - 2147483648
def itemsE (lags : Bool) : Nat → List Int → List It
  | 0, _ => []
  | k + 1, b => ⟨readB (b.take 2), readB ((b.drop 2).take 1), if lags = true then W32 (readB (((b.drop 2).drop 1).take 4)) * 232792560 else 0⟩ :: itemsE lags k (if lags = true then ((b.drop 2).drop 1).drop 4 else (b.drop 2).drop 1)
def sizeE (lags : Bool) : Nat := if lags = true then 7 else 3
def fitsE (lags : Bool) (b : List Int) : Prop := 1 ≤ b.length ∧ (b.length : Int) - 1 = sizeE lags * b.getD 0 0
instance (lags : Bool) (b : List Int) : Decidable (fitsE lags b) := by unfold fitsE; infer_instance
def elderT (v : Int) (x : List Int) : Bool × List Int × Int :=
  if v = 2 then (true, (x.drop 1).drop 2, readB ((x.drop 1).take 2) - 1) else (false, x.drop 1, -1)
def elderF (v : Int) (x : List Int) : Fm := ⟨(elderT v x).2.2, itemsE (elderT v x).1 ((elderT v x).2.1.getD 0 0).toNat ((elderT v x).2.1.drop 1)⟩
def elderOk (v : Int) (x : List Int) : Prop := 1 ≤ x.length ∧ (v = 2 → 3 ≤ x.length)
instance (v : Int) (x : List Int) : Decidable (elderOk v x) := by unfold elderOk; infer_instance
def upB (b : List Int) : List Int × Int :=
  if (openB b).2.2 ≠ 0 then ([], (openB b).2.2)
  else if (openB b).2.1 = 3 then (if (getB b).2.2 ≠ 0 then ([], (getB b).2.2) else (b, 0))
  else if (openB b).2.1 ≠ 1 ∧ (openB b).2.1 ≠ 2 then ([], 10)
  else if ¬ elderOk (openB b).2.1 (openB b).1 then ([], 8)
  else if ¬ fitsE (elderT (openB b).2.1 (openB b).1).1 (elderT (openB b).2.1 (openB b).1).2.1 then ([], 8)
  else if goodC ((openB b).1.getD 0 0) (elderF (openB b).2.1 (openB b).1) = true then (putB ((openB b).1.getD 0 0) (elderF (openB b).2.1 (openB b).1), 0)
  else ([], 11)
def readE (b : List Int) : Int × Fm × Int := if (upB b).2 ≠ 0 then (0, ⟨0, []⟩, (upB b).2) else getB (upB b).1
theorem readE_good {b : List Int} (h : (readE b).2.2 = 0) : goodC (readE b).1 (readE b).2.1 = true := by
  unfold readE at h ⊢
  split at h
  · rename_i h1; exact absurd h h1
  · rename_i h1; rw [if_neg h1]; exact getB_good h
theorem upB_put {tag : Int} {f : Fm} (h : goodC tag f = true) : upB (putB tag f) = (putB tag f, 0) := by
  unfold upB
  rw [openB_put, get_put h]
  rfl
theorem readE_put {tag : Int} {f : Fm} (h : goodC tag f = true) : readE (putB tag f) = (tag, f, 0) := by
  unfold readE
  rw [upB_put h]
  exact get_put h
theorem formB_byte {tag : Int} {f : Fm} (h : goodC tag f = true) : ∀ x ∈ formB tag f, Byte x := by
  unfold goodC at h
  rw [Bool.and_eq_true, decide_eq_true_eq] at h
  have hp := goodF_P h.2
  intro x hx
  simp only [formB, List.mem_append, List.mem_cons, List.not_mem_nil, or_false, List.mem_flatMap, itemB] at hx
  have hl := hp.1
  rcases hx with ((rfl | rfl | rfl | rfl) | hx) | rfl | ⟨y, hy, hx | rfl | hx⟩
  · unfold Byte; omega
  · unfold Byte; omega
  · unfold Byte; omega
  · unfold Byte; omega
  · exact numB_byte _ _ _ hx
  · unfold Byte; omega
  · exact numB_byte _ _ _ hx
  · have := mayB_true (hp.2.2.1 y hy); unfold Byte; omega
  · exact numB_byte _ _ _ hx
theorem putB_byte {tag : Int} {f : Fm} (h : goodC tag f = true) : ∀ x ∈ putB tag f, Byte x := sealP_byte (formB_byte h)
theorem upB_byte {b : List Int} (hb : ∀ x ∈ b, Byte x) (h : (upB b).2 = 0) : ∀ x ∈ (upB b).1, Byte x := by
  unfold upB at h ⊢
  split at h
  · rename_i h1; exact absurd h h1
  · rename_i h1
    rw [if_neg h1]
    split at h
    · rename_i h2
      rw [if_pos h2]
      split at h
      · rename_i h3; exact absurd h h3
      · rename_i h3; rw [if_neg h3]; exact hb
    · rename_i h2
      rw [if_neg h2]
      split at h
      · simp at h
      · rename_i h3
        rw [if_neg h3]
        split at h
        · simp at h
        · rename_i h4
          rw [if_neg h4]
          split at h
          · simp at h
          · rename_i h5
            rw [if_neg h5]
            split at h
            · rename_i h6; rw [if_pos h6]; exact putB_byte h6
            · simp at h
end Go.Proofs.YtlgkkolgdjgclaaGreat
/- Packages seal and code: the seal; numbers. -/
namespace Go.Proofs.YtlgkkolgdjgclaaGreat
open Go.RowKit
set_option linter.unusedVariables false
set_option linter.unusedSimpArgs false

def encU (x : Int) : List Value := [.int .u8 x]
theorem encU_len (x : Int) : (encU x).length = 1 := rfl
theorem flatU : ∀ l : List Int, flat encU l = l.map (Value.int .u8)
  | [] => rfl
  | x :: l => by rw [flat, List.flatMap_cons]; show _ = Value.int .u8 x :: l.map _; rw [← flatU l]; rfl

set_option maxHeartbeats 1600000 in
set_option maxRecDepth 100000 in
theorem SealOf (l : List Int) (n : Nat) (a : Option Addr) (c : Nat) (w : World) (hn : l.length = n) (hl : n ≤ 4611686018427387904) (hs : Sl encU 1 w a l) :
    Calls Tryz.prog 134 #[.slice a n c] w fun e w' => e = .returned (.int .u32 (ofB l)) ∧ Below w.heap.size w w' := by
  have HS := Lib.hid hs
  have Hn := Lib.hid hn
  clear hs hn
  go_enter Tryz.func134, Tryz.ntmps134
  go_wp2_with fail
  go_loopw [3, 8] (fun s i wr => ∃ k : Nat, k ≤ n ∧ s = .int .u32 (ofR 4294967295 (l.take k)) ∧ i = .int .i64 k ∧ Below w.heap.size w wr) (fun _ i _ => n - (intOf i).toNat)
  case atStart => exact ⟨0, Nat.zero_le _, rfl, rfl, Below.refl _ _⟩
  case round =>
    obtain ⟨k, hk, rfl, rfl, hb⟩ := hrel
    by_cases hlt : k < n
    · obtain ⟨r, off, rfl, hr, hcc⟩ := HS.out (by intro h; have h1 := Hn.out; rw [h] at h1; simp at h1; omega)
      obtain ⟨x, hx⟩ : ∃ x, l[k]? = some x := ⟨_, List.getElem?_eq_getElem (by rw [Hn.out]; exact hlt)⟩
      have e0 := (hb.cell (p := ⟨r, off + k * 1 + 0, none⟩) hr).trans (hcc k x hx 0 _ rfl)
      simp only [Nat.add_zero, Nat.mul_one] at e0
      have hki : (k : Int) < n := by omega
      have Hx := Lib.hid hx
      clear hx hcc
      go_wp2_with fail
      go_loopw [3, 16] (fun s i w2 => ∃ j : Nat, j ≤ 8 ∧ s = .int .u32 (stepN j (bits .xor .u32 (ofR 4294967295 (l.take k)) (x % 4294967296))) ∧ i = .int .i64 j ∧ w2 = wr) (fun _ i _ => 8 - (intOf i).toNat)
      case atStart => exact ⟨0, by omega, rfl, rfl, rfl⟩
      case round =>
        obtain ⟨j, hj, rfl, rfl, rfl⟩ := hrel
        by_cases hjt : j < 8
        · have hji : (j : Int) < 8 := by omega
          go_wp2_with fail
          go_roundw
          case rel => exact ⟨j + 1, by omega, rfl, by go_num, trivial⟩
          case measure => simp [intOf]; omega
        · obtain rfl : j = 8 := by omega
          go_wp2_with fail
          go_roundw
          case rel =>
            refine ⟨k + 1, by omega, ?_, by go_num, hb⟩
            rw [List.take_succ_eq_append_getElem (List.getElem?_eq_some_iff.1 Hx.out).1, (List.getElem?_eq_some_iff.1 Hx.out).2]
            unfold ofR
            rw [List.foldl_append]
            rfl
          case measure => simp [intOf]; omega
    · obtain rfl : k = n := by omega
      go_wp2_with fail
      go_ret
      refine ⟨?_, hb⟩
      rw [← Hn.out, List.take_length]
      first | rfl | (unfold ofB; rfl)

theorem Sl.dropU {w : World} {a : Option Addr} {l : List Int} (h : Sl encU 1 w a l) (k : Nat) : Sl encU 1 w (a.map (fun x => x.add k)) (l.drop k) := fun hl => by
  obtain ⟨r, off, rfl, hr, hc⟩ := h (by intro h0; rw [h0] at hl; simp at hl)
  refine ⟨r, off + k, by simp [Addr.add], hr, fun j x hj i u hi => ?_⟩
  rw [List.getElem?_drop] at hj
  have := hc (k + j) x hj i u hi
  rw [show off + (k + j) * 1 + i = off + k + j * 1 + i by omega] at this
  exact this
theorem Sl.takeU {w : World} {a : Option Addr} {l : List Int} (h : Sl encU 1 w a l) (k : Nat) : Sl encU 1 w a (l.take k) := fun hl => by
  obtain ⟨r, off, rfl, hr, hc⟩ := h (by intro h0; rw [h0] at hl; simp at hl)
  refine ⟨r, off, rfl, hr, fun j x hj i u hi => hc j x ?_ i u hi⟩
  rw [List.getElem?_take] at hj
  split at hj
  · exact hj
  · cases hj
theorem rd_is (y x : Int) (hx : Byte x) : bits .or .i64 (wrap64 (y * 256)) (wrap64 x) = rd y x := by
  unfold Byte at hx
  have e1 : wrap64 x = x := by unfold wrap64; omega
  have e2 : wrap64 (y * 256) = W64 (y * 256) := by unfold wrap64 W64; rfl
  rw [e1, e2, or8 _ _ (by unfold W64; omega) hx.1 (by omega)]
  have := W64_mul (y * 256) 1 x
  rw [Int.mul_one, Int.mul_one] at this
  exact this

/-- Where what is behind a cut begins. -/
def cutA (a : Option Addr) (c k : Nat) : Option Addr := if c = k then a else a.map (fun x => x.add k)
theorem Sl.cutU {w : World} {a : Option Addr} {l : List Int} (h : Sl encU 1 w a l) (c k : Nat) (hc : l.length ≤ c) : Sl encU 1 w (cutA a c k) (l.drop k) := by
  unfold cutA
  split
  · rw [List.drop_eq_nil_of_le (by omega)]; exact Sl.nil
  · exact h.dropU k

set_option maxHeartbeats 1600000 in
set_option maxRecDepth 100000 in
theorem Read_any (l : List Int) (size n : Nat) (a : Option Addr) (c : Nat) (w : World) (hn : l.length = n) (hl : n ≤ 4611686018427387904) (hz : size ≤ n) (hc : n ≤ c) (hB : ∀ x ∈ l, Byte x) (hs : Sl encU 1 w a l) :
    Calls Tryz.prog 138 #[.slice a n c, .int .i64 size] w fun e w' => e = .returned (.tuple #[.int .i64 (readB (l.take size)), .slice (cutA a c size) (n - size) (c - size)]) ∧ Below w.heap.size w w' := by
  have HS := Lib.hid hs
  have Hn := Lib.hid hn
  have HB := Lib.hid hB
  clear hs hn hB
  have hzi : (size : Int) ≤ n := by omega
  have hci : (n : Int) ≤ c := by omega
  go_enter Tryz.func138, Tryz.ntmps138
  go_wp2_with fail
  go_loopw [6, 13] (fun s i w2 => ∃ k : Nat, k ≤ size ∧ s = .int .i64 (readB (l.take k)) ∧ i = .int .i64 k ∧ w2 = w) (fun _ i _ => size - (intOf i).toNat)
  case atStart => exact ⟨0, Nat.zero_le _, rfl, rfl, rfl⟩
  case round =>
    obtain ⟨k, hk, rfl, rfl, rfl⟩ := hrel
    by_cases hlt : k < size
    · obtain ⟨r, off, rfl, hr, hcc⟩ := HS.out (by intro h; have h1 := Hn.out; rw [h] at h1; simp at h1; omega)
      obtain ⟨x, hx⟩ : ∃ x, l[k]? = some x := ⟨_, List.getElem?_eq_getElem (by rw [Hn.out]; omega)⟩
      have e0 := hcc k x hx 0 _ rfl
      simp only [Nat.add_zero, Nat.mul_one] at e0
      have hki : (k : Int) < size := by omega
      have Hx := Lib.hid hx
      clear hx hcc
      go_wp2_with fail
      go_roundw
      case rel =>
        refine ⟨k + 1, by omega, ?_, by go_num, trivial⟩
        rw [List.take_succ_eq_append_getElem (List.getElem?_eq_some_iff.1 Hx.out).1, (List.getElem?_eq_some_iff.1 Hx.out).2]
        rw [rd_is _ _ (HB.out x (List.mem_of_getElem? Hx.out))]
        unfold readB
        rw [List.foldl_append]
        rfl
      case measure => simp [intOf]; omega
    · obtain rfl : k = size := by omega
      go_wp2_with fail
      refine wp_region_chain 27 [0, 0, 0, 6, 1, 31] [(0, none), (1, none), (2, none), (3, none), (4, none), (5, none)] (by kernel_rfl) (by kernel_rfl) (by rfl) ?_; simp only [chain, Obs, List.getElem?_toArray, List.getElem?_cons_zero, List.getElem?_cons_succ]
      go_wp2_with (with_reducible refine And.intro (by first | with_reducible exact True.intro | with_reducible rfl | go_simp) ?_)
      · rename_i hck
        obtain rfl : c = k := by omega
        obtain rfl : n = c := by omega
        refine NoPanic.normal ?_
        go_wp2_with fail
        go_ret2
        exact ⟨by simp only [Nat.sub_self]; rw [cutA, if_pos rfl]; rfl, (Below.refl _ _).drew⟩
      · rename_i hck
        refine NoPanic.normal ?_
        go_wp2_with fail
        go_ret2
        have e1 : cutA a c k = a.map (fun x => x.add k) := by unfold cutA; exact if_neg (by omega)
        exact ⟨by rw [e1]; rfl, (Below.refl _ _).drew⟩

theorem Clone_any (l : List Int) (n : Nat) (a : Option Addr) (c : Nat) (w : World) (hn : l.length = n) (hl : n ≤ 100000000000000) (hs : Sl encU 1 w a l) :
    Calls Tryz.prog 135 #[.slice a n c] w fun e w' => ∃ a' c', e = .returned (.slice a' n c') ∧ w'.ownsRow w.heap.size 5 1 (.slice a' n c') n (flat encU l) ∧ Below w.heap.size w w' := by
  cases a with
  | none =>
    obtain rfl : l = [] := by
      cases l with
      | nil => rfl
      | cons x l => obtain ⟨r, off, h, _⟩ := hs (by simp); cases h
    subst hn
    exact (Any.bytes_Clone_nil Tryz.laysClone 0 c w).mono fun e w' ⟨h1, h2⟩ => ⟨none, 0, h1, World.ownsRow_nil _ _ _ _, by rw [h2]; exact Below.refl _ _⟩
  | some A =>
    refine (Any.bytes_Clone_at Tryz.laysClone A n c l w hn (by omega) (fun i hi => ?_)).mono fun e w' ⟨v', h1, h2, _, h4⟩ => ?_
    · obtain ⟨r, off, h, _, hc⟩ := hs (by intro h0; rw [h0] at hn; simp at hn; omega)
      cases h
      have := hc i (l.getD i 0) (by rw [List.getD_eq_getElem?_getD, List.getElem?_eq_getElem (by omega)]; rfl) 0 _ rfl
      rw [show (⟨r, off, none⟩ : Addr).add i = ⟨r, off + i, none⟩ from Addr.add_lit _ _ _]
      simpa using this
    · obtain ⟨a', c', rfl, _⟩ := own_slice h2
      exact ⟨a', c', h1, by rw [flatU]; exact h2, h4⟩

theorem bytesOf_inj : ∀ (l m : List Int), (∀ x ∈ l, Byte x) → (∀ x ∈ m, Byte x) → (Lib.bytesOf l == Lib.bytesOf m) = decide (l = m) := by
  intro l
  induction l with
  | nil => intro m _ _; cases m <;> simp [Lib.bytesOf]
  | cons x l ih =>
    intro m hl hm
    cases m with
    | nil => simp [Lib.bytesOf]
    | cons y m =>
      have h1 := hl x List.mem_cons_self
      have h2 := hm y List.mem_cons_self
      have h3 := ih m (fun z hz => hl z (List.mem_cons_of_mem _ hz)) (fun z hz => hm z (List.mem_cons_of_mem _ hz))
      unfold Byte at h1 h2
      have h4 : (UInt8.ofNat x.toNat == UInt8.ofNat y.toNat) = decide (x = y) := by
        rw [Bool.eq_iff_iff, beq_iff_eq, decide_eq_true_eq]
        constructor
        · intro h
          have := congrArg UInt8.toNat h
          rw [UInt8.toNat_ofNat', UInt8.toNat_ofNat'] at this
          omega
        · intro h; rw [h]
      have e : (Lib.bytesOf (x :: l) == Lib.bytesOf (y :: m)) = ((UInt8.ofNat x.toNat == UInt8.ofNat y.toNat) && (Lib.bytesOf l == Lib.bytesOf m)) := rfl
      rw [e, h3, h4]
      rw [Bool.eq_iff_iff]
      simp
theorem Equal_any (l m : List Int) (n k : Nat) (a b : Option Addr) (c d : Nat) (w : World) (hn : l.length = n) (hk : m.length = k) (hl : ∀ x ∈ l, Byte x) (hm : ∀ x ∈ m, Byte x) (h1 : Sl encU 1 w a l) (h2 : Sl encU 1 w b m) {v : Bool} (hv : decide (l = m) = v) :
    Calls Tryz.prog 155 #[.slice a n c, .slice b k d] w fun e w' => e = .returned (.bool v) ∧ w' = w := by
  have key : ∀ (l : List Int) (n : Nat) (a : Option Addr), l.length = n → Sl encU 1 w a l → Lib.BytesIn w a n l := fun l n a hn hs h0 => by
    obtain ⟨r, off, h, _, hc⟩ := hs (by intro h0; rw [h0] at hn; simp at hn; omega)
    refine ⟨r, off, h, fun i hi => ?_⟩
    have := hc i (l.getD i 0) (by rw [List.getD_eq_getElem?_getD, List.getElem?_eq_getElem (by omega)]; rfl) 0 _ rfl
    simpa using this
  rw [← hv, ← bytesOf_inj l m hl hm]
  exact Any.bytes_Equal_all Tryz.laysEqual a b n c k d l m w hn hk (key l n a hn h1) (key m k b hk h2)

theorem infoU : (Tryz.prog.info? 5).map (fun i => (i.zero, i.size, i.bytes)) = some (some (.int .u8 0), 1, 1) := by kernel_rfl
set_option maxHeartbeats 1600000 in
set_option maxRecDepth 100000 in
theorem SealPut (l : List Int) (n : Nat) (a : Option Addr) (c : Nat) (w : World) (hn : l.length = n) (hl : n ≤ 10000000000000) (hs : Sl encU 1 w a l) :
    Calls Tryz.prog 114 #[.slice a n c] w fun e w' => ∃ a' c', e = .returned (.slice a' (n + 4) c') ∧ w'.ownsRow w.heap.size 5 1 (.slice a' (n + 4) c') (n + 4) (flat encU (sealP l)) ∧ Below w.heap.size w w' := by
  have HO := Lib.hid (SealOf l n a c w hn (by omega) hs)
  have HC := Lib.hid (fun W (h : Below w.heap.size w W) => Clone_any l n a c W hn (by omega) (hs.below h))
  clear hs hn
  obtain ⟨i0, hi0, hz0, hz1, hz2⟩ := info_parts infoU
  go_enter Tryz.func114, Tryz.ntmps114
  go_wp2_with (first
    | (go_at_call 134; refine HO.out.mono ?_; rintro e w1 ⟨rfl, hb1⟩)
    | (go_at_call 135; refine (HC.out _ hb1).mono ?_; rintro e w2 ⟨a', c', rfl, ho, hb2⟩; have hb2 := hb1.trans (hb2.mono hb1.size); have Ho := Lib.hid (own_base ho hb1.size); have hsz2 := hb2.size; clear ho)
    | (at_builtin; go_loud (refine wpList_append_lies _ (by rfl) _ _ _ (by rfl) w.heap.size 5 i0 _ 1 1 Tryz.underlying113 hi0 hz0 hz1 hz2 rfl (by omega) (.slice a' n c') n _ (by rfl) (Ho.out.alloc _) ⟨w2.heap.size, 0, none⟩ 4 4 [.int .u8 (ofB l / 16777216 % 256), .int .u8 (ofB l / 65536 % 256), .int .u8 (ofB l / 256 % 256), .int .u8 (ofB l % 256)] (by rfl) (by rfl) (World.news_of_block (cs := #[.int .u8 (ofB l / 16777216 % 256), .int .u8 (ofB l / 65536 % 256), .int .u8 (ofB l / 256 % 256), .int .u8 (ofB l % 256)]) (t := 5) (fr := (0, 0)) (heap_new _ _)) (by simp [Value.oneCell']) (by omega) (by unfold maxLen; omega) (by omega) (by simp; omega) (w2.heap.size + 1) (by simp) ?_); intro gg cap w3 hown1 hgrow hat hlt; have hbb := (hb2.alloc hsz2 _).grown hgrow (by simp; omega) (fun k hk => (Ho.out.lt k hk).1); have q4 := Lib.hid hown1; clear hat hgrow hown1))
  go_ret
  exact ⟨_, _, rfl, by rw [sealP, flat_append]; exact q4.out, hbb⟩
end Go.Proofs.YtlgkkolgdjgclaaGreat
/- Packages seal and code: what is sealed is opened; a form in bytes. -/
namespace Go.Proofs.YtlgkkolgdjgclaaGreat
open Go.RowKit
set_option linter.unusedVariables false
set_option linter.unusedSimpArgs false

set_option maxHeartbeats 1600000 in
set_option maxRecDepth 100000 in
theorem SealGet_some (l x : List Int) (n : Nat) (a : Option Addr) (c : Nat) (w : World) (hn : l.length = n) (hl : n ≤ 1000000000000) (hc : n ≤ c) (hB : ∀ x ∈ l, Byte x) (hs : Sl encU 1 w a l) (hg : sealG l = some x) :
    Calls Tryz.prog 149 #[.slice a n c] w fun e w' => ∃ a' c', e = .returned (.tuple #[.slice a' x.length c', .int .i64 0]) ∧ w'.ownsRow w.heap.size 5 1 (.slice a' x.length c') x.length (flat encU x) ∧ Below w.heap.size w w' := by
  unfold sealG at hg
  split at hg
  case isFalse => cases hg
  case isTrue h0 =>
  obtain ⟨h4, h5⟩ := h0
  cases hg
  rw [hn] at h4 h5 ⊢
  obtain ⟨m, rfl⟩ : ∃ m, n = m + 4 := ⟨n - 4, by omega⟩
  rw [Nat.add_sub_cancel] at h5 ⊢
  have hlm : (l.take m).length = m := by rw [List.length_take, hn]; omega
  rw [hlm]
  have HP := Lib.hid (SealPut (l.take m) m a c w hlm (by omega) (hs.takeU m))
  rw [h5] at HP
  have HE := Lib.hid (fun W b d (h : Below w.heap.size w W) (h2 : Sl encU 1 W b l) => Equal_any l l (m + 4) (m + 4) b a d c W hn hn hB hB h2 (hs.below h) (decide_eq_true rfl))
  have HC := Lib.hid (fun W (h : Below w.heap.size w W) => Clone_any (l.take m) m a c W hlm (by omega) ((hs.takeU m).below h))
  have hmc : (m : Int) ≤ c := by omega
  have Hn := Lib.hid hn
  clear hs hn h5 hB hlm
  go_enter Tryz.func149, Tryz.ntmps149
  go_wp2_with (first
    | (go_at_call 114; refine HP.out.mono ?_; rintro e w1 ⟨a1, c1, rfl, ho, hb1⟩; rw [← Hn.out] at ho; have Ho := Lib.hid (Sl.of_own encU_len ho); clear ho)
    | (go_at_call 155; refine (HE.out _ _ _ hb1 Ho.out).mono ?_; rintro e w2 ⟨rfl, rfl⟩)
    | (go_at_call 135; refine (HC.out _ hb1).mono ?_; rintro e w3 ⟨a3, c3, rfl, ho3, hb3⟩; have Ho3 := Lib.hid ho3; clear ho3))
  go_ret2
  exact ⟨a3, c3, rfl, own_base Ho3.out hb1.size, hb1.trans (hb3.mono hb1.size)⟩

set_option maxHeartbeats 1600000 in
set_option maxRecDepth 100000 in
theorem SealGet_none (l : List Int) (n : Nat) (a : Option Addr) (c : Nat) (w : World) (hn : l.length = n) (hl : n ≤ 1000000000000) (hc : n ≤ c) (hB : ∀ x ∈ l, Byte x) (hs : Sl encU 1 w a l) (hg : sealG l = none) :
    Calls Tryz.prog 149 #[.slice a n c] w fun e w' => e = .returned (.tuple #[.slice none 0 0, .int .i64 9]) ∧ Below w.heap.size w w' := by
  by_cases h4 : 4 ≤ n
  · obtain ⟨m, rfl⟩ : ∃ m, n = m + 4 := ⟨n - 4, by omega⟩
    have h5 : sealP (l.take m) ≠ l := by
      intro h
      unfold sealG at hg
      rw [hn, Nat.add_sub_cancel, if_pos ⟨h4, h⟩] at hg
      cases hg
    have hlm : (l.take m).length = m := by rw [List.length_take, hn]; omega
    have HP := Lib.hid (SealPut (l.take m) m a c w hlm (by omega) (hs.takeU m))
    have HE := Lib.hid (fun W b d (h : Below w.heap.size w W) (h2 : Sl encU 1 W b (sealP (l.take m))) => Equal_any (sealP (l.take m)) l (m + 4) (m + 4) b a d c W (by rw [sealP_length, hlm]) hn (sealP_byte fun x hx => hB x (List.mem_of_mem_take hx)) hB h2 (hs.below h) (decide_eq_false h5))
    have hmc : (m : Int) ≤ c := by omega
    have hpl : (sealP (l.take m)).length = m + 4 := by rw [sealP_length, hlm]
    have Hpl := Lib.hid hpl
    clear hs hn h5 hB hlm hg hpl
    go_enter Tryz.func149, Tryz.ntmps149
    go_wp2_with (first
      | (go_at_call 114; refine HP.out.mono ?_; rintro e w1 ⟨a1, c1, rfl, ho, hb1⟩; rw [← Hpl.out] at ho; have Ho := Lib.hid (Sl.of_own encU_len ho); clear ho)
      | (go_at_call 155; refine (HE.out _ _ _ hb1 Ho.out).mono ?_; rintro e w2 ⟨rfl, rfl⟩))
    go_ret2
    exact ⟨rfl, hb1⟩
  · have h4i : (n : Int) < 4 := by omega
    clear hs hB hg
    go_enter Tryz.func149, Tryz.ntmps149
    go_wp2_with fail
    all_goals go_ret2
    all_goals exact ⟨rfl, Below.refl _ _⟩

set_option maxHeartbeats 1600000 in
set_option maxRecDepth 100000 in
theorem Number_any (l : List Int) (v : Int) (size n : Nat) (B : Nat) (a : Option Addr) (c : Nat) (w : World) (hv : -9223372036854775808 ≤ v ∧ v ≤ 9223372036854775807) (hz : size ≤ 8) (hn : n ≤ 10000000000) (hB : B ≤ w.heap.size) (ho : w.ownsRow B 5 1 (.slice a n c) n (flat encU l)) :
    Calls Tryz.prog 113 #[.slice a n c, .int .i64 v, .int .i64 size] w fun e w' => ∃ a' c', e = .returned (.slice a' (n + size) c') ∧ w'.ownsRow B 5 1 (.slice a' (n + size) c') (n + size) (flat encU (l ++ numB v size)) ∧ Fr (fun q => (Value.slice a n c).ownBlock = some q) w w' ∧ (∀ q, (Value.slice a' (n + size) c').ownBlock = some q → (Value.slice a n c).ownBlock = some q ∨ w.heap.size ≤ q) := by
  obtain ⟨i0, hi0, hz0, hz1, hz2⟩ := info_parts infoU
  have HO := Lib.hid ho
  clear ho
  go_enter Tryz.func113, Tryz.ntmps113
  go_wp2_with fail
  go_loopw [0, 7] (fun s i wr => ∃ (j m : Nat) (a' : Option Addr) (c' : Nat) (xs : List Int), j ≤ size ∧ m + j = n + size ∧ s = .slice a' m c' ∧ i = .int .i64 ((j : Int) - 1) ∧ wr.ownsRow B 5 1 (.slice a' m c') m (flat encU xs) ∧ xs ++ numB v j = l ++ numB v size ∧ Fr (fun q => (Value.slice a n c).ownBlock = some q) w wr ∧ (∀ q, (Value.slice a' m c').ownBlock = some q → (Value.slice a n c).ownBlock = some q ∨ w.heap.size ≤ q)) (fun _ i _ => (intOf i + 1).toNat)
  case atStart => exact ⟨size, n, a, c, l, Nat.le_refl _, rfl, rfl, rfl, HO.out, rfl, Fr.refl _ _, fun q h => .inl h⟩
  case round =>
    obtain ⟨j, m, a', c', xs, hj, hm, rfl, rfl, hown, hxs, hF, hO⟩ := hrel
    have hsz := hF.size
    cases j with
    | zero =>
      go_wp2_with fail
      go_ret
      obtain rfl : m = n + size := by omega
      rw [numB, List.append_nil] at hxs
      exact ⟨a', c', rfl, by rw [← hxs]; exact hown, hF, hO⟩
    | succ j =>
      have e1 : ((j + 1 : Nat) : Int) - 1 = (j : Int) := by omega
      rw [e1]
      have hji : (j : Int) < 8 := by omega
      have hj0 : (0 : Int) ≤ j := by omega
      have Ho := Lib.hid hown
      have Hx := Lib.hid hxs
      have HF := Lib.hid hF
      have HQ := Lib.hid hO
      clear hown hxs hF hO
      have hm1 : m ≤ 10000000008 := by omega
      have ep : v / 2 ^ (8 * j) % 256 = byteAt v j := by unfold byteAt; rw [Int.pow_mul]; rfl
      go_wp2_with (at_builtin; go_loud (refine wpList_append_lies _ (by rfl) _ _ _ (by rfl) B 5 i0 _ 1 1 Tryz.underlying113 hi0 hz0 hz1 hz2 rfl (by omega) (.slice a' m c') m _ (by rfl) (Ho.out.alloc _) ⟨wr.heap.size, 0, none⟩ 1 1 [.int .u8 (byteAt v j)] (by rfl) (by rfl) (World.news_of_block (cs := #[.int .u8 (byteAt v j)]) (t := 5) (fr := (0, 0)) (heap_new _ _)) (by simp [Value.oneCell']) (by omega) (by unfold maxLen; omega) (by omega) (by simp; omega) (wr.heap.size + 1) (by simp) ?_); intro gg cap w3 hown1 hgrow hat hlt; have hfr : Fr (fun q => (Value.slice a' m c').ownBlock = some q) wr w3 := ((Fr.refl _ wr).alloc _).trans (Fr.of_grown hgrow) (fun _ _ h => h); have hbb := Lib.hid (HF.out.trans hfr (fun k hk h => (HQ.out k h).elim id (fun h => by omega))); have hqq := Lib.hid (hat.elim (fun h => HQ.out gg h) (fun h => .inr (by omega)) : (Value.slice a n c).ownBlock = some gg ∨ w.heap.size ≤ gg); have q4 := Lib.hid hown1; clear hat hgrow hown1 hfr)
      go_roundw
      case rel =>
        refine ⟨j, m + 1, _, cap, xs ++ [byteAt v j], by omega, by omega, rfl, rfl, ?_, ?_, hbb.out, fun q hq => by simp only [Value.ownBlock, Option.some.injEq] at hq; subst hq; exact hqq.out⟩
        · rw [flat_append]
          exact q4.out
        · rw [← Hx.out, List.append_assoc]; rfl
      case measure => simp [intOf]; try omega

/-- What a call that writes on leaves. -/
def NumPost (B : Nat) (a : Option Addr) (n c k : Nat) (l : List Int) (w : World) (e : Ending) (w' : World) : Prop :=
  ∃ a' c', e = .returned (.slice a' (n + k) c') ∧ w'.ownsRow B 5 1 (.slice a' (n + k) c') (n + k) (flat encU l) ∧ Fr (fun q => (Value.slice a n c).ownBlock = some q) w w' ∧ (∀ q, (Value.slice a' (n + k) c').ownBlock = some q → (Value.slice a n c).ownBlock = some q ∨ w.heap.size ≤ q)
theorem Number4 (l : List Int) (v : Int) (n : Nat) (B : Nat) (a : Option Addr) (c : Nat) (w : World) (hv : -9223372036854775808 ≤ v ∧ v ≤ 9223372036854775807) (hn : n ≤ 10000000000) (hB : B ≤ w.heap.size) (ho : w.ownsRow B 5 1 (.slice a n c) n (flat encU l)) :
    Calls Tryz.prog 113 #[.slice a n c, .int .i64 v, .int .i64 4] w (NumPost B a n c 4 (l ++ numB v 4) w) := Number_any l v 4 n B a c w hv (by omega) hn hB ho
theorem Number8 (l : List Int) (v : Int) (n : Nat) (B : Nat) (a : Option Addr) (c : Nat) (w : World) (hv : -9223372036854775808 ≤ v ∧ v ≤ 9223372036854775807) (hn : n ≤ 10000000000) (hB : B ≤ w.heap.size) (ho : w.ownsRow B 5 1 (.slice a n c) n (flat encU l)) :
    Calls Tryz.prog 113 #[.slice a n c, .int .i64 v, .int .i64 8] w (NumPost B a n c 8 (l ++ numB v 8) w) := Number_any l v 8 n B a c w hv (by omega) hn hB ho

set_option maxHeartbeats 1600000 in
theorem Version_yes (l : List Int) (n : Nat) (a : Option Addr) (c : Nat) (w : World) (hn : l.length = n) (hl : n ≤ 4611686018427387904) (hB : ∀ x ∈ l, Byte x) (hs : Sl encU 1 w a l) (h3 : 3 ≤ n) (h0 : l.getD 0 0 = 83) (h1 : l.getD 1 0 = 72) :
    Calls Tryz.prog 150 #[.slice a n c] w fun e w' => e = .returned (.tuple #[.int .i64 (l.getD 2 0), .bool true]) ∧ w = w' := by
  have h3i : (3 : Int) ≤ n := by omega
  have hb := hB (l.getD 2 0) (by rw [List.getD_eq_getElem?_getD, List.getElem?_eq_getElem (by omega)]; exact List.getElem_mem _)
  unfold Byte at hb
  obtain ⟨r, off, rfl, _, hc⟩ := hs (by intro h; rw [h] at hn; simp at hn; omega)
  have e0 := hc 0 (l.getD 0 0) (by rw [List.getD_eq_getElem?_getD, List.getElem?_eq_getElem (by omega)]; rfl) 0 _ rfl
  have e1 := hc 1 (l.getD 1 0) (by rw [List.getD_eq_getElem?_getD, List.getElem?_eq_getElem (by omega)]; rfl) 0 _ rfl
  have e2 := hc 2 (l.getD 2 0) (by rw [List.getD_eq_getElem?_getD, List.getElem?_eq_getElem (by omega)]; rfl) 0 _ rfl
  simp only [Nat.zero_mul, Nat.one_mul, Nat.mul_one, Nat.add_zero] at e0 e1 e2
  rw [h0] at e0
  rw [h1] at e1
  generalize l.getD 2 0 = v at *
  clear hc hn hB h0 h1
  go_enter Tryz.func150, Tryz.ntmps150
  go_wp2_with fail
  go_ret2
  exact ⟨rfl, rfl⟩
set_option maxHeartbeats 1600000 in
theorem Version_no (l : List Int) (n : Nat) (a : Option Addr) (c : Nat) (w : World) (hn : l.length = n) (hl : n ≤ 4611686018427387904) (hB : ∀ x ∈ l, Byte x) (hs : Sl encU 1 w a l) (h : ¬ (3 ≤ n ∧ l.getD 0 0 = 83 ∧ l.getD 1 0 = 72)) :
    Calls Tryz.prog 150 #[.slice a n c] w fun e w' => e = .returned (.tuple #[.int .i64 0, .bool false]) ∧ w = w' := by
  by_cases h3 : 3 ≤ n
  · have h3i : ¬ (n : Int) < 3 := by omega
    obtain ⟨r, off, rfl, _, hc⟩ := hs (by intro h; rw [h] at hn; simp at hn; omega)
    have e0 := hc 0 (l.getD 0 0) (by rw [List.getD_eq_getElem?_getD, List.getElem?_eq_getElem (by omega)]; rfl) 0 _ rfl
    have e1 := hc 1 (l.getD 1 0) (by rw [List.getD_eq_getElem?_getD, List.getElem?_eq_getElem (by omega)]; rfl) 0 _ rfl
    simp only [Nat.zero_mul, Nat.one_mul, Nat.mul_one, Nat.add_zero] at e0 e1
    generalize l.getD 0 0 = x0 at *
    generalize l.getD 1 0 = x1 at *
    clear hc hn hB
    by_cases h0 : x0 = 83
    · have h1 : x1 ≠ 72 := fun h1 => h ⟨h3, h0, h1⟩
      have h1b : (x1 != 72) = true := by simpa using h1
      subst h0
      clear h
      go_enter Tryz.func150, Tryz.ntmps150
      go_wp2_with fail
      all_goals go_ret2
      all_goals exact ⟨rfl, rfl⟩
    · have h0b : (x0 != 83) = true := by simpa using h0
      clear h
      go_enter Tryz.func150, Tryz.ntmps150
      go_wp2_with fail
      all_goals go_ret2
      all_goals exact ⟨rfl, rfl⟩
  · have h3i : (n : Int) < 3 := by omega
    clear hs hB h
    go_enter Tryz.func150, Tryz.ntmps150
    go_wp2_with fail
    all_goals go_ret2
    all_goals exact ⟨rfl, rfl⟩

theorem Size_any (n : Int) (w : World) (h : 0 ≤ n ∧ n ≤ 255) : Calls Tryz.prog 140 #[.int .i64 n] w fun e w' => e = .returned (.int .i64 (9 + 13 * n + 4)) ∧ w = w' := by
  go_enter Tryz.func140, Tryz.ntmps140
  go_wp2_with fail
  go_ret
  exact ⟨rfl, rfl⟩

set_option maxHeartbeats 800000 in
theorem CodeGood (tag cur : Int) (l : List It) (n : Nat) (a : Option Addr) (c : Nat) (w : World) (hn : l.length = n) (hl : n ≤ 4611686018427387904) (hs : Sl It.enc 3 w a l) {v : Bool} (hv : goodC tag ⟨cur, l⟩ = v) :
    Calls Tryz.prog 112 #[.int .i64 tag, .agg #[.int .i64 cur, .slice a n c]] w fun e w' => e = .returned (.bool v) ∧ Below w.heap.size w w' := by
  have HG := Lib.hid (GoodF_any cur l n a c _ hn hl (hs.below ((Below.refl _ _).alloc (Nat.le_refl _) (.cells #[.int .i64 cur, .slice a n c] 41))) (v := goodF ⟨cur, l⟩) rfl)
  unfold goodC at hv
  by_cases ht : 0 ≤ tag ∧ tag ≤ 2
  · rw [decide_eq_true ht, Bool.true_and] at hv
    rw [hv] at HG
    have h1 : 0 ≤ tag := ht.1
    have h2 : tag ≤ 2 := ht.2
    clear hv ht hs hn
    go_enter Tryz.func112, Tryz.ntmps112
    go_wp2_with (go_at_call 133; refine HG.out.mono ?_; rintro e w1 ⟨rfl, hb1⟩)
    go_ret
    exact ⟨rfl, ((Below.refl _ _).alloc (Nat.le_refl _) _).trans (hb1.mono (by simp))⟩
  · rw [decide_eq_false ht, Bool.false_and] at hv
    subst hv
    clear HG hs hn
    by_cases h1 : 0 ≤ tag
    · have h2 : ¬ tag ≤ 2 := fun h => ht ⟨h1, h⟩
      clear ht
      go_enter Tryz.func112, Tryz.ntmps112
      go_wp2_with fail
      all_goals go_ret
      all_goals exact ⟨rfl, (Below.refl _ _).alloc (Nat.le_refl _) _⟩
    · clear ht
      go_enter Tryz.func112, Tryz.ntmps112
      go_wp2_with fail
      all_goals go_ret
      all_goals exact ⟨rfl, (Below.refl _ _).alloc (Nat.le_refl _) _⟩
end Go.Proofs.YtlgkkolgdjgclaaGreat
/- Package code: a form is written, opened. -/
namespace Go.Proofs.YtlgkkolgdjgclaaGreat
open Go.RowKit
set_option linter.unusedVariables false
set_option linter.unusedSimpArgs false

theorem own_cap {w : World} {B e k n c : Nat} {a : Option Addr} {xs : List Value} (h : w.ownsRow B e k (.slice a n c) n xs) : n ≤ c := by
  rcases h.2 with ⟨h1, h2⟩ | ⟨g, cap, cur, hv, _, _, h3, _⟩
  · subst h2; exact Nat.zero_le _
  · simp at hv; obtain ⟨_, rfl⟩ := hv; exact h3

theorem own_len {w : World} {B e n : Nat} {v : Value} {l : List Int} (h : w.ownsRow B e 1 v n (flat encU l)) : l.length = n := by
  have h1 := h.1
  rw [flat_length encU_len] at h1
  omega
theorem own_sl {w : World} {B e n c : Nat} {a : Option Addr} {l : List Int} (h : w.ownsRow B e 1 (.slice a n c) n (flat encU l)) : Sl encU 1 w a l := by
  obtain rfl := own_len h
  exact Sl.of_own encU_len h
theorem Sl.dropV {w : World} {a : Option Addr} {l : List Int} (h : Sl encU 1 w a l) (k : Nat) : Sl encU 1 w (a.map (fun x => ({ block := x.block, off := x.off + k } : Addr))) (l.drop k) := fun hl => by
  obtain ⟨r, off, rfl, hr, hc⟩ := h (by intro h0; rw [h0] at hl; simp at hl)
  refine ⟨r, off + k, rfl, hr, fun j x hj i u hi => ?_⟩
  rw [List.getElem?_drop] at hj
  have := hc (k + j) x hj i u hi
  rw [show off + (k + j) * 1 + i = off + k + j * 1 + i by omega] at this
  exact this
set_option maxHeartbeats 1600000 in
set_option maxRecDepth 100000 in
theorem Open_any (l : List Int) (n : Nat) (a : Option Addr) (c : Nat) (w : World) (hn : l.length = n) (hl : n ≤ 1000000000000) (hc : n ≤ c) (hB : ∀ x ∈ l, Byte x) (hs : Sl encU 1 w a l) :
    Calls Tryz.prog 136 #[.slice a n c] w fun e w' => ∃ a' c', e = .returned (.tuple #[.slice a' (openB l).1.length c', .int .i64 (openB l).2.1, .int .i64 (openB l).2.2]) ∧ Sl encU 1 w' a' (openB l).1 ∧ (openB l).1.length ≤ c' ∧ Below w.heap.size w w' := by
  cases hg : sealG l with
  | none =>
    have e : openB l = ([], 0, 9) := by unfold openB; rw [hg]
    rw [e]
    have HG := Lib.hid (SealGet_none l n a c w hn hl hc hB hs hg)
    clear hs hB hn e hg
    go_enter Tryz.func136, Tryz.ntmps136
    go_wp2_with (go_at_call 149; refine HG.out.mono ?_; rintro e w1 ⟨rfl, hb1⟩)
    go_ret3
    exact ⟨none, 0, rfl, Sl.nil, Nat.le_refl _, hb1⟩
  | some x =>
    have HG := Lib.hid (SealGet_some l x n a c w hn hl hc hB hs hg)
    have hBx := sealG_byte hB hg
    have hxl : x.length ≤ n := by
      unfold sealG at hg
      split at hg
      · cases hg; rw [List.length_take]; omega
      · cases hg
    by_cases hv : 3 ≤ x.length ∧ x.getD 0 0 = 83 ∧ x.getD 1 0 = 72
    · have e : openB l = (x.drop 3, x.getD 2 0, 0) := by unfold openB; rw [hg]; simp only; rw [if_pos hv]
      rw [e]
      have HV := Lib.hid (fun W b d (h : Sl encU 1 W b x) => Version_yes x x.length b d W rfl (by omega) hBx h hv.1 hv.2.1 hv.2.2)
      have h3 : (3 : Int) ≤ x.length := by omega
      have h3n : 3 ≤ x.length := hv.1
      have Hld := Lib.hid (List.length_drop (i := 3) (l := x))
      generalize hln : x.length = m at *
      have Hln := Lib.hid hln
      clear hs hB hn e hg hv hBx hln
      go_enter Tryz.func136, Tryz.ntmps136
      go_wp2_with (first
        | (go_at_call 149; refine HG.out.mono ?_; rintro e w1 ⟨a1, c1, rfl, ho, hb1⟩; have hmc := own_cap ho; have hmci : (m : Int) ≤ c1 := (by omega); rw [← Hln.out] at ho; have Hs1 := Lib.hid (Sl.of_own encU_len ho); clear ho)
        | (go_at_call 150; refine (HV.out _ _ _ Hs1.out).mono ?_; rintro e w2 ⟨rfl, rfl⟩))
      · have hm3 : m = 3 := by omega
        subst hm3
        go_ret3
        refine ⟨a1, 0, by rw [Hln.out]; rfl, ?_, by rw [Hln.out]; omega, hb1⟩
        rw [List.drop_eq_nil_of_le (by rw [Hln.out]; omega)]
        exact Sl.nil
      · go_ret3
        exact ⟨_, _, by rw [Hln.out]; rfl, Hs1.out.dropV 3, by rw [Hln.out]; omega, hb1⟩
    · have e : openB l = ([], 0, 8) := by unfold openB; rw [hg]; simp only; rw [if_neg hv]
      rw [e]
      have HV := Lib.hid (fun W b d (h : Sl encU 1 W b x) => Version_no x x.length b d W rfl (by omega) hBx h hv)
      generalize hln : x.length = m at *
      have Hln := Lib.hid hln
      clear hs hB hn e hg hv hBx hln
      go_enter Tryz.func136, Tryz.ntmps136
      go_wp2_with (first
        | (go_at_call 149; refine HG.out.mono ?_; rintro e w1 ⟨a1, c1, rfl, ho, hb1⟩; rw [← Hln.out] at ho; have Hs1 := Lib.hid (Sl.of_own encU_len ho); clear ho)
        | (go_at_call 150; refine (HV.out _ _ _ Hs1.out).mono ?_; rintro e w2 ⟨rfl, rfl⟩))
      go_ret3
      exact ⟨none, 0, rfl, Sl.nil, Nat.le_refl _, hb1⟩

def formTo (tag cur : Int) (l : List It) (k : Nat) : List Int := [83, 72, 3, tag] ++ numB (cur + 1) 4 ++ ((l.length : Int) :: (l.take k).flatMap itemB)

set_option maxHeartbeats 3200000 in
set_option maxRecDepth 100000 in
theorem CodePut_ok (tag cur : Int) (l : List It) (n : Nat) (a : Option Addr) (c : Nat) (w : World) (hn : l.length = n) (hs : Sl It.enc 3 w a l) (hg : goodC tag ⟨cur, l⟩ = true) :
    Calls Tryz.prog 96 #[.int .i64 tag, .agg #[.int .i64 cur, .slice a n c]] w fun e w' => ∃ a' c', e = .returned (.tuple #[.slice a' (putB tag ⟨cur, l⟩).length c', .int .i64 0]) ∧ w'.ownsRow w.heap.size 5 1 (.slice a' (putB tag ⟨cur, l⟩).length c') (putB tag ⟨cur, l⟩).length (flat encU (putB tag ⟨cur, l⟩)) ∧ Below w.heap.size w w' := by
  have hgg := hg
  unfold goodC at hgg
  rw [Bool.and_eq_true, decide_eq_true_eq] at hgg
  have hp := goodF_P hgg.2
  have hcb := cur_bound hp
  simp only at hcb
  have hl64 : n ≤ 64 := by have := hp.1; simp only at this; omega
  have hlen : (putB tag ⟨cur, l⟩).length = 9 + 13 * n + 4 := by
    unfold putB formB
    rw [sealP_length]
    simp only [List.length_append, List.length_cons, List.length_nil, numB_length, flatB_length]
    omega
  rw [hlen]
  obtain ⟨i0, hi0, hz0, hz1, hz2⟩ := info_parts infoU
  have HG := Lib.hid (CodeGood tag cur l n a c _ hn (by omega) (hs.below ((Below.refl _ _).alloc (Nat.le_refl _) (.cells #[.int .i64 cur, .slice a n c] 41))) hg)
  have HS := Lib.hid hs
  have Hn := Lib.hid hn
  have Hp := Lib.hid hp.2.2.1
  have Hlen := Lib.hid hlen
  have t0 := hgg.1.1
  have t1 := hgg.1.2
  have c0 := hcb.1
  have c1 := hcb.2
  have Hbox := heap_new w (.cells #[.int .i64 cur, .slice a n c] 41)
  have tm : tag % 256 = tag := by omega
  have nm : (n : Int) % 256 = n := by omega
  clear hs hn hg hgg hp hcb hlen
  go_enter Tryz.func96, Tryz.ntmps96
  go_wp2_with (go_at_call 112; refine HG.out.mono ?_; rintro e w1 ⟨rfl, hb1⟩; have hh := heap_below Hbox hb1; obtain ⟨g0, g1, y0, y1, gl⟩ := blk2 hh; have Hh := Lib.hid hh; clear hh)
  have hBw : w.heap.size + 1 ≤ w1.heap.size := gl
  have Ho1 : (w1.alloc (.cells #[.int .u8 83, .int .u8 72, .int .u8 3, .int .u8 tag] 5)).ownsRow (w.heap.size + 1) 5 1 (.slice (some ⟨w1.heap.size, 0, none⟩) 4 4) 4 (flat encU [83, 72, 3, tag]) := ⟨rfl, .inr ⟨w1.heap.size, 4, #[.int .u8 83, .int .u8 72, .int .u8 3, .int .u8 tag], rfl, hBw, heap_new _ _, Nat.le_refl _, by unfold maxLen; omega, rfl, rfl⟩⟩
  refine (Number4 [83, 72, 3, tag] (cur + 1) 4 (w.heap.size + 1) _ _ _ (by omega) (by omega) (by simp; omega) Ho1).mono ?_
  rintro e w2 ⟨a2, k2, rfl, ho2, hf2, hq2⟩
  have hb2 := hf2.below (B := w.heap.size + 1) (by simp; omega) (fun k hk => (Ho1.lt k hk).1)
  have hc2 : Below w.heap.size w w2 := (((((Below.refl w.heap.size w).alloc (Nat.le_refl _) _).trans (hb1.mono (by simp))).alloc (by omega) _).trans (hb2.mono (by omega)))
  have hx2 : w2.heap[w.heap.size]? = some (.cells #[.int .i64 cur, .slice a n c] 41 (0, 0)) := (hb2.block w.heap.size (by omega)).trans (heap_alloc Hh.out _)
  obtain ⟨g0, g1, y0, y1, gl2⟩ := blk2 hx2
  have Ho2 := Lib.hid ho2
  have Hx2 := Lib.hid hx2
  have Hc2 := Lib.hid hc2
  clear ho2 hf2 hq2 hb2 hx2 hc2 Ho1
  go_wp2_with (at_builtin; go_loud (refine wpList_append_lies _ (by rfl) _ _ _ (by rfl) (w.heap.size + 1) 5 i0 _ 1 1 Tryz.underlying113 hi0 hz0 hz1 hz2 rfl (by omega) (.slice a2 (4 + 4) k2) (4 + 4) _ (by rfl) (Ho2.out.alloc _) ⟨w2.heap.size, 0, none⟩ 1 1 [.int .u8 n] (by rfl) (by rfl) (World.news_of_block (cs := #[.int .u8 n]) (t := 5) (fr := (0, 0)) (heap_new _ _)) (by simp [Value.oneCell']) (by omega) (by unfold maxLen; omega) (by omega) (by simp; omega) (w2.heap.size + 1) (by simp) ?_); intro gg cap w3 hown1 hgrow hat hlt; have hc3 := Lib.hid ((Hc2.out.alloc (by omega) _).grown hgrow (by simp; omega) (fun k hk => by have := (Ho2.out.lt k hk).1; omega)); have hfr : Fr (fun q => (Value.slice a2 (4 + 4) k2).ownBlock = some q) w2 w3 := ((Fr.refl _ w2).alloc _).trans (Fr.of_grown hgrow) (fun _ _ h => h); have hx3 := heap_fr Hx2.out hfr (fun h => by have := (Ho2.out.lt _ h).1; omega); obtain ⟨p0, p1, v0, v1, pl⟩ := blk2 hx3; have Ho3 := Lib.hid hown1; clear hat hgrow hown1 hfr hx3)
  go_loopw [6, 30] (fun s i wr => ∃ (k m : Nat) (va : Option Addr) (vc : Nat), k ≤ n ∧ m = 9 + 13 * k ∧ s = .slice va m vc ∧ i = .int .i64 k ∧ wr.ownsRow (w.heap.size + 1) 5 1 (.slice va m vc) m (flat encU (formTo tag cur l k)) ∧ Below w.heap.size w wr ∧ w.heap.size + 1 ≤ wr.heap.size) (fun _ i _ => n - (intOf i).toNat)
  case atStart =>
    refine ⟨0, 9, _, _, Nat.zero_le _, rfl, rfl, rfl, ?_, hc3.out, by have := Ho3.out.lt gg rfl; omega⟩
    have e : flat encU (formTo tag cur l 0) = flat encU ([83, 72, 3, tag] ++ numB (cur + 1) 4) ++ [Value.int .u8 n] := by
      unfold formTo
      rw [flat_append]
      rw [← Hn.out]
      rfl
    rw [e]
    exact Ho3.out
  case round =>
    obtain ⟨k, m, va, vc, hk, hm, rfl, rfl, hown, hb, hsz1⟩ := hrel
    have hsz := hb.size
    by_cases hlt : k < n
    · obtain ⟨r, off, rfl, hr, hcc⟩ := HS.out (by intro h; have h1 := Hn.out; rw [h] at h1; simp at h1; omega)
      obtain ⟨x, hx⟩ : ∃ x, l[k]? = some x := ⟨_, List.getElem?_eq_getElem (by rw [Hn.out]; exact hlt)⟩
      have e0 := (hb.cell (p := ⟨r, off + k * 3 + 0, none⟩) hr).trans (hcc k x hx 0 _ rfl)
      have e1 := (hb.cell (p := ⟨r, off + k * 3 + 1, none⟩) hr).trans (hcc k x hx 1 _ rfl)
      have e2 := (hb.cell (p := ⟨r, off + k * 3 + 2, none⟩) hr).trans (hcc k x hx 2 _ rfl)
      simp only [Nat.add_zero] at e0
      have hxm := mayB_true (Hp.out x (List.mem_of_getElem? hx))
      have hxw : x.w % 256 = x.w := by omega
      have hmb : m ≤ 1000 := by omega
      have HX := Lib.hid (heap_new wr (.cells #[.int .i64 x.id, .int .i64 x.w, .int .i64 x.lag] 119))
      have Ho := Lib.hid hown
      have Hx := Lib.hid hx
      have Hm := Lib.hid hm
      have N4 := Lib.hid (Number4 (formTo tag cur l k) x.id m (w.heap.size + 1) va vc _ (by omega) (by omega) (by simp; omega) (hown.alloc (.cells #[.int .i64 x.id, .int .i64 x.w, .int .i64 x.lag] 119)))
      have hxl : -9223372036854775808 ≤ x.lag ∧ x.lag ≤ 9223372036854775807 := by omega
      clear hcc hx hown hxm hm
      go_wp2_with (first
        | (go_at_call 113; first
          | ((with_reducible refine (N8.out).mono ?_); rintro e w6 ⟨a6, k6, rfl, ho6, hf6, hq6⟩; have H6 := Lib.hid ho6; have hs6 := Lib.hid (Nat.le_trans hs5 hf6.size); have hc6 := Lib.hid (hc5.out.trans (hf6.below (B := w.heap.size) (by have := hc5.out.size; omega) (fun k hk => by have := (Ho5.out.lt k hk).1; omega))); clear ho6 hf6 hq6)
          | ((with_reducible refine (N4.out).mono ?_); rintro e w4 ⟨a4, k4, rfl, ho4, hf4, hq4⟩; have hx4 := heap_fr HX.out hf4 (fun h => by have := (Ho.out.lt _ h).2; omega); obtain ⟨p0, p1, p2, q0, q1, q2, pl⟩ := blk3 hx4; have D4 := Lib.hid (fun q (h : (Value.slice a4 (m + 4) k4).ownBlock = some q) => (by rcases hq4 q h with h1 | h1; (have := (Ho.out.lt _ h1).2; omega); (simp at h1; omega) : q ≠ wr.heap.size)); have hc4 := Lib.hid ((hb.alloc hsz (.cells #[.int .i64 x.id, .int .i64 x.w, .int .i64 x.lag] 119)).trans (hf4.below (B := w.heap.size) (by simp; omega) (fun k hk => by have := (Ho.out.lt k hk).1; omega))); have hs4 : w.heap.size + 1 ≤ w4.heap.size := (by have := hf4.size; simp at this; omega); have Ho4 := Lib.hid ho4; have HX4 := Lib.hid hx4; clear ho4 hf4 hq4 hx4))
        | (at_builtin; go_loud (refine wpList_append_lies _ (by rfl) _ _ _ (by rfl) (w.heap.size + 1) 5 i0 _ 1 1 Tryz.underlying113 hi0 hz0 hz1 hz2 rfl (by omega) (.slice a4 (m + 4) k4) (m + 4) _ (by rfl) (Ho4.out.alloc _) ⟨w4.heap.size, 0, none⟩ 1 1 [.int .u8 x.w] (by rfl) (by rfl) (World.news_of_block (cs := #[.int .u8 x.w]) (t := 5) (fr := (0, 0)) (heap_new _ _)) (by simp [Value.oneCell']) (by omega) (by unfold maxLen; omega) (by omega) (by simp; omega) (w4.heap.size + 1) (by simp) ?_); intro g5 cap5 w5 hown5 hgrow hat hlt5; have hc5 := Lib.hid ((hc4.out.alloc (by omega) _).grown hgrow (by simp; omega) (fun k hk => by have := (Ho4.out.lt k hk).1; omega)); have hfr : Fr (fun q => (Value.slice a4 (m + 4) k4).ownBlock = some q) w4 w5 := ((Fr.refl _ w4).alloc _).trans (Fr.of_grown hgrow) (fun _ _ h => h); have hx5 := heap_fr HX4.out hfr (fun h => D4.out _ h rfl); obtain ⟨p3, p4, p5, q3, q4, q5, pl5⟩ := blk3 hx5; have hs5 : w.heap.size + 1 ≤ w5.heap.size := Nat.le_trans hs4 hfr.size; have Ho5 := Lib.hid hown5; have N8 := Lib.hid (Number8 (formTo tag cur l k ++ numB x.id 4 ++ [x.w]) x.lag (m + 4 + 1) (w.heap.size + 1) _ cap5 _ hxl (by omega) (by omega) (by rw [flat_append]; exact hown5)); clear hat hgrow hown5 hfr hx5))
      go_roundw
      case rel =>
        refine ⟨k + 1, m + 4 + 1 + 8, _, _, by omega, by have := Hm.out; omega, rfl, by go_num, ?_, hc6.out, hs6.out⟩
        have e : formTo tag cur l (k + 1) = formTo tag cur l k ++ numB x.id 4 ++ [x.w] ++ numB x.lag 8 := by
          unfold formTo
          rw [List.take_succ_eq_append_getElem (List.getElem?_eq_some_iff.1 Hx.out).1, (List.getElem?_eq_some_iff.1 Hx.out).2, List.flatMap_append]
          simp [itemB]
        rw [e]
        exact H6.out
      case measure => simp [intOf]; omega
    · obtain rfl : k = n := by omega
      have hfl : (formTo tag cur l k).length = m := own_len hown
      have hs7 : Sl encU 1 wr va (formTo tag cur l k) := own_sl hown
      have HZ := Lib.hid (SealPut (formTo tag cur l k) m va vc wr hfl (by omega) hs7)
      have Hm := Lib.hid hm
      clear hm hfl hs7
      go_wp2_with (go_at_call 114; refine HZ.out.mono ?_; rintro e w7 ⟨a7, k7, rfl, ho7, hb7⟩; have Ho7 := Lib.hid ho7; clear ho7)
      go_ret2
      have e : putB tag ⟨cur, l⟩ = sealP (formTo tag cur l k) := by
        unfold putB formB formTo
        rw [← Hn.out, List.take_length]
      refine ⟨a7, k7, by rw [← Hm.out]; rfl, ?_, hb.trans (hb7.mono hsz)⟩
      rw [e, ← Hm.out]
      exact own_base Ho7.out hsz
end Go.Proofs.YtlgkkolgdjgclaaGreat
/- Package code: a form is read. -/
namespace Go.Proofs.YtlgkkolgdjgclaaGreat
open Go.RowKit
set_option linter.unusedVariables false
set_option linter.unusedSimpArgs false

theorem own_below {w w' : World} {B e k n : Nat} {v : Value} {xs : List Value} (h : w.ownsRow B e k v n xs) (hb : Below w.heap.size w w') : w'.ownsRow B e k v n xs :=
  own_fr (F := fun _ => False) h (Fr.of_below hb) (fun _ _ h => h)
theorem itInfo : (Tryz.prog.info? 119).map (fun i => (i.zero, i.size, i.bytes)) = some (some (.agg #[.int .i64 0, .int .i64 0, .int .i64 0]), 3, 24) := by kernel_rfl

/-- What Read leaves. -/
def ReadPost (l : List Int) (a : Option Addr) (size n c : Nat) (w : World) (e : Ending) (w' : World) : Prop :=
  e = .returned (.tuple #[.int .i64 (readB (l.take size)), .slice (cutA a c size) (n - size) (c - size)]) ∧ Below w.heap.size w w'
section
variable (l : List Int) (n : Nat) (a : Option Addr) (c : Nat) (w : World) (hn : l.length = n) (hl : n ≤ 4611686018427387904) (hc : n ≤ c) (hB : ∀ x ∈ l, Byte x) (hs : Sl encU 1 w a l)
include hn hl hc hB hs
theorem Read1 (hz : 1 ≤ n) : Calls Tryz.prog 138 #[.slice a n c, .int .i64 1] w (ReadPost l a 1 n c w) := Read_any l 1 n a c w hn hl hz hc hB hs
theorem Read2 (hz : 2 ≤ n) : Calls Tryz.prog 138 #[.slice a n c, .int .i64 2] w (ReadPost l a 2 n c w) := Read_any l 2 n a c w hn hl hz hc hB hs
theorem Read4 (hz : 4 ≤ n) : Calls Tryz.prog 138 #[.slice a n c, .int .i64 4] w (ReadPost l a 4 n c w) := Read_any l 4 n a c w hn hl hz hc hB hs
theorem Read8 (hz : 8 ≤ n) : Calls Tryz.prog 138 #[.slice a n c, .int .i64 8] w (ReadPost l a 8 n c w) := Read_any l 8 n a c w hn hl hz hc hB hs
end

set_option maxHeartbeats 800000 in
theorem CodePut_err (tag cur : Int) (l : List It) (n : Nat) (a : Option Addr) (c : Nat) (w : World) (hn : l.length = n) (hl : n ≤ 4611686018427387904) (hs : Sl It.enc 3 w a l) (hg : goodC tag ⟨cur, l⟩ = false) :
    Calls Tryz.prog 96 #[.int .i64 tag, .agg #[.int .i64 cur, .slice a n c]] w fun e w' => e = .returned (.tuple #[.slice none 0 0, .int .i64 1]) ∧ Below w.heap.size w w' := by
  have HG := Lib.hid (CodeGood tag cur l n a c _ hn hl (hs.below ((Below.refl _ _).alloc (Nat.le_refl _) (.cells #[.int .i64 cur, .slice a n c] 41))) hg)
  clear hs hn hg
  go_enter Tryz.func96, Tryz.ntmps96
  go_wp2_with (go_at_call 112; refine HG.out.mono ?_; rintro e w1 ⟨rfl, hb1⟩)
  go_ret2
  exact ⟨rfl, ((Below.refl _ _).alloc (Nat.le_refl _) _).trans (hb1.mono (by simp))⟩

def it3 (b : List Int) : It := ⟨readB (b.take 4), readB ((b.drop 4).take 1), readB (((b.drop 4).drop 1).take 8)⟩
theorem items3_succ : ∀ (k : Nat) (b : List Int), items3 (k + 1) b = items3 k b ++ [it3 (b.drop (13 * k))]
  | 0, b => rfl
  | k + 1, b => by
    rw [items3, items3_succ k, items3, List.cons_append, List.drop_drop, List.drop_drop, List.drop_drop]
    rw [show 4 + 1 + 8 + 13 * k = 13 * (k + 1) by omega]
theorem items3_length : ∀ (k : Nat) (b : List Int), (items3 k b).length = k
  | 0, _ => rfl
  | k + 1, b => by rw [items3, List.length_cons, items3_length k]

/-- What Get leaves. -/
def GetPost (R : Int × Fm × Int) (w : World) (e : Ending) (w' : World) : Prop :=
  ∃ fa fc, e = .returned (.tuple #[.int .i64 R.1, .agg #[.int .i64 R.2.1.cur, .slice fa R.2.1.l.length fc], .int .i64 R.2.2]) ∧ w'.ownsRow w.heap.size 119 3 (.slice fa R.2.1.l.length fc) R.2.1.l.length (flat It.enc R.2.1.l) ∧ Below w.heap.size w w'

def lenOf : Value → Nat
  | .slice _ n _ => n
  | _ => 0
theorem lenOf_slice (a : Option Addr) (n c : Nat) : lenOf (.slice a n c) = n := rfl

set_option maxHeartbeats 6400000 in
set_option maxRecDepth 100000 in
theorem Get_any (l : List Int) (n : Nat) (a : Option Addr) (c : Nat) (w : World) (hn : l.length = n) (hl : n ≤ 1000000000000) (hc : n ≤ c) (hB : ∀ x ∈ l, Byte x) (hs : Sl encU 1 w a l) {R : Int × Fm × Int} (hR : getB l = R) :
    Calls Tryz.prog 116 #[.slice a n c] w (GetPost R w) := by
  obtain ⟨i0, hi0, hz0, hz1, hz2⟩ := info_parts itInfo
  have hO := Open_any l n a c (w.alloc (.cells #[.int .i64 0, .slice none 0 0] 41)) hn hl hc hB (hs.below ((Below.refl _ _).alloc (Nat.le_refl _) _))
  have hBx := openB_byte hB
  have hT := heap_new w (.cells #[.int .i64 0, .slice none 0 0] 41)
  unfold getB at hR
  generalize (openB l).1 = x at *
  generalize (openB l).2.1 = v at *
  generalize (openB l).2.2 = er at *
  have HO := Lib.hid hO
  have HT := Lib.hid hT
  clear hO hT hs hB hn
  by_cases h1 : er = 0
  case neg =>
    rw [if_pos h1] at hR
    subst hR
    have h1b : (er != 0) = true := by simpa using h1
    clear hBx h1
    go_enter Tryz.func116, Tryz.ntmps116
    go_wp2_with (go_at_call 136; refine HO.out.mono ?_; rintro e w1 ⟨a1, c1, rfl, hs1, hc1, hb1⟩; have hh := heap_below HT.out hb1; obtain ⟨g0, g1, y0, y1, gl⟩ := blk2 hh; have Hh := Lib.hid hh; clear hh)
    refine bodyPost_ret (res_tct _ _ w.heap.size 41 #[.int .i64 0, .slice none 0 0] (0, 0) _ rfl rfl (heap_set (heap_set Hh.out _) _) Tryz.underlying41 rfl (by kernel_rfl)) rfl ⟨none, 0, rfl, World.ownsRow_nil _ _ _ _, ?_⟩
    exact ((((Below.refl _ _).alloc (Nat.le_refl _) _).trans (hb1.mono (by simp))).setCell (by simp) _).setCell (by simp) _
  case pos =>
    subst h1
    rw [if_neg (by simp)] at hR
    by_cases h2 : v = 3
    case neg =>
      rw [if_pos h2] at hR
      subst hR
      have h2b : (v != 3) = true := by simpa using h2
      clear hBx h2
      go_enter Tryz.func116, Tryz.ntmps116
      go_wp2_with (go_at_call 136; refine HO.out.mono ?_; rintro e w1 ⟨a1, c1, rfl, hs1, hc1, hb1⟩; have hh := heap_below HT.out hb1; obtain ⟨g0, g1, y0, y1, gl⟩ := blk2 hh; have Hh := Lib.hid hh; clear hh)
      refine bodyPost_ret (res_tct _ _ w.heap.size 41 #[.int .i64 0, .slice none 0 0] (0, 0) _ rfl rfl (heap_set (heap_set Hh.out _) _) Tryz.underlying41 rfl (by kernel_rfl)) rfl ⟨none, 0, rfl, World.ownsRow_nil _ _ _ _, ?_⟩
      exact ((((Below.refl _ _).alloc (Nat.le_refl _) _).trans (hb1.mono (by simp))).setCell (by simp) _).setCell (by simp) _
    case pos =>
      subst h2
      rw [if_neg (by simp)] at hR
      have Hx := Lib.hid hBx
      by_cases h6 : 6 ≤ x.length
      case neg =>
        have hf : ¬ fits3 x := fun h => h6 h.1
        rw [if_pos hf] at hR
        subst hR
        have h6b : (x.length : Int) < 6 := by omega
        clear hBx hf h6
        generalize x.length = m at *
        go_enter Tryz.func116, Tryz.ntmps116
        go_wp2_with (go_at_call 136; refine HO.out.mono ?_; rintro e w1 ⟨a1, c1, rfl, hs1, hc1, hb1⟩; have hh := heap_below HT.out hb1; obtain ⟨g0, g1, y0, y1, gl⟩ := blk2 hh; have Hh := Lib.hid hh; clear hh)
        all_goals (refine bodyPost_ret (res_tct _ _ w.heap.size 41 #[.int .i64 0, .slice none 0 0] (0, 0) _ rfl rfl (heap_set (heap_set Hh.out _) _) Tryz.underlying41 rfl (by kernel_rfl)) rfl ⟨none, 0, rfl, World.ownsRow_nil _ _ _ _, ?_⟩; exact ((((Below.refl _ _).alloc (Nat.le_refl _) _).trans (hb1.mono (by simp))).setCell (by simp) _).setCell (by simp) _)
      case pos =>
        have hat : ∀ i, i < 6 → x[i]? = some (x.getD i 0) ∧ Byte (x.getD i 0) := fun i hi => by
          rw [List.getD_eq_getElem?_getD, List.getElem?_eq_getElem (by omega)]
          exact ⟨rfl, hBx _ (List.getElem_mem _)⟩
        obtain ⟨x5, hx5⟩ : ∃ z, x.getD 5 0 = z := ⟨_, rfl⟩
        obtain ⟨x0, hx0⟩ : ∃ z, x.getD 0 0 = z := ⟨_, rfl⟩
        have h5 := hat 5 (by omega)
        have h0 := hat 0 (by omega)
        rw [hx5] at h5
        rw [hx0] at h0
        have b5 := h5.2
        have b0 := h0.2
        unfold Byte at b5 b0
        have Hx5 := Lib.hid h5.1
        have Hx0 := Lib.hid h0.1
        obtain ⟨m, hm⟩ : ∃ m, x.length = m := ⟨_, rfl⟩
        have Hm := Lib.hid hm
        rw [hm] at h6
        have h6i : ¬ (m : Int) < 6 := by omega
        by_cases hf : (m : Int) = 6 + 13 * x5
        case neg =>
          have hf3 : ¬ fits3 x := fun h => hf (by rw [← hm, ← hx5]; exact h.2)
          rw [if_pos hf3] at hR
          subst hR
          have hne : ((m : Int) != 9 + 13 * x5 + 4 - 3 - 4) = true := by simpa using (fun h => hf (by omega) : (m : Int) ≠ 9 + 13 * x5 + 4 - 3 - 4)
          have hne2 : ((m : Int) != 9 + 13 * x5 + 1 - 4) = true := by simpa using (fun h => hf (by omega) : (m : Int) ≠ 9 + 13 * x5 + 1 - 4)
          have hne3 : ((m : Int) != 6 + 13 * x5) = true := by simpa using hf
          rw [hm] at HO
          clear hBx hf3 hf hat h5 h0 hm hx5 hx0
          go_enter Tryz.func116, Tryz.ntmps116
          go_wp2_with (first
            | (go_at_call 136; refine HO.out.mono ?_; rintro e w1 ⟨a1, c1, rfl, hs1, hc1, hb1⟩; have hh := heap_below HT.out hb1; obtain ⟨g0, g1, y0, y1, gl⟩ := blk2 hh; have Hh := Lib.hid hh; obtain ⟨r, off, rfl, hr, hcc⟩ := hs1 (by intro h; have := Hm.out; rw [h] at this; simp at this; omega); have f5 := hcc 5 x5 Hx5.out 0 _ rfl; simp only [Nat.mul_one, Nat.add_zero] at f5; clear hh hcc)
            | (go_at_call 140; refine (Size_any _ _ (by omega)).mono ?_; rintro e w2 ⟨rfl, rfl⟩))
          all_goals (refine bodyPost_ret (res_tct _ _ w.heap.size 41 #[.int .i64 0, .slice none 0 0] (0, 0) _ rfl rfl (heap_set (heap_set Hh.out _) _) Tryz.underlying41 rfl (by kernel_rfl)) rfl ⟨none, 0, rfl, World.ownsRow_nil _ _ _ _, ?_⟩; exact ((((Below.refl _ _).alloc (Nat.le_refl _) _).trans (hb1.mono (by simp))).setCell (by simp) _).setCell (by simp) _)
        case pos =>
          have hf3 : fits3 x := ⟨by rw [hm]; exact h6, by rw [hm, hx5]; exact hf⟩
          rw [if_neg (by simpa using hf3)] at hR
          obtain ⟨cnt, hcnt⟩ : ∃ cnt : Nat, x5 = cnt := ⟨x5.toNat, by omega⟩
          subst hcnt
          have hmc : m = 6 + 13 * cnt := by omega
          have hne : ((m : Int) != 9 + 13 * (cnt : Int) + 4 - 3 - 4) = false := by simp; omega
          obtain ⟨cu, hcu⟩ : ∃ cu, readB ((x.drop 1).take 4) = cu := ⟨_, rfl⟩
          have hcb := read_bound (l := (x.drop 1).take 4) (fun y hy => hBx y (List.mem_of_mem_drop (List.mem_of_mem_take hy))) (by rw [List.length_take]; omega)
          have hl4 : ((x.drop 1).take 4).length = 4 := by rw [List.length_take, List.length_drop]; omega
          rw [hl4, hcu, show (256 : Int) ^ 4 = 4294967296 from by decide] at hcb
          have hcb0 := hcb.1
          have hcb1 := hcb.2
          obtain ⟨rest, hrest⟩ : ∃ rest, ((x.drop 1).drop 4).drop 1 = rest := ⟨_, rfl⟩
          have hrl : rest.length = 13 * cnt := by rw [← hrest, List.length_drop, List.length_drop, List.length_drop]; omega
          have hRd : readF x = ⟨cu - 1, items3 cnt rest⟩ := by unfold readF; rw [hcu, hrest, hx5, Int.toNat_natCast]
          rw [hx0, hRd] at hR
          have R4 := Lib.hid (fun W r off c1 (hc1 : m ≤ c1) (hs : Sl encU 1 W (some ⟨r, off, none⟩) x) => Read4 (x.drop 1) (m - 1) (some ⟨r, off + 1, none⟩) (c1 - 1) W (by rw [List.length_drop]; omega) (by omega) (by omega) (fun y hy => hBx y (List.mem_of_mem_drop hy)) (hs.dropV 1) (by omega))
          have HBr := Lib.hid (fun y (hy : y ∈ rest) => hBx y (by rw [← hrest] at hy; exact List.mem_of_mem_drop (List.mem_of_mem_drop (List.mem_of_mem_drop hy))))
          have HR := Lib.hid hR
          have Hrl := Lib.hid hrl
          have Hrest := Lib.hid hrest
          have Hcu := Lib.hid hcu
          have Hmc := Lib.hid hmc
          rw [hm] at HO
          clear hBx hf3 hf hat h5 h0 hm hx5 hx0 hR hRd hrl hrest hcb hl4 hcu hmc
          go_enter Tryz.func116, Tryz.ntmps116
          go_wp2_with (first
            | (go_at_call 136; refine HO.out.mono ?_; rintro e w1 ⟨a1, c1, rfl, hs1, hc1, hb1⟩; have hh := heap_below HT.out hb1; have Hh := Lib.hid hh; obtain ⟨r, off, rfl, hr, hcc⟩ := hs1 (by intro h; have := Hm.out; rw [h] at this; simp at this; omega); have f5 := hcc 5 _ Hx5.out 0 _ rfl; have f0 := hcc 0 _ Hx0.out 0 _ rfl; simp only [Nat.mul_one, Nat.zero_mul, Nat.add_zero] at f5 f0; have hc1n : ¬ c1 = 1 := (by omega); have HX1 := Lib.hid hs1; clear hh hcc hs1)
            | (go_at_call 140; refine (Size_any _ _ (by omega)).mono ?_; rintro e w2 ⟨rfl, rfl⟩)
            | (go_at_call 138; refine (R4.out _ r off c1 hc1 HX1.out).mono ?_; rintro e w2 ⟨rfl, hb2⟩; have h2 := heap_below Hh.out hb2; have H2 := Lib.hid h2; have HX2 := Lib.hid ((((HX1.out.dropV 1).cutU (c1 - 1) 4 (by rw [List.length_drop, Hm.out]; omega)).below hb2)); rw [Hcu.out]; clear h2))
          · have hS : Sl encU 1 w2 (cutA (some ⟨r, off + 1, none⟩) (c1 - 1) 4) rest := by
              obtain rfl : rest = [] := List.eq_nil_of_length_eq_zero (by rw [Hrl.out]; have := Hmc.out; omega)
              exact Sl.nil
            have hb02 : Below w.heap.size w w2 := ((Below.refl w.heap.size w).alloc (Nat.le_refl _) _).trans ((hb1.mono (by simp)).trans (hb2.mono (by have := hb1.size; simp at this; omega)))
            have HS0 := Lib.hid hS
            have HB2 := Lib.hid hb02
            have hszw := hb02.size
            clear hS hb02 hb1 hb2
            go_loopw [0] (fun s wr => ∃ (k mb : Nat) (ab : Option Addr) (cb : Nat) (fa : Option Addr) (fc : Nat), k ≤ cnt ∧ mb + 13 * k = 13 * cnt ∧ mb ≤ cb ∧ s = .slice ab mb cb ∧ Sl encU 1 w2 ab (rest.drop (13 * k)) ∧ wr.heap[w2.heap.size]? = some (.cells #[.int .i64 (cu - 1), .slice fa k fc] 41 (0, 0)) ∧ wr.ownsRow (w2.heap.size + 1) 119 3 (.slice fa k fc) k (flat It.enc (items3 k rest)) ∧ Below w2.heap.size w2 wr) (fun s _ => lenOf s)
            case atStart => exact ⟨0, _, _, _, none, 0, Nat.zero_le _, by have := Hmc.out; omega, by have := Hmc.out; omega, rfl, HS0.out, heap_new _ _, World.ownsRow_nil _ _ _ _, (Below.refl _ _).alloc (Nat.le_refl _) _⟩
            case round =>
              obtain ⟨k, mb, ab, cb, fa, fc, hk, hmb, hcb, rfl, hs, hG, hown, hb⟩ := hrel
              have hszr := hb.size
              by_cases hlt : k < cnt
              · obtain ⟨y, hy⟩ : ∃ y, rest.drop (13 * k) = y := ⟨_, rfl⟩
                have hyl : y.length = mb := by rw [← hy, List.length_drop, Hrl.out]; omega
                have hm13 : 13 ≤ mb := by omega
                have hm0 : (0 : Int) < mb := by omega
                have hBy : ∀ z ∈ y, Byte z := fun z hz => HBr.out z (by rw [← hy] at hz; exact List.mem_of_mem_drop hz)
                rw [hy] at hs
                have hmx : mb ≤ 4000 := by omega
                have RQ4 := Lib.hid (fun W (h : Below w2.heap.size w2 W) => Read4 y mb ab cb W hyl (by omega) hcb hBy (hs.below h) (by omega))
                have RQ1 := Lib.hid (fun W (h : Below w2.heap.size w2 W) => Read1 (y.drop 4) (mb - 4) (cutA ab cb 4) (cb - 4) W (by rw [List.length_drop]; omega) (by omega) (by omega) (fun z hz => hBy z (List.mem_of_mem_drop hz)) ((hs.cutU cb 4 (by omega)).below h) (by omega))
                have RQ8 := Lib.hid (fun W (h : Below w2.heap.size w2 W) => Read8 ((y.drop 4).drop 1) (mb - 4 - 1) (cutA (cutA ab cb 4) (cb - 4) 1) (cb - 4 - 1) W (by rw [List.length_drop, List.length_drop]; omega) (by omega) (by omega) (fun z hz => hBy z (List.mem_of_mem_drop (List.mem_of_mem_drop hz))) (((hs.cutU cb 4 (by omega)).cutU (cb - 4) 1 (by rw [List.length_drop]; omega)).below h) (by omega))
                have hS8 := Lib.hid (((hs.cutU cb 4 (by omega)).cutU (cb - 4) 1 (by rw [List.length_drop]; omega)).cutU (cb - 4 - 1) 8 (by rw [List.length_drop, List.length_drop]; omega))
                obtain ⟨i1, hi1⟩ : ∃ z, readB (y.take 4) = z := ⟨_, rfl⟩
                obtain ⟨i2, hi2⟩ : ∃ z, readB ((y.drop 4).take 1) = z := ⟨_, rfl⟩
                obtain ⟨i3, hi3⟩ : ∃ z, readB (((y.drop 4).drop 1).take 8) = z := ⟨_, rfl⟩
                have hit : it3 y = ⟨i1, i2, i3⟩ := by unfold it3; rw [hi1, hi2, hi3]
                unfold ReadPost at RQ4 RQ1 RQ8
                rw [hi1] at RQ4
                rw [hi2] at RQ1
                rw [hi3] at RQ8
                have Hit := Lib.hid hit
                have Hy := Lib.hid hy
                have HG := Lib.hid hG
                have Ho := Lib.hid hown
                have Hmb := Lib.hid hmb
                clear hs hi1 hi2 hi3 hit hy hG hown hBy hmb hyl
                go_wp2_with (first
                  | (go_at_call 138; first
                    | ((with_reducible refine (RQ8.out _ (hb.trans (hb4.mono hszr))).mono ?_); rintro e w5 ⟨rfl, hb5⟩; have hb5 := hb4.trans (hb5.mono hb4.size); have hG5 := heap_below HG.out hb5; obtain ⟨g0, g1, y0, y1, gl⟩ := blk2 hG5; have HG5 := Lib.hid hG5; clear hG5)
                    | ((with_reducible refine (RQ1.out _ (hb.trans (hb3.mono hszr))).mono ?_); rintro e w4 ⟨rfl, hb4⟩; have hb4 := hb3.trans (hb4.mono hb3.size))
                    | ((with_reducible refine (RQ4.out _ hb).mono ?_); rintro e w3 ⟨rfl, hb3⟩))
                  | (at_builtin; go_loud (refine wpList_append_lies _ (by rfl) _ _ _ (by rfl) (w2.heap.size + 1) 119 i0 _ 3 24 Tryz.underlying39 hi0 hz0 hz1 hz2 rfl (by omega) (.slice fa k fc) k _ (by rfl) ((own_below Ho.out hb5).alloc _) ⟨w5.heap.size, 0, none⟩ 1 1 [.int .i64 i1, .int .i64 i2, .int .i64 i3] (by rfl) (by rfl) (World.news_of_block (cs := #[.int .i64 i1, .int .i64 i2, .int .i64 i3]) (t := 119) (fr := (0, 0)) (heap_new _ _)) (by simp [Value.oneCell']) (by omega) (by unfold maxLen; omega) (by omega) (by simp; omega) (w5.heap.size + 1) (by simp) ?_); intro gg cap w6 hown1 hgrow hat hltg; have hfr : Fr (fun q => (Value.slice fa k fc).ownBlock = some q) w5 w6 := ((Fr.refl _ w5).alloc _).trans (Fr.of_grown hgrow) (fun _ _ h => h); have hnG : ¬ (Value.slice fa k fc).ownBlock = some w2.heap.size := (fun h => by have := (Ho.out.lt _ h).1; omega); have q1 := (hfr.cell (p := ⟨w2.heap.size, 1, none⟩) gl hnG).trans g1; have q2 := (hfr.frozen (p := ⟨w2.heap.size, 1, none⟩) gl hnG).trans y1; have HG6 := Lib.hid (heap_fr HG5.out hfr hnG); have Ho6 := Lib.hid hown1; have hb6 := Lib.hid ((hb.trans (hb5.mono hszr)).trans (hfr.below (B := w2.heap.size) (by have := hb5.size; omega) (fun q hq => by have := (Ho.out.lt q hq).1; omega))); clear hat hgrow hown1 hfr))
                go_roundw
                case rel =>
                  refine ⟨k + 1, _, _, _, _, cap, by omega, ?_, ?_, rfl, ?_, heap_set HG6.out _, ?_, (hb6.out).setCell (by simp) _⟩
                  rotate_left 2
                  · have := hS8.out
                    rw [List.drop_drop, List.drop_drop, ← Hy.out, List.drop_drop] at this
                    rw [show 13 * (k + 1) = 13 * k + (4 + 1 + 8) by omega]
                    exact this
                  · rw [items3_succ, Hy.out, Hit.out, flat_append, flat_one]
                    exact own_set Ho6.out (fun e => by have := (Ho6.out.lt _ e).1; omega)
                  · have := Hmb.out; omega
                  · omega
                case measure => simp [lenOf]; omega
              · obtain rfl : k = cnt := by omega
                obtain rfl : mb = 0 := by omega
                have hT6 := heap_below H2.out hb
                have Ho := Lib.hid hown
                have HG := Lib.hid hG
                have HTT := Lib.hid hT6
                obtain ⟨g0, g1, y0, y1, gl⟩ := blk2 hG
                obtain ⟨t0, t1, v0, v1, tl⟩ := blk2 hT6
                have hlen := items3_length k rest
                have hsI : Sl It.enc 3 wr fa (items3 k rest) := Sl.of_own (n := k) (c := fc) It.len (by rw [hlen]; exact hown)
                have HI := Lib.hid hsI
                have Hlen := Lib.hid hlen
                have hb2r := HB2.out.trans (hb.mono hszw)
                by_cases hgd : goodC x0 ⟨cu - 1, items3 k rest⟩ = true
                · have HGd := Lib.hid (CodeGood x0 (cu - 1) (items3 k rest) k fa fc wr hlen (by omega) hsI hgd)
                  have hR := HR.out
                  rw [if_pos hgd] at hR
                  have HR2 := Lib.hid hR
                  clear hown hG hT6 hs hlen hsI hgd hR
                  go_wp2_with (go_at_call 112; refine HGd.out.mono ?_; rintro e w7 ⟨rfl, hb7⟩; have hG7 := heap_below HG.out hb7; have hT7 := heap_below HTT.out hb7; obtain ⟨p0, p1, u0, u1, pl⟩ := blk2 hG7; obtain ⟨t0, t1, v0, v1, tl⟩ := blk2 hT7; have HT7 := Lib.hid hT7; clear hG7 hT7)
                  refine wp_region_chain 94 [0, 0, 1, 7, 15] [(0, none), (1, none), (2, none), (3, some []), (4, none)] (by kernel_rfl) (by kernel_rfl) (by rfl) ?_; simp only [chain, Obs, List.getElem?_toArray, List.getElem?_cons_zero, List.getElem?_cons_succ]
                  go_wp2_with (with_reducible refine And.intro (by first | with_reducible exact True.intro | with_reducible rfl | go_simp) ?_)
                  refine NoPanic.normal ?_
                  go_wp2_with fail
                  rw [← HR2.out]
                  refine bodyPost_ret (res_tct _ _ w.heap.size 41 #[.int .i64 (cu - 1), .slice fa k fc] (0, 0) _ rfl rfl (heap_set (heap_set HT7.out _) _) Tryz.underlying41 rfl (by kernel_rfl)) rfl ⟨fa, fc, by rw [Hlen.out]; rfl, ?_, ?_⟩
                  · have ho7 : w7.drew.ownsRow (w2.heap.size + 1) 119 3 (.slice fa k fc) k (flat It.enc (items3 k rest)) := own_below (own_below Ho.out hb7) (Below.refl _ _).drew
                    have hn7 : (Value.slice fa k fc).ownBlock ≠ some w.heap.size := fun e => by have := (ho7.lt _ e).1; omega
                    have hg := own_base (own_set (u := .slice fa k fc) (i := 1) (own_set (u := .int .i64 (cu - 1)) (i := 0) ho7 hn7) hn7) (show w.heap.size ≤ w2.heap.size + 1 by omega)
                    rw [← Hlen.out] at hg
                    simp only [Hlen.out] at hg ⊢
                    exact hg
                  · exact (((hb2r.trans (hb7.mono hb2r.size)).drew).setCell (by simp) _).setCell (by simp) _
                · have hgf : goodC x0 ⟨cu - 1, items3 k rest⟩ = false := by simpa using hgd
                  have HGd := Lib.hid (CodeGood x0 (cu - 1) (items3 k rest) k fa fc wr hlen (by omega) hsI hgf)
                  have hR := HR.out
                  rw [if_neg hgd] at hR
                  have HR2 := Lib.hid hR
                  clear hown hG hT6 hs hlen hsI hgd hgf hR
                  go_wp2_with (go_at_call 112; refine HGd.out.mono ?_; rintro e w7 ⟨rfl, hb7⟩; have hT7 := heap_below HTT.out hb7; obtain ⟨t0, t1, v0, v1, tl⟩ := blk2 hT7; have HT7 := Lib.hid hT7; clear hT7)
                  rw [← HR2.out]
                  refine bodyPost_ret (res_tct _ _ w.heap.size 41 #[.int .i64 0, .slice none 0 0] (0, 0) _ rfl rfl (heap_set (heap_set HT7.out _) _) Tryz.underlying41 rfl (by kernel_rfl)) rfl ⟨none, 0, rfl, World.ownsRow_nil _ _ _ _, ?_⟩
                  exact ((hb2r.trans (hb7.mono hb2r.size)).setCell (by simp) _).setCell (by simp) _
          · have hS := HX2.out.dropV 1
            rw [Hrest.out] at hS
            have hb02 : Below w.heap.size w w2 := ((Below.refl w.heap.size w).alloc (Nat.le_refl _) _).trans ((hb1.mono (by simp)).trans (hb2.mono (by have := hb1.size; simp at this; omega)))
            have HS0 := Lib.hid hS
            have HB2 := Lib.hid hb02
            have hszw := hb02.size
            clear hS hb02 hb1 hb2
            go_loopw [0] (fun s wr => ∃ (k mb : Nat) (ab : Option Addr) (cb : Nat) (fa : Option Addr) (fc : Nat), k ≤ cnt ∧ mb + 13 * k = 13 * cnt ∧ mb ≤ cb ∧ s = .slice ab mb cb ∧ Sl encU 1 w2 ab (rest.drop (13 * k)) ∧ wr.heap[w2.heap.size]? = some (.cells #[.int .i64 (cu - 1), .slice fa k fc] 41 (0, 0)) ∧ wr.ownsRow (w2.heap.size + 1) 119 3 (.slice fa k fc) k (flat It.enc (items3 k rest)) ∧ Below w2.heap.size w2 wr) (fun s _ => lenOf s)
            case atStart => exact ⟨0, _, _, _, none, 0, Nat.zero_le _, by have := Hmc.out; omega, by have := Hmc.out; omega, rfl, HS0.out, heap_new _ _, World.ownsRow_nil _ _ _ _, (Below.refl _ _).alloc (Nat.le_refl _) _⟩
            case round =>
              obtain ⟨k, mb, ab, cb, fa, fc, hk, hmb, hcb, rfl, hs, hG, hown, hb⟩ := hrel
              have hszr := hb.size
              by_cases hlt : k < cnt
              · obtain ⟨y, hy⟩ : ∃ y, rest.drop (13 * k) = y := ⟨_, rfl⟩
                have hyl : y.length = mb := by rw [← hy, List.length_drop, Hrl.out]; omega
                have hm13 : 13 ≤ mb := by omega
                have hm0 : (0 : Int) < mb := by omega
                have hBy : ∀ z ∈ y, Byte z := fun z hz => HBr.out z (by rw [← hy] at hz; exact List.mem_of_mem_drop hz)
                rw [hy] at hs
                have hmx : mb ≤ 4000 := by omega
                have RQ4 := Lib.hid (fun W (h : Below w2.heap.size w2 W) => Read4 y mb ab cb W hyl (by omega) hcb hBy (hs.below h) (by omega))
                have RQ1 := Lib.hid (fun W (h : Below w2.heap.size w2 W) => Read1 (y.drop 4) (mb - 4) (cutA ab cb 4) (cb - 4) W (by rw [List.length_drop]; omega) (by omega) (by omega) (fun z hz => hBy z (List.mem_of_mem_drop hz)) ((hs.cutU cb 4 (by omega)).below h) (by omega))
                have RQ8 := Lib.hid (fun W (h : Below w2.heap.size w2 W) => Read8 ((y.drop 4).drop 1) (mb - 4 - 1) (cutA (cutA ab cb 4) (cb - 4) 1) (cb - 4 - 1) W (by rw [List.length_drop, List.length_drop]; omega) (by omega) (by omega) (fun z hz => hBy z (List.mem_of_mem_drop (List.mem_of_mem_drop hz))) (((hs.cutU cb 4 (by omega)).cutU (cb - 4) 1 (by rw [List.length_drop]; omega)).below h) (by omega))
                have hS8 := Lib.hid (((hs.cutU cb 4 (by omega)).cutU (cb - 4) 1 (by rw [List.length_drop]; omega)).cutU (cb - 4 - 1) 8 (by rw [List.length_drop, List.length_drop]; omega))
                obtain ⟨i1, hi1⟩ : ∃ z, readB (y.take 4) = z := ⟨_, rfl⟩
                obtain ⟨i2, hi2⟩ : ∃ z, readB ((y.drop 4).take 1) = z := ⟨_, rfl⟩
                obtain ⟨i3, hi3⟩ : ∃ z, readB (((y.drop 4).drop 1).take 8) = z := ⟨_, rfl⟩
                have hit : it3 y = ⟨i1, i2, i3⟩ := by unfold it3; rw [hi1, hi2, hi3]
                unfold ReadPost at RQ4 RQ1 RQ8
                rw [hi1] at RQ4
                rw [hi2] at RQ1
                rw [hi3] at RQ8
                have Hit := Lib.hid hit
                have Hy := Lib.hid hy
                have HG := Lib.hid hG
                have Ho := Lib.hid hown
                have Hmb := Lib.hid hmb
                clear hs hi1 hi2 hi3 hit hy hG hown hBy hmb hyl
                go_wp2_with (first
                  | (go_at_call 138; first
                    | ((with_reducible refine (RQ8.out _ (hb.trans (hb4.mono hszr))).mono ?_); rintro e w5 ⟨rfl, hb5⟩; have hb5 := hb4.trans (hb5.mono hb4.size); have hG5 := heap_below HG.out hb5; obtain ⟨g0, g1, y0, y1, gl⟩ := blk2 hG5; have HG5 := Lib.hid hG5; clear hG5)
                    | ((with_reducible refine (RQ1.out _ (hb.trans (hb3.mono hszr))).mono ?_); rintro e w4 ⟨rfl, hb4⟩; have hb4 := hb3.trans (hb4.mono hb3.size))
                    | ((with_reducible refine (RQ4.out _ hb).mono ?_); rintro e w3 ⟨rfl, hb3⟩))
                  | (at_builtin; go_loud (refine wpList_append_lies _ (by rfl) _ _ _ (by rfl) (w2.heap.size + 1) 119 i0 _ 3 24 Tryz.underlying39 hi0 hz0 hz1 hz2 rfl (by omega) (.slice fa k fc) k _ (by rfl) ((own_below Ho.out hb5).alloc _) ⟨w5.heap.size, 0, none⟩ 1 1 [.int .i64 i1, .int .i64 i2, .int .i64 i3] (by rfl) (by rfl) (World.news_of_block (cs := #[.int .i64 i1, .int .i64 i2, .int .i64 i3]) (t := 119) (fr := (0, 0)) (heap_new _ _)) (by simp [Value.oneCell']) (by omega) (by unfold maxLen; omega) (by omega) (by simp; omega) (w5.heap.size + 1) (by simp) ?_); intro gg cap w6 hown1 hgrow hat hltg; have hfr : Fr (fun q => (Value.slice fa k fc).ownBlock = some q) w5 w6 := ((Fr.refl _ w5).alloc _).trans (Fr.of_grown hgrow) (fun _ _ h => h); have hnG : ¬ (Value.slice fa k fc).ownBlock = some w2.heap.size := (fun h => by have := (Ho.out.lt _ h).1; omega); have q1 := (hfr.cell (p := ⟨w2.heap.size, 1, none⟩) gl hnG).trans g1; have q2 := (hfr.frozen (p := ⟨w2.heap.size, 1, none⟩) gl hnG).trans y1; have HG6 := Lib.hid (heap_fr HG5.out hfr hnG); have Ho6 := Lib.hid hown1; have hb6 := Lib.hid ((hb.trans (hb5.mono hszr)).trans (hfr.below (B := w2.heap.size) (by have := hb5.size; omega) (fun q hq => by have := (Ho.out.lt q hq).1; omega))); clear hat hgrow hown1 hfr))
                go_roundw
                case rel =>
                  refine ⟨k + 1, _, _, _, _, cap, by omega, ?_, ?_, rfl, ?_, heap_set HG6.out _, ?_, (hb6.out).setCell (by simp) _⟩
                  rotate_left 2
                  · have := hS8.out
                    rw [List.drop_drop, List.drop_drop, ← Hy.out, List.drop_drop] at this
                    rw [show 13 * (k + 1) = 13 * k + (4 + 1 + 8) by omega]
                    exact this
                  · rw [items3_succ, Hy.out, Hit.out, flat_append, flat_one]
                    exact own_set Ho6.out (fun e => by have := (Ho6.out.lt _ e).1; omega)
                  · have := Hmb.out; omega
                  · omega
                case measure => simp [lenOf]; omega
              · obtain rfl : k = cnt := by omega
                obtain rfl : mb = 0 := by omega
                have hT6 := heap_below H2.out hb
                have Ho := Lib.hid hown
                have HG := Lib.hid hG
                have HTT := Lib.hid hT6
                obtain ⟨g0, g1, y0, y1, gl⟩ := blk2 hG
                obtain ⟨t0, t1, v0, v1, tl⟩ := blk2 hT6
                have hlen := items3_length k rest
                have hsI : Sl It.enc 3 wr fa (items3 k rest) := Sl.of_own (n := k) (c := fc) It.len (by rw [hlen]; exact hown)
                have HI := Lib.hid hsI
                have Hlen := Lib.hid hlen
                have hb2r := HB2.out.trans (hb.mono hszw)
                by_cases hgd : goodC x0 ⟨cu - 1, items3 k rest⟩ = true
                · have HGd := Lib.hid (CodeGood x0 (cu - 1) (items3 k rest) k fa fc wr hlen (by omega) hsI hgd)
                  have hR := HR.out
                  rw [if_pos hgd] at hR
                  have HR2 := Lib.hid hR
                  clear hown hG hT6 hs hlen hsI hgd hR
                  go_wp2_with (go_at_call 112; refine HGd.out.mono ?_; rintro e w7 ⟨rfl, hb7⟩; have hG7 := heap_below HG.out hb7; have hT7 := heap_below HTT.out hb7; obtain ⟨p0, p1, u0, u1, pl⟩ := blk2 hG7; obtain ⟨t0, t1, v0, v1, tl⟩ := blk2 hT7; have HT7 := Lib.hid hT7; clear hG7 hT7)
                  refine wp_region_chain 94 [0, 0, 1, 7, 15] [(0, none), (1, none), (2, none), (3, some []), (4, none)] (by kernel_rfl) (by kernel_rfl) (by rfl) ?_; simp only [chain, Obs, List.getElem?_toArray, List.getElem?_cons_zero, List.getElem?_cons_succ]
                  go_wp2_with (with_reducible refine And.intro (by first | with_reducible exact True.intro | with_reducible rfl | go_simp) ?_)
                  refine NoPanic.normal ?_
                  go_wp2_with fail
                  rw [← HR2.out]
                  refine bodyPost_ret (res_tct _ _ w.heap.size 41 #[.int .i64 (cu - 1), .slice fa k fc] (0, 0) _ rfl rfl (heap_set (heap_set HT7.out _) _) Tryz.underlying41 rfl (by kernel_rfl)) rfl ⟨fa, fc, by rw [Hlen.out]; rfl, ?_, ?_⟩
                  · have ho7 : w7.drew.ownsRow (w2.heap.size + 1) 119 3 (.slice fa k fc) k (flat It.enc (items3 k rest)) := own_below (own_below Ho.out hb7) (Below.refl _ _).drew
                    have hn7 : (Value.slice fa k fc).ownBlock ≠ some w.heap.size := fun e => by have := (ho7.lt _ e).1; omega
                    have hg := own_base (own_set (u := .slice fa k fc) (i := 1) (own_set (u := .int .i64 (cu - 1)) (i := 0) ho7 hn7) hn7) (show w.heap.size ≤ w2.heap.size + 1 by omega)
                    rw [← Hlen.out] at hg
                    simp only [Hlen.out] at hg ⊢
                    exact hg
                  · exact (((hb2r.trans (hb7.mono hb2r.size)).drew).setCell (by simp) _).setCell (by simp) _
                · have hgf : goodC x0 ⟨cu - 1, items3 k rest⟩ = false := by simpa using hgd
                  have HGd := Lib.hid (CodeGood x0 (cu - 1) (items3 k rest) k fa fc wr hlen (by omega) hsI hgf)
                  have hR := HR.out
                  rw [if_neg hgd] at hR
                  have HR2 := Lib.hid hR
                  clear hown hG hT6 hs hlen hsI hgd hgf hR
                  go_wp2_with (go_at_call 112; refine HGd.out.mono ?_; rintro e w7 ⟨rfl, hb7⟩; have hT7 := heap_below HTT.out hb7; obtain ⟨t0, t1, v0, v1, tl⟩ := blk2 hT7; have HT7 := Lib.hid hT7; clear hT7)
                  rw [← HR2.out]
                  refine bodyPost_ret (res_tct _ _ w.heap.size 41 #[.int .i64 0, .slice none 0 0] (0, 0) _ rfl rfl (heap_set (heap_set HT7.out _) _) Tryz.underlying41 rfl (by kernel_rfl)) rfl ⟨none, 0, rfl, World.ownsRow_nil _ _ _ _, ?_⟩
                  exact ((hb2r.trans (hb7.mono hb2r.size)).setCell (by simp) _).setCell (by simp) _
end Go.Proofs.YtlgkkolgdjgclaaGreat
/- Package elder: items as they were written once. -/
namespace Go.Proofs.YtlgkkolgdjgclaaGreat
open Go.RowKit
set_option linter.unusedVariables false
set_option linter.unusedSimpArgs false

set_option maxHeartbeats 1600000 in
set_option maxRecDepth 100000 in
theorem SlClone_any (l : List Int) (n : Nat) (a : Option Addr) (c : Nat) (w : World) (hn : l.length = n) (hl : n ≤ 100000000000000) (hs : Sl encU 1 w a l) :
    Calls Tryz.prog 137 #[.slice a n c] w fun e w' => ∃ a' c', e = .returned (.slice a' n c') ∧ w'.ownsRow w.heap.size 5 1 (.slice a' n c') n (flat encU l) ∧ Below w.heap.size w w' := by
  have q22 : ∀ (w : World) (a : Option Addr) (n c n' c' : Nat), (binOp .eql 113 (.slice a n c) (.slice none n' c')).run Tryz.prog w = .ok (.bool a.isNone) w := fun w a n c n' c' => Lib.run_eql_slice_nil w _ _ a n c n' c' Tryz.underlying113
  cases a with
  | none =>
    obtain rfl : l = [] := by
      cases l with
      | nil => rfl
      | cons x l => obtain ⟨r, off, h, _⟩ := hs (by simp); cases h
    subst hn
    go_enter Tryz.func137, Tryz.ntmps137
    go_wp2
    go_ret
    exact ⟨none, 0, rfl, World.ownsRow_nil _ _ _ _, Below.refl _ _⟩
  | some A =>
    obtain ⟨i0, hi, hz0, hz1, hz2⟩ := info_parts infoU
    have hcc : ∀ i, i < n → w.cell? (A.add i) = some (.int .u8 (l.getD i 0)) := (fun i hi => by
      obtain ⟨r, off, h, _, hc⟩ := hs (by intro h0; rw [h0] at hn; simp at hn; omega)
      cases h
      have := hc i (l.getD i 0) (by rw [List.getD_eq_getElem?_getD, List.getElem?_eq_getElem (by omega)]; rfl) 0 _ rfl
      rw [show (⟨r, off, none⟩ : Addr).add i = ⟨r, off + i, none⟩ from Addr.add_lit _ _ _]
      simpa using this)
    have Hc := Lib.hid hcc
    have Hn := Lib.hid hn
    clear hs hn hcc
    go_enter Tryz.func137, Tryz.ntmps137
    go_wp2_with (at_builtin; refine wpList_append_own _ rfl _ _ 113 rfl w.heap.size 5 i0 (.int .u8 0) 1 1 Tryz.underlying113 hi hz0 hz1 hz2 rfl (by decide) _ _ _ rfl (World.ownsRow_made w #[] 0 (Nat.le_refl _) (Nat.zero_le _) rfl) A n c (l.map (Value.int .u8)) rfl ?qc1 ?qc2 ?qc3 ?qc4 ?qc5 ?qc6 ?_)
    case qc1 => simp [Hn.out]
    case qc2 =>
      intro j u hj
      have hjn : j < n := by
        have := (List.getElem?_eq_some_iff.1 hj).1
        have h2 := Hn.out
        simp at this
        omega
      refine Lib.cell?_alloc_some _ ?_
      rw [Hc.out j hjn]
      have e : (l.map (Value.int .u8))[j]? = some (Value.int .u8 (l.getD j 0)) := by simp [List.getD, List.getElem?_eq_getElem (show j < l.length by have := Hn.out; omega)]
      rw [e] at hj
      exact hj
    case qc3 => intro u hu; obtain ⟨x, _, rfl⟩ := List.mem_map.1 hu; rfl
    case qc4 => unfold maxLen; omega
    case qc5 => omega
    case qc6 => simp
    intro v' w1 hown hgrow hnil
    go_wp2
    go_ret
    have h2 : w1.ownsRow w.heap.size 5 1 v' n (l.map (Value.int .u8)) := by simpa using hown
    obtain ⟨a', c', rfl, _⟩ := own_slice h2
    exact ⟨a', c', rfl, by rw [flatU]; exact h2, ((Below.refl _ w).alloc (Nat.le_refl _) _).grown hgrow (by simp) (by intro k hk; simp [Value.ownBlock] at hk; omega)⟩

def itE (lags : Bool) (b : List Int) : It := ⟨readB (b.take 2), readB ((b.drop 2).take 1), if lags = true then W32 (readB (((b.drop 2).drop 1).take 4)) * 232792560 else 0⟩
theorem itemsE_succ (lags : Bool) : ∀ (k : Nat) (b : List Int), itemsE lags (k + 1) b = itemsE lags k b ++ [itE lags (b.drop (sizeE lags * k))]
  | 0, b => by rw [Nat.mul_zero]; rfl
  | k + 1, b => by
    rw [itemsE, itemsE_succ lags k, itemsE, List.cons_append]
    cases lags
    · simp only [Bool.false_eq_true, if_false, List.drop_drop, sizeE]
      rw [show 2 + 1 + 3 * k = 3 * (k + 1) by omega]
    · simp only [if_true, List.drop_drop, sizeE]
      rw [show 2 + 1 + 4 + 7 * k = 7 * (k + 1) by omega]
theorem itemsE_length (lags : Bool) : ∀ (k : Nat) (b : List Int), (itemsE lags k b).length = k
  | 0, _ => rfl
  | k + 1, b => by rw [itemsE, List.length_cons, itemsE_length lags k]

set_option maxHeartbeats 1600000 in
set_option maxRecDepth 100000 in
theorem Items_no (l : List Int) (lags : Bool) (n : Nat) (a : Option Addr) (c : Nat) (w : World) (hn : l.length = n) (hl : n ≤ 1000000000000) (hB : ∀ x ∈ l, Byte x) (hs : Sl encU 1 w a l) (hf : ¬ fitsE lags l) :
    Calls Tryz.prog 139 #[.slice a n c, .bool lags] w fun e w' => e = .returned (.tuple #[.slice none 0 0, .bool false]) ∧ Below w.heap.size w w' := by
  by_cases h1 : 1 ≤ n
  · have h1i : ¬ (n : Int) < 1 := by omega
    obtain ⟨x0, hx0⟩ : ∃ z, l.getD 0 0 = z := ⟨_, rfl⟩
    have h0 : l[0]? = some x0 := by rw [← hx0, List.getD_eq_getElem?_getD, List.getElem?_eq_getElem (by omega)]; rfl
    have b0 := hB x0 (List.mem_of_getElem? h0)
    unfold Byte at b0
    obtain ⟨r, off, rfl, _, hc⟩ := hs (by intro h; rw [h] at hn; simp at hn; omega)
    have e0 := hc 0 x0 h0 0 _ rfl
    simp only [Nat.zero_mul, Nat.add_zero] at e0
    have hne : ((n : Int) - 1 != sizeE lags * x0) = true := by simpa using (fun h => hf ⟨by omega, by rw [hn, hx0]; exact h⟩)
    clear hc hf hB hx0 h0
    cases lags
    · have hne2 : ((n : Int) - 1 != 3 * x0) = true := hne
      clear hne
      go_enter Tryz.func139, Tryz.ntmps139
      go_wp2_with fail
      all_goals go_ret2
      all_goals exact ⟨rfl, Below.refl _ _⟩
    · have hne2 : ((n : Int) - 1 != 7 * x0) = true := hne
      clear hne
      go_enter Tryz.func139, Tryz.ntmps139
      go_wp2_with fail
      all_goals go_ret2
      all_goals exact ⟨rfl, Below.refl _ _⟩
  · have h1i : (n : Int) < 1 := by omega
    clear hs hB hf
    cases lags <;>
    · go_enter Tryz.func139, Tryz.ntmps139
      go_wp2_with fail
      all_goals go_ret2
      all_goals exact ⟨rfl, Below.refl _ _⟩

set_option maxHeartbeats 3200000 in
set_option maxRecDepth 100000 in
theorem Items_yes (l : List Int) (n cnt : Nat) (a : Option Addr) (c : Nat) (w : World) (hn : l.length = n) (hl : n ≤ 1000000000000) (hc : n ≤ c) (hB : ∀ x ∈ l, Byte x) (hs : Sl encU 1 w a l) (hf : n = 1 + 7 * cnt) (hx : l[0]? = some (cnt : Int)) :
    Calls Tryz.prog 139 #[.slice a n c, .bool true] w fun e w' => ∃ fa fc, e = .returned (.tuple #[.slice fa cnt fc, .bool true]) ∧ w'.ownsRow w.heap.size 119 3 (.slice fa cnt fc) cnt (flat It.enc (itemsE true cnt (l.drop 1))) ∧ Below w.heap.size w w' := by
  obtain ⟨i0, hi0, hz0, hz1, hz2⟩ := info_parts itInfo
  have b0 := hB _ (List.mem_of_getElem? hx)
  unfold Byte at b0
  have h1i : ¬ (n : Int) < 1 := by omega
  have hne : ((n : Int) - 1 != 7 * (cnt : Int)) = false := by simp; omega
  obtain ⟨r, off, rfl, hr, hcc⟩ := hs (by intro h; rw [h] at hn; simp at hn; omega)
  have e0 := hcc 0 _ hx 0 _ rfl
  simp only [Nat.zero_mul, Nat.add_zero] at e0
  have hS := hs.dropV 1
  obtain ⟨rest, hrest⟩ : ∃ rest, l.drop 1 = rest := ⟨_, rfl⟩
  have hrl : rest.length = 7 * cnt := by rw [← hrest, List.length_drop, hn]; omega
  have hBr : ∀ z ∈ rest, Byte z := fun z hz => hB z (by rw [← hrest] at hz; exact List.mem_of_mem_drop hz)
  rw [hrest] at hS ⊢
  have HS := Lib.hid hS
  have Hrl := Lib.hid hrl
  have HBr := Lib.hid hBr
  have Hf := Lib.hid hf
  clear hS hrl hBr hrest hcc hx hB hn hf
  go_enter Tryz.func139, Tryz.ntmps139
  go_wp2_with fail
  · have hS0 : Sl encU 1 w (some ⟨r, off, none⟩) rest := by
      obtain rfl : rest = [] := List.eq_nil_of_length_eq_zero (by rw [Hrl.out]; have := Hf.out; omega)
      exact Sl.nil
    have HS0 := Lib.hid hS0
    clear hS0
    go_loopw [0, 7] (fun s i wr => ∃ (k mb : Nat) (ab : Option Addr) (cb : Nat) (fa : Option Addr) (fc : Nat), k ≤ cnt ∧ mb + 7 * k = 7 * cnt ∧ mb ≤ cb ∧ s = .slice ab mb cb ∧ i = .slice fa k fc ∧ Sl encU 1 w ab (rest.drop (7 * k)) ∧ wr.ownsRow w.heap.size 119 3 (.slice fa k fc) k (flat It.enc (itemsE true k rest)) ∧ Below w.heap.size w wr) (fun s _ _ => lenOf s)
    case atStart => exact ⟨0, _, _, _, none, 0, Nat.zero_le _, by have := Hf.out; omega, by have := Hf.out; omega, rfl, rfl, HS0.out, World.ownsRow_nil _ _ _ _, Below.refl _ _⟩
    case round =>
      obtain ⟨k, mb, ab, cb, fa, fc, hk, hmb, hcb, rfl, rfl, hs, hown, hb⟩ := hrel
      have hszr := hb.size
      by_cases hlt : k < cnt
      · obtain ⟨y, hy⟩ : ∃ y, rest.drop (7 * k) = y := ⟨_, rfl⟩
        have hyl : y.length = mb := by rw [← hy, List.length_drop, Hrl.out]; omega
        have hm13 : 7 ≤ mb := by omega
        have hm0 : (0 : Int) < mb := by omega
        have hBy : ∀ z ∈ y, Byte z := fun z hz => HBr.out z (by rw [← hy] at hz; exact List.mem_of_mem_drop hz)
        rw [hy] at hs
        have hmx : mb ≤ 4000 := by omega
        have RQ2 := Lib.hid (fun W (h : Below w.heap.size w W) => Read2 y mb ab cb W hyl (by omega) hcb hBy (hs.below h) (by omega))
        have RQ1 := Lib.hid (fun W (h : Below w.heap.size w W) => Read1 (y.drop 2) (mb - 2) (cutA ab cb 2) (cb - 2) W (by rw [List.length_drop]; omega) (by omega) (by omega) (fun z hz => hBy z (List.mem_of_mem_drop hz)) ((hs.cutU cb 2 (by omega)).below h) (by omega))
        have RQ4 := Lib.hid (fun W (h : Below w.heap.size w W) => Read4 ((y.drop 2).drop 1) (mb - 2 - 1) (cutA (cutA ab cb 2) (cb - 2) 1) (cb - 2 - 1) W (by rw [List.length_drop, List.length_drop]; omega) (by omega) (by omega) (fun z hz => hBy z (List.mem_of_mem_drop (List.mem_of_mem_drop hz))) (((hs.cutU cb 2 (by omega)).cutU (cb - 2) 1 (by rw [List.length_drop]; omega)).below h) (by omega))
        have hS8 := Lib.hid (((hs.cutU cb 2 (by omega)).cutU (cb - 2) 1 (by rw [List.length_drop]; omega)).cutU (cb - 2 - 1) 4 (by rw [List.length_drop, List.length_drop]; omega))
        obtain ⟨i1, hi1⟩ : ∃ z, readB (y.take 2) = z := ⟨_, rfl⟩
        obtain ⟨i2, hi2⟩ : ∃ z, readB ((y.drop 2).take 1) = z := ⟨_, rfl⟩
        obtain ⟨i3, hi3⟩ : ∃ z, readB (((y.drop 2).drop 1).take 4) = z := ⟨_, rfl⟩
        obtain ⟨j3, hj3⟩ : ∃ z, W32 i3 * 232792560 = z := ⟨_, rfl⟩
        have hw3 : wrap64 (wrap64 (wrap32 i3) * 232792560) = j3 := by rw [← hj3]; unfold wrap64 wrap32 W32; omega
        have hit : itE true y = ⟨i1, i2, j3⟩ := by unfold itE; rw [hi1, hi2, hi3, if_pos rfl, hj3]
        unfold ReadPost at RQ4 RQ1 RQ2
        rw [hi1] at RQ2
        rw [hi2] at RQ1
        rw [hi3] at RQ4
        have Hit := Lib.hid hit
        have Hy := Lib.hid hy
        have Ho := Lib.hid hown
        have Hmb := Lib.hid hmb
        clear hs hi1 hi2 hi3 hit hy hown hBy hmb hyl hj3
        go_wp2_with (first
          | (go_at_call 138; first
            | ((with_reducible refine (RQ4.out _ (hb.trans (hb4.mono hszr))).mono ?_); rintro e w5 ⟨rfl, hb5⟩; have hb5 := hb4.trans (hb5.mono hb4.size))
            | ((with_reducible refine (RQ1.out _ (hb.trans (hb3.mono hszr))).mono ?_); rintro e w4 ⟨rfl, hb4⟩; have hb4 := hb3.trans (hb4.mono hb3.size))
            | ((with_reducible refine (RQ2.out _ hb).mono ?_); rintro e w3 ⟨rfl, hb3⟩))
          | (at_builtin; go_loud (refine wpList_append_lies _ (by rfl) _ _ _ (by rfl) w.heap.size 119 i0 _ 3 24 Tryz.underlying39 hi0 hz0 hz1 hz2 rfl (by omega) (.slice fa k fc) k _ (by rfl) ((own_below Ho.out hb5).alloc _) ⟨w5.heap.size, 0, none⟩ 1 1 [.int .i64 i1, .int .i64 i2, .int .i64 j3] (by rfl) (by rfl) (World.news_of_block (cs := #[.int .i64 i1, .int .i64 i2, .int .i64 j3]) (t := 119) (fr := (0, 0)) (heap_new _ _)) (by simp [Value.oneCell']) (by omega) (by unfold maxLen; omega) (by omega) (by have := hb5.size; simp; omega) (w5.heap.size + 1) (by simp) ?_); intro gg cap w6 hown1 hgrow hat hltg; have hfr : Fr (fun q => (Value.slice fa k fc).ownBlock = some q) w5 w6 := ((Fr.refl _ w5).alloc _).trans (Fr.of_grown hgrow) (fun _ _ h => h); have Ho6 := Lib.hid hown1; have hb6 := Lib.hid ((hb.trans (hb5.mono hszr)).trans (hfr.below (B := w.heap.size) (by have := hb5.size; omega) (fun q hq => by have := (Ho.out.lt q hq).1; omega))); clear hat hgrow hown1 hfr))
        go_roundw
        case rel =>
          refine ⟨k + 1, _, _, _, _, cap, by omega, ?_, ?_, rfl, rfl, ?_, ?_, hb6.out⟩
          rotate_left 2
          · have := hS8.out
            rw [List.drop_drop, List.drop_drop, ← Hy.out, List.drop_drop] at this
            rw [show 7 * (k + 1) = 7 * k + (2 + 1 + 4) by omega]
            exact this
          · rw [itemsE_succ, show sizeE true * k = 7 * k from rfl, Hy.out, Hit.out, flat_append, flat_one]
            exact Ho6.out
          · have := Hmb.out; omega
          · omega
        case measure => simp [lenOf]; omega
      · obtain rfl : k = cnt := by omega
        obtain rfl : mb = 0 := by omega
        go_wp2_with fail
        go_ret2
        exact ⟨fa, fc, rfl, hown, hb⟩
  · have hS0 : Sl encU 1 w (some ⟨r, off + 1, none⟩) rest := HS.out
    have HS0 := Lib.hid hS0
    clear hS0
    go_loopw [0, 7] (fun s i wr => ∃ (k mb : Nat) (ab : Option Addr) (cb : Nat) (fa : Option Addr) (fc : Nat), k ≤ cnt ∧ mb + 7 * k = 7 * cnt ∧ mb ≤ cb ∧ s = .slice ab mb cb ∧ i = .slice fa k fc ∧ Sl encU 1 w ab (rest.drop (7 * k)) ∧ wr.ownsRow w.heap.size 119 3 (.slice fa k fc) k (flat It.enc (itemsE true k rest)) ∧ Below w.heap.size w wr) (fun s _ _ => lenOf s)
    case atStart => exact ⟨0, _, _, _, none, 0, Nat.zero_le _, by have := Hf.out; omega, by have := Hf.out; omega, rfl, rfl, HS0.out, World.ownsRow_nil _ _ _ _, Below.refl _ _⟩
    case round =>
      obtain ⟨k, mb, ab, cb, fa, fc, hk, hmb, hcb, rfl, rfl, hs, hown, hb⟩ := hrel
      have hszr := hb.size
      by_cases hlt : k < cnt
      · obtain ⟨y, hy⟩ : ∃ y, rest.drop (7 * k) = y := ⟨_, rfl⟩
        have hyl : y.length = mb := by rw [← hy, List.length_drop, Hrl.out]; omega
        have hm13 : 7 ≤ mb := by omega
        have hm0 : (0 : Int) < mb := by omega
        have hBy : ∀ z ∈ y, Byte z := fun z hz => HBr.out z (by rw [← hy] at hz; exact List.mem_of_mem_drop hz)
        rw [hy] at hs
        have hmx : mb ≤ 4000 := by omega
        have RQ2 := Lib.hid (fun W (h : Below w.heap.size w W) => Read2 y mb ab cb W hyl (by omega) hcb hBy (hs.below h) (by omega))
        have RQ1 := Lib.hid (fun W (h : Below w.heap.size w W) => Read1 (y.drop 2) (mb - 2) (cutA ab cb 2) (cb - 2) W (by rw [List.length_drop]; omega) (by omega) (by omega) (fun z hz => hBy z (List.mem_of_mem_drop hz)) ((hs.cutU cb 2 (by omega)).below h) (by omega))
        have RQ4 := Lib.hid (fun W (h : Below w.heap.size w W) => Read4 ((y.drop 2).drop 1) (mb - 2 - 1) (cutA (cutA ab cb 2) (cb - 2) 1) (cb - 2 - 1) W (by rw [List.length_drop, List.length_drop]; omega) (by omega) (by omega) (fun z hz => hBy z (List.mem_of_mem_drop (List.mem_of_mem_drop hz))) (((hs.cutU cb 2 (by omega)).cutU (cb - 2) 1 (by rw [List.length_drop]; omega)).below h) (by omega))
        have hS8 := Lib.hid (((hs.cutU cb 2 (by omega)).cutU (cb - 2) 1 (by rw [List.length_drop]; omega)).cutU (cb - 2 - 1) 4 (by rw [List.length_drop, List.length_drop]; omega))
        obtain ⟨i1, hi1⟩ : ∃ z, readB (y.take 2) = z := ⟨_, rfl⟩
        obtain ⟨i2, hi2⟩ : ∃ z, readB ((y.drop 2).take 1) = z := ⟨_, rfl⟩
        obtain ⟨i3, hi3⟩ : ∃ z, readB (((y.drop 2).drop 1).take 4) = z := ⟨_, rfl⟩
        obtain ⟨j3, hj3⟩ : ∃ z, W32 i3 * 232792560 = z := ⟨_, rfl⟩
        have hw3 : wrap64 (wrap64 (wrap32 i3) * 232792560) = j3 := by rw [← hj3]; unfold wrap64 wrap32 W32; omega
        have hit : itE true y = ⟨i1, i2, j3⟩ := by unfold itE; rw [hi1, hi2, hi3, if_pos rfl, hj3]
        unfold ReadPost at RQ4 RQ1 RQ2
        rw [hi1] at RQ2
        rw [hi2] at RQ1
        rw [hi3] at RQ4
        have Hit := Lib.hid hit
        have Hy := Lib.hid hy
        have Ho := Lib.hid hown
        have Hmb := Lib.hid hmb
        clear hs hi1 hi2 hi3 hit hy hown hBy hmb hyl hj3
        go_wp2_with (first
          | (go_at_call 138; first
            | ((with_reducible refine (RQ4.out _ (hb.trans (hb4.mono hszr))).mono ?_); rintro e w5 ⟨rfl, hb5⟩; have hb5 := hb4.trans (hb5.mono hb4.size))
            | ((with_reducible refine (RQ1.out _ (hb.trans (hb3.mono hszr))).mono ?_); rintro e w4 ⟨rfl, hb4⟩; have hb4 := hb3.trans (hb4.mono hb3.size))
            | ((with_reducible refine (RQ2.out _ hb).mono ?_); rintro e w3 ⟨rfl, hb3⟩))
          | (at_builtin; go_loud (refine wpList_append_lies _ (by rfl) _ _ _ (by rfl) w.heap.size 119 i0 _ 3 24 Tryz.underlying39 hi0 hz0 hz1 hz2 rfl (by omega) (.slice fa k fc) k _ (by rfl) ((own_below Ho.out hb5).alloc _) ⟨w5.heap.size, 0, none⟩ 1 1 [.int .i64 i1, .int .i64 i2, .int .i64 j3] (by rfl) (by rfl) (World.news_of_block (cs := #[.int .i64 i1, .int .i64 i2, .int .i64 j3]) (t := 119) (fr := (0, 0)) (heap_new _ _)) (by simp [Value.oneCell']) (by omega) (by unfold maxLen; omega) (by omega) (by have := hb5.size; simp; omega) (w5.heap.size + 1) (by simp) ?_); intro gg cap w6 hown1 hgrow hat hltg; have hfr : Fr (fun q => (Value.slice fa k fc).ownBlock = some q) w5 w6 := ((Fr.refl _ w5).alloc _).trans (Fr.of_grown hgrow) (fun _ _ h => h); have Ho6 := Lib.hid hown1; have hb6 := Lib.hid ((hb.trans (hb5.mono hszr)).trans (hfr.below (B := w.heap.size) (by have := hb5.size; omega) (fun q hq => by have := (Ho.out.lt q hq).1; omega))); clear hat hgrow hown1 hfr))
        go_roundw
        case rel =>
          refine ⟨k + 1, _, _, _, _, cap, by omega, ?_, ?_, rfl, rfl, ?_, ?_, hb6.out⟩
          rotate_left 2
          · have := hS8.out
            rw [List.drop_drop, List.drop_drop, ← Hy.out, List.drop_drop] at this
            rw [show 7 * (k + 1) = 7 * k + (2 + 1 + 4) by omega]
            exact this
          · rw [itemsE_succ, show sizeE true * k = 7 * k from rfl, Hy.out, Hit.out, flat_append, flat_one]
            exact Ho6.out
          · have := Hmb.out; omega
          · omega
        case measure => simp [lenOf]; omega
      · obtain rfl : k = cnt := by omega
        obtain rfl : mb = 0 := by omega
        go_wp2_with fail
        go_ret2
        exact ⟨fa, fc, rfl, hown, hb⟩

set_option maxHeartbeats 3200000 in
set_option maxRecDepth 100000 in
theorem Items_yes0 (l : List Int) (n cnt : Nat) (a : Option Addr) (c : Nat) (w : World) (hn : l.length = n) (hl : n ≤ 1000000000000) (hc : n ≤ c) (hB : ∀ x ∈ l, Byte x) (hs : Sl encU 1 w a l) (hf : n = 1 + 3 * cnt) (hx : l[0]? = some (cnt : Int)) :
    Calls Tryz.prog 139 #[.slice a n c, .bool false] w fun e w' => ∃ fa fc, e = .returned (.tuple #[.slice fa cnt fc, .bool true]) ∧ w'.ownsRow w.heap.size 119 3 (.slice fa cnt fc) cnt (flat It.enc (itemsE false cnt (l.drop 1))) ∧ Below w.heap.size w w' := by
  obtain ⟨i0, hi0, hz0, hz1, hz2⟩ := info_parts itInfo
  have b0 := hB _ (List.mem_of_getElem? hx)
  unfold Byte at b0
  have h1i : ¬ (n : Int) < 1 := by omega
  have hne : ((n : Int) - 1 != 3 * (cnt : Int)) = false := by simp; omega
  obtain ⟨r, off, rfl, hr, hcc⟩ := hs (by intro h; rw [h] at hn; simp at hn; omega)
  have e0 := hcc 0 _ hx 0 _ rfl
  simp only [Nat.zero_mul, Nat.add_zero] at e0
  have hS := hs.dropV 1
  obtain ⟨rest, hrest⟩ : ∃ rest, l.drop 1 = rest := ⟨_, rfl⟩
  have hrl : rest.length = 3 * cnt := by rw [← hrest, List.length_drop, hn]; omega
  have hBr : ∀ z ∈ rest, Byte z := fun z hz => hB z (by rw [← hrest] at hz; exact List.mem_of_mem_drop hz)
  rw [hrest] at hS ⊢
  have HS := Lib.hid hS
  have Hrl := Lib.hid hrl
  have HBr := Lib.hid hBr
  have Hf := Lib.hid hf
  clear hS hrl hBr hrest hcc hx hB hn hf
  go_enter Tryz.func139, Tryz.ntmps139
  go_wp2_with fail
  · have hS0 : Sl encU 1 w (some ⟨r, off, none⟩) rest := by
      obtain rfl : rest = [] := List.eq_nil_of_length_eq_zero (by rw [Hrl.out]; have := Hf.out; omega)
      exact Sl.nil
    have HS0 := Lib.hid hS0
    clear hS0
    go_loopw [0, 7] (fun s i wr => ∃ (k mb : Nat) (ab : Option Addr) (cb : Nat) (fa : Option Addr) (fc : Nat), k ≤ cnt ∧ mb + 3 * k = 3 * cnt ∧ mb ≤ cb ∧ s = .slice ab mb cb ∧ i = .slice fa k fc ∧ Sl encU 1 w ab (rest.drop (3 * k)) ∧ wr.ownsRow w.heap.size 119 3 (.slice fa k fc) k (flat It.enc (itemsE false k rest)) ∧ Below w.heap.size w wr) (fun s _ _ => lenOf s)
    case atStart => exact ⟨0, _, _, _, none, 0, Nat.zero_le _, by have := Hf.out; omega, by have := Hf.out; omega, rfl, rfl, HS0.out, World.ownsRow_nil _ _ _ _, Below.refl _ _⟩
    case round =>
      obtain ⟨k, mb, ab, cb, fa, fc, hk, hmb, hcb, rfl, rfl, hs, hown, hb⟩ := hrel
      have hszr := hb.size
      by_cases hlt : k < cnt
      · obtain ⟨y, hy⟩ : ∃ y, rest.drop (3 * k) = y := ⟨_, rfl⟩
        have hyl : y.length = mb := by rw [← hy, List.length_drop, Hrl.out]; omega
        have hm13 : 3 ≤ mb := by omega
        have hm0 : (0 : Int) < mb := by omega
        have hBy : ∀ z ∈ y, Byte z := fun z hz => HBr.out z (by rw [← hy] at hz; exact List.mem_of_mem_drop hz)
        rw [hy] at hs
        have hmx : mb ≤ 4000 := by omega
        have RQ2 := Lib.hid (fun W (h : Below w.heap.size w W) => Read2 y mb ab cb W hyl (by omega) hcb hBy (hs.below h) (by omega))
        have RQ1 := Lib.hid (fun W (h : Below w.heap.size w W) => Read1 (y.drop 2) (mb - 2) (cutA ab cb 2) (cb - 2) W (by rw [List.length_drop]; omega) (by omega) (by omega) (fun z hz => hBy z (List.mem_of_mem_drop hz)) ((hs.cutU cb 2 (by omega)).below h) (by omega))
        have hS8 := Lib.hid ((hs.cutU cb 2 (by omega)).cutU (cb - 2) 1 (by rw [List.length_drop]; omega))
        obtain ⟨i1, hi1⟩ : ∃ z, readB (y.take 2) = z := ⟨_, rfl⟩
        obtain ⟨i2, hi2⟩ : ∃ z, readB ((y.drop 2).take 1) = z := ⟨_, rfl⟩
        have hit : itE false y = ⟨i1, i2, 0⟩ := by unfold itE; rw [hi1, hi2, if_neg (by simp)]
        unfold ReadPost at RQ1 RQ2
        rw [hi1] at RQ2
        rw [hi2] at RQ1
        have Hit := Lib.hid hit
        have Hy := Lib.hid hy
        have Ho := Lib.hid hown
        have Hmb := Lib.hid hmb
        clear hs hi1 hi2 hit hy hown hBy hmb hyl
        go_wp2_with (first
          | (go_at_call 138; first
            | ((with_reducible refine (RQ1.out _ (hb.trans (hb3.mono hszr))).mono ?_); rintro e w4 ⟨rfl, hb4⟩; have hb4 := hb3.trans (hb4.mono hb3.size))
            | ((with_reducible refine (RQ2.out _ hb).mono ?_); rintro e w3 ⟨rfl, hb3⟩))
          | (at_builtin; go_loud (refine wpList_append_lies _ (by rfl) _ _ _ (by rfl) w.heap.size 119 i0 _ 3 24 Tryz.underlying39 hi0 hz0 hz1 hz2 rfl (by omega) (.slice fa k fc) k _ (by rfl) ((own_below Ho.out hb4).alloc _) ⟨w4.heap.size, 0, none⟩ 1 1 [.int .i64 i1, .int .i64 i2, .int .i64 0] (by rfl) (by rfl) (World.news_of_block (cs := #[.int .i64 i1, .int .i64 i2, .int .i64 0]) (t := 119) (fr := (0, 0)) (heap_new _ _)) (by simp [Value.oneCell']) (by omega) (by unfold maxLen; omega) (by omega) (by have := hb4.size; simp; omega) (w4.heap.size + 1) (by simp) ?_); intro gg cap w6 hown1 hgrow hat hltg; have hfr : Fr (fun q => (Value.slice fa k fc).ownBlock = some q) w4 w6 := ((Fr.refl _ w4).alloc _).trans (Fr.of_grown hgrow) (fun _ _ h => h); have Ho6 := Lib.hid hown1; have hb6 := Lib.hid ((hb.trans (hb4.mono hszr)).trans (hfr.below (B := w.heap.size) (by have := hb4.size; omega) (fun q hq => by have := (Ho.out.lt q hq).1; omega))); clear hat hgrow hown1 hfr))
        go_roundw
        case rel =>
          refine ⟨k + 1, _, _, _, _, cap, by omega, ?_, ?_, rfl, rfl, ?_, ?_, hb6.out⟩
          rotate_left 2
          · have := hS8.out
            rw [List.drop_drop, ← Hy.out, List.drop_drop] at this
            rw [show 3 * (k + 1) = 3 * k + (2 + 1) by omega]
            exact this
          · rw [itemsE_succ, show sizeE false * k = 3 * k from rfl, Hy.out, Hit.out, flat_append, flat_one]
            exact Ho6.out
          · have := Hmb.out; omega
          · omega
        case measure => simp [lenOf]; omega
      · obtain rfl : k = cnt := by omega
        obtain rfl : mb = 0 := by omega
        go_wp2_with fail
        go_ret2
        exact ⟨fa, fc, rfl, hown, hb⟩
  · have hS0 : Sl encU 1 w (some ⟨r, off + 1, none⟩) rest := HS.out
    have HS0 := Lib.hid hS0
    clear hS0
    go_loopw [0, 7] (fun s i wr => ∃ (k mb : Nat) (ab : Option Addr) (cb : Nat) (fa : Option Addr) (fc : Nat), k ≤ cnt ∧ mb + 3 * k = 3 * cnt ∧ mb ≤ cb ∧ s = .slice ab mb cb ∧ i = .slice fa k fc ∧ Sl encU 1 w ab (rest.drop (3 * k)) ∧ wr.ownsRow w.heap.size 119 3 (.slice fa k fc) k (flat It.enc (itemsE false k rest)) ∧ Below w.heap.size w wr) (fun s _ _ => lenOf s)
    case atStart => exact ⟨0, _, _, _, none, 0, Nat.zero_le _, by have := Hf.out; omega, by have := Hf.out; omega, rfl, rfl, HS0.out, World.ownsRow_nil _ _ _ _, Below.refl _ _⟩
    case round =>
      obtain ⟨k, mb, ab, cb, fa, fc, hk, hmb, hcb, rfl, rfl, hs, hown, hb⟩ := hrel
      have hszr := hb.size
      by_cases hlt : k < cnt
      · obtain ⟨y, hy⟩ : ∃ y, rest.drop (3 * k) = y := ⟨_, rfl⟩
        have hyl : y.length = mb := by rw [← hy, List.length_drop, Hrl.out]; omega
        have hm13 : 3 ≤ mb := by omega
        have hm0 : (0 : Int) < mb := by omega
        have hBy : ∀ z ∈ y, Byte z := fun z hz => HBr.out z (by rw [← hy] at hz; exact List.mem_of_mem_drop hz)
        rw [hy] at hs
        have hmx : mb ≤ 4000 := by omega
        have RQ2 := Lib.hid (fun W (h : Below w.heap.size w W) => Read2 y mb ab cb W hyl (by omega) hcb hBy (hs.below h) (by omega))
        have RQ1 := Lib.hid (fun W (h : Below w.heap.size w W) => Read1 (y.drop 2) (mb - 2) (cutA ab cb 2) (cb - 2) W (by rw [List.length_drop]; omega) (by omega) (by omega) (fun z hz => hBy z (List.mem_of_mem_drop hz)) ((hs.cutU cb 2 (by omega)).below h) (by omega))
        have hS8 := Lib.hid ((hs.cutU cb 2 (by omega)).cutU (cb - 2) 1 (by rw [List.length_drop]; omega))
        obtain ⟨i1, hi1⟩ : ∃ z, readB (y.take 2) = z := ⟨_, rfl⟩
        obtain ⟨i2, hi2⟩ : ∃ z, readB ((y.drop 2).take 1) = z := ⟨_, rfl⟩
        have hit : itE false y = ⟨i1, i2, 0⟩ := by unfold itE; rw [hi1, hi2, if_neg (by simp)]
        unfold ReadPost at RQ1 RQ2
        rw [hi1] at RQ2
        rw [hi2] at RQ1
        have Hit := Lib.hid hit
        have Hy := Lib.hid hy
        have Ho := Lib.hid hown
        have Hmb := Lib.hid hmb
        clear hs hi1 hi2 hit hy hown hBy hmb hyl
        go_wp2_with (first
          | (go_at_call 138; first
            | ((with_reducible refine (RQ1.out _ (hb.trans (hb3.mono hszr))).mono ?_); rintro e w4 ⟨rfl, hb4⟩; have hb4 := hb3.trans (hb4.mono hb3.size))
            | ((with_reducible refine (RQ2.out _ hb).mono ?_); rintro e w3 ⟨rfl, hb3⟩))
          | (at_builtin; go_loud (refine wpList_append_lies _ (by rfl) _ _ _ (by rfl) w.heap.size 119 i0 _ 3 24 Tryz.underlying39 hi0 hz0 hz1 hz2 rfl (by omega) (.slice fa k fc) k _ (by rfl) ((own_below Ho.out hb4).alloc _) ⟨w4.heap.size, 0, none⟩ 1 1 [.int .i64 i1, .int .i64 i2, .int .i64 0] (by rfl) (by rfl) (World.news_of_block (cs := #[.int .i64 i1, .int .i64 i2, .int .i64 0]) (t := 119) (fr := (0, 0)) (heap_new _ _)) (by simp [Value.oneCell']) (by omega) (by unfold maxLen; omega) (by omega) (by have := hb4.size; simp; omega) (w4.heap.size + 1) (by simp) ?_); intro gg cap w6 hown1 hgrow hat hltg; have hfr : Fr (fun q => (Value.slice fa k fc).ownBlock = some q) w4 w6 := ((Fr.refl _ w4).alloc _).trans (Fr.of_grown hgrow) (fun _ _ h => h); have Ho6 := Lib.hid hown1; have hb6 := Lib.hid ((hb.trans (hb4.mono hszr)).trans (hfr.below (B := w.heap.size) (by have := hb4.size; omega) (fun q hq => by have := (Ho.out.lt q hq).1; omega))); clear hat hgrow hown1 hfr))
        go_roundw
        case rel =>
          refine ⟨k + 1, _, _, _, _, cap, by omega, ?_, ?_, rfl, rfl, ?_, ?_, hb6.out⟩
          rotate_left 2
          · have := hS8.out
            rw [List.drop_drop, ← Hy.out, List.drop_drop] at this
            rw [show 3 * (k + 1) = 3 * k + (2 + 1) by omega]
            exact this
          · rw [itemsE_succ, show sizeE false * k = 3 * k from rfl, Hy.out, Hit.out, flat_append, flat_one]
            exact Ho6.out
          · have := Hmb.out; omega
          · omega
        case measure => simp [lenOf]; omega
      · obtain rfl : k = cnt := by omega
        obtain rfl : mb = 0 := by omega
        go_wp2_with fail
        go_ret2
        exact ⟨fa, fc, rfl, hown, hb⟩
end Go.Proofs.YtlgkkolgdjgclaaGreat
/- Package elder: any version made the last one; read. -/
namespace Go.Proofs.YtlgkkolgdjgclaaGreat
open Go.RowKit
set_option linter.unusedVariables false
set_option linter.unusedSimpArgs false

/-- What Up leaves. -/
def UpPost (R : List Int × Int) (w : World) (e : Ending) (w' : World) : Prop :=
  ∃ a' c', e = .returned (.tuple #[.slice a' R.1.length c', .int .i64 R.2]) ∧ Sl encU 1 w' a' R.1 ∧ R.1.length ≤ c' ∧ Below w.heap.size w w'

/-- A first number that tells how many items there are. -/
theorem fits_cnt {lags : Bool} {l : List Int} {n : Nat} (hn : l.length = n) (hB : ∀ x ∈ l, Byte x) (h : fitsE lags l) : ∃ cnt : Nat, n = 1 + sizeE lags * cnt ∧ l[0]? = some (cnt : Int) ∧ (l.getD 0 0).toNat = cnt := by
  have h0 : l[0]? = some (l.getD 0 0) := by rw [List.getD_eq_getElem?_getD, List.getElem?_eq_getElem (by have := h.1; omega)]; rfl
  have b0 := hB _ (List.mem_of_getElem? h0)
  unfold Byte at b0
  obtain ⟨cnt, hc⟩ := Int.eq_ofNat_of_zero_le b0.1
  have h2 := h.2
  rw [hc] at h2 h0 ⊢
  refine ⟨cnt, ?_, h0, Int.toNat_natCast _⟩
  have h1 := h.1
  have e : ((sizeE lags * cnt : Nat) : Int) = (sizeE lags : Int) * (cnt : Int) := Int.natCast_mul _ _
  generalize sizeE lags * cnt = q at *
  omega

set_option maxHeartbeats 2400000 in
set_option maxRecDepth 100000 in
theorem Up_any (l : List Int) (n : Nat) (a : Option Addr) (c : Nat) (w : World) (hn : l.length = n) (hl : n ≤ 1000000) (hc : n ≤ c) (hB : ∀ x ∈ l, Byte x) (hs : Sl encU 1 w a l) {R : List Int × Int} (hR : upB l = R) :
    Calls Tryz.prog 115 #[.slice a n c] w (UpPost R w) := by
  have HO := Lib.hid (Open_any l n a c w hn (by omega) hc hB hs)
  have hBx := openB_byte hB
  have hxl : (openB l).1.length ≤ n := by
    unfold openB
    cases hg : sealG l with
    | none => simp
    | some y =>
      have : y.length ≤ n := by
        unfold sealG at hg
        split at hg
        · cases hg; rw [List.length_take]; omega
        · cases hg
      simp only
      split
      · simp only [List.length_drop]; omega
      · simp
  unfold upB at hR
  have HG := Lib.hid (fun W (h : Below w.heap.size w W) => Get_any l n a c W hn (by omega) hc hB (hs.below h) (R := getB l) rfl)
  have HCl := Lib.hid (fun W (h : Below w.heap.size w W) => SlClone_any l n a c W hn (by omega) (hs.below h))
  generalize hx : (openB l).1 = x at *
  generalize hv : (openB l).2.1 = v at *
  generalize her : (openB l).2.2 = er at *
  have Hn := Lib.hid hn
  clear hs hB hn hx hv her
  by_cases h1 : er = 0
  case neg =>
    rw [if_pos h1] at hR
    subst hR
    have h1b : (er != 0) = true := by simpa using h1
    clear hBx h1 HG HCl
    go_enter Tryz.func115, Tryz.ntmps115
    go_wp2_with (go_at_call 136; refine HO.out.mono ?_; rintro e w1 ⟨a1, c1, rfl, hs1, hc1, hbe⟩)
    all_goals go_ret2
    all_goals exact ⟨none, 0, rfl, Sl.nil, Nat.le_refl _, hbe⟩
  case pos =>
    subst h1
    rw [if_neg (by simp)] at hR
    by_cases h3 : v = 3
    case pos =>
      subst h3
      rw [if_pos rfl] at hR
      by_cases hg : (getB l).2.2 = 0
      case neg =>
        rw [if_pos hg] at hR
        subst hR
        have hgb : ((getB l).2.2 != 0) = true := by simpa using hg
        clear hg
        generalize getB l = G at *
        obtain ⟨g1, g2, g3⟩ := G
        clear hBx HCl
        go_enter Tryz.func115, Tryz.ntmps115
        go_wp2_with (first
          | (go_at_call 136; refine HO.out.mono ?_; rintro e w1 ⟨a1, c1, rfl, hs1, hc1, hb1⟩)
          | (go_at_call 116; refine (HG.out _ hb1).mono ?_; rintro e w2 ⟨fa, fc, rfl, hs2, hb2⟩; have hbe := ((hb1.trans (hb2.mono hb1.size)).alloc (Nat.le_trans hb1.size hb2.size) (.cells #[.int .i64 g2.cur, .slice fa g2.l.length fc] 41))))
        all_goals go_ret2
        all_goals exact ⟨none, 0, rfl, Sl.nil, Nat.le_refl _, hbe⟩
      case pos =>
        rw [if_neg (by simpa using hg)] at hR
        subst hR
        generalize getB l = G at *
        obtain ⟨g1, g2, g3⟩ := G
        simp only at hg
        subst hg
        clear hBx
        go_enter Tryz.func115, Tryz.ntmps115
        go_wp2_with (first
          | (go_at_call 136; refine HO.out.mono ?_; rintro e w1 ⟨a1, c1, rfl, hs1, hc1, hb1⟩)
          | (go_at_call 116; refine (HG.out _ hb1).mono ?_; rintro e w2 ⟨fa, fc, rfl, hs2, hb2⟩; have hbe := ((hb1.trans (hb2.mono hb1.size)).alloc (Nat.le_trans hb1.size hb2.size) (.cells #[.int .i64 g2.cur, .slice fa g2.l.length fc] 41)))
          | (go_at_call 137; refine (HCl.out _ hbe).mono ?_; rintro e w3 ⟨a3, c3, rfl, ho3, hb3⟩; have Ho3 := Lib.hid ho3; clear ho3))
        go_ret2
        exact ⟨a3, c3, by rw [Hn.out]; rfl, own_sl Ho3.out, by rw [Hn.out]; exact own_cap Ho3.out, hbe.trans (hb3.mono hbe.size)⟩
    case neg =>
      rw [if_neg h3] at hR
      have h3b : (v == 3) = false := by simpa using h3
      by_cases h12 : v ≠ 1 ∧ v ≠ 2
      case pos =>
        rw [if_pos h12] at hR
        subst hR
        have hv1 : (v != 1) = true := by simpa using h12.1
        have hv2 : (v != 2) = true := by simpa using h12.2
        clear hBx HG HCl h12 h3
        go_enter Tryz.func115, Tryz.ntmps115
        go_wp2_with (go_at_call 136; refine HO.out.mono ?_; rintro e w1 ⟨a1, c1, rfl, hs1, hc1, hbe⟩)
        all_goals go_ret2
        all_goals exact ⟨none, 0, rfl, Sl.nil, Nat.le_refl _, hbe⟩
      case neg =>
        rw [if_neg h12] at hR
        clear HG HCl
        have hv : v = 1 ∨ v = 2 := by omega
        clear h12 h3 h3b
        rcases hv with rfl | rfl
        · -- version 1
          have eT : elderT 1 x = (false, x.drop 1, -1) := rfl
          have eF : elderF 1 x = ⟨-1, itemsE false ((x.drop 1).getD 0 0).toNat ((x.drop 1).drop 1)⟩ := rfl
          rw [eT, eF] at hR
          simp only at hR
          obtain ⟨m, hm⟩ : ∃ m, x.length = m := ⟨_, rfl⟩
          rw [hm] at HO
          by_cases hok : 1 ≤ m
          case neg =>
            have hno : ¬ elderOk 1 x := fun h => hok (by rw [← hm]; exact h.1)
            rw [if_pos hno] at hR
            subst hR
            have hok2 : ¬ (1 : Int) ≤ m := by omega
            clear hno hok hBx hm hxl eT eF
            go_enter Tryz.func115, Tryz.ntmps115
            go_wp2_with (go_at_call 136; refine HO.out.mono ?_; rintro e w1 ⟨a1, c1, rfl, hs1, hc1, hb1⟩; have hbe := hb1.alloc hb1.size (.cells #[.int .i64 (-1), .slice none 0 0] 41))
            all_goals go_ret2
            all_goals exact ⟨none, 0, rfl, Sl.nil, Nat.le_refl _, hbe⟩
          case pos =>
            have hyes : elderOk 1 x := ⟨by rw [hm]; exact hok, fun h => by omega⟩
            rw [if_neg (by simpa using hyes)] at hR
            have hok2 : (1 : Int) ≤ m := by omega
            obtain ⟨x0, hx0⟩ : ∃ z, x.getD 0 0 = z := ⟨_, rfl⟩
            have h0 : x[0]? = some x0 := by rw [← hx0, List.getD_eq_getElem?_getD, List.getElem?_eq_getElem (by omega)]; rfl
            have b0 := hBx x0 (List.mem_of_getElem? h0)
            unfold Byte at b0
            obtain ⟨rest, hrest⟩ : ∃ rest, x.drop 1 = rest := ⟨_, rfl⟩
            have hrl : rest.length = m - 1 := by rw [← hrest, List.length_drop, hm]
            have hBr : ∀ z ∈ rest, Byte z := fun z hz => hBx z (by rw [← hrest] at hz; exact List.mem_of_mem_drop hz)
            rw [hx0, hrest] at hR
            have H0 := Lib.hid h0
            have Hm := Lib.hid hm
            have Hrest := Lib.hid hrest
            have hmx : m ≤ 1000000 := by omega
            by_cases hfit : fitsE false rest
            case neg =>
              rw [if_pos hfit] at hR
              subst hR
              have Hrl := Lib.hid hrl
              have IN := Lib.hid (fun W A C (h : Sl encU 1 W A rest) => Items_no rest false (m - 1) A C W hrl (by omega) hBr h hfit)
              clear hyes hok hBx hm hxl eT eF h0 hrest hfit hBr hrl hx0
              go_enter Tryz.func115, Tryz.ntmps115
              go_wp2_with (go_at_call 136; refine HO.out.mono ?_; rintro e w1 ⟨a1, c1, rfl, hs1, hc1, hb1⟩; obtain ⟨r, off, rfl, hr, hcc⟩ := hs1 (by intro h; have := Hm.out; rw [h] at this; simp at this; omega); have f0 := hcc 0 _ H0.out 0 _ rfl; simp only [Nat.zero_mul, Nat.add_zero] at f0; have HX1 := Lib.hid hs1; clear hcc hs1)
              refine wp_region_chain 95 [0, 1, 3, 7, 0, 16, 15, 127] [(0, none), (1, none), (2, none), (3, none), (4, none), (5, none), (6, none), (7, none)] (by kernel_rfl) (by kernel_rfl) (by rfl) ?_; simp only [chain, Obs, List.getElem?_toArray, List.getElem?_cons_zero, List.getElem?_cons_succ]
              go_wp2_with (with_reducible refine And.intro (by first | with_reducible exact True.intro | with_reducible rfl | go_simp) ?_)
              · have hS0 : Sl encU 1 w1 (some ⟨r, off, none⟩) rest := by
                  obtain rfl : rest = [] := List.eq_nil_of_length_eq_zero (by rw [Hrl.out]; omega)
                  exact Sl.nil
                refine NoPanic.normal ?_
                have hF := heap_new w1 (.cells #[.int .i64 (-1), .slice none 0 0] 41)
                have hbW := (hb1.alloc hb1.size (.cells #[.int .i64 (-1), .slice none 0 0] 41)).drew
                have hSW : Sl encU 1 (w1.alloc (.cells #[.int .i64 (-1), .slice none 0 0] 41)).drew _ rest := hS0.below ((Below.refl _ _).alloc (Nat.le_refl _) _).drew
                have HF := Lib.hid hF
                have HSW := Lib.hid hSW
                clear hF hSW hS0
                go_wp2_with (go_at_call 139; refine (IN.out _ _ _ HSW.out).mono ?_; rintro e w3 ⟨rfl, hb3⟩; have hF3 := heap_below (w := (w1.alloc (.cells #[.int .i64 (-1), .slice none 0 0] 41)).drew) HF.out hb3; obtain ⟨g0, g1, y0, y1, gl⟩ := blk2 hF3; clear hF3)
                have hbe := (hbW.trans (hb3.mono hbW.size)).setCell (p := ⟨w1.heap.size, 1, none⟩) hb1.size (.slice none 0 0)
                all_goals go_ret2
                all_goals exact ⟨none, 0, rfl, Sl.nil, Nat.le_refl _, hbe⟩
              · have hS0 : Sl encU 1 w1 (some ⟨r, off + 1, none⟩) rest := by rw [← Hrest.out]; exact HX1.out.dropV 1
                refine NoPanic.normal ?_
                have hF := heap_new w1 (.cells #[.int .i64 (-1), .slice none 0 0] 41)
                have hbW := (hb1.alloc hb1.size (.cells #[.int .i64 (-1), .slice none 0 0] 41)).drew
                have hSW : Sl encU 1 (w1.alloc (.cells #[.int .i64 (-1), .slice none 0 0] 41)).drew _ rest := hS0.below ((Below.refl _ _).alloc (Nat.le_refl _) _).drew
                have HF := Lib.hid hF
                have HSW := Lib.hid hSW
                clear hF hSW hS0
                go_wp2_with (go_at_call 139; refine (IN.out _ _ _ HSW.out).mono ?_; rintro e w3 ⟨rfl, hb3⟩; have hF3 := heap_below (w := (w1.alloc (.cells #[.int .i64 (-1), .slice none 0 0] 41)).drew) HF.out hb3; obtain ⟨g0, g1, y0, y1, gl⟩ := blk2 hF3; clear hF3)
                have hbe := (hbW.trans (hb3.mono hbW.size)).setCell (p := ⟨w1.heap.size, 1, none⟩) hb1.size (.slice none 0 0)
                all_goals go_ret2
                all_goals exact ⟨none, 0, rfl, Sl.nil, Nat.le_refl _, hbe⟩
            case pos =>
              rw [if_neg (by simpa using hfit)] at hR
              obtain ⟨cnt, hcn, hr0, hct⟩ := fits_cnt hrl hBr hfit
              rw [hct] at hR
              have hcn2 : m - 1 = 1 + 3 * cnt := hcn
              have IY := Lib.hid (fun W A C (hC : m - 1 ≤ C) (h : Sl encU 1 W A rest) => Items_yes0 rest (m - 1) cnt A C W hrl (by omega) hC hBr h hcn2 hr0)
              obtain ⟨L, hL⟩ : ∃ L, itemsE false cnt (rest.drop 1) = L := ⟨_, rfl⟩
              have hLl : L.length = cnt := by rw [← hL]; exact itemsE_length _ _ _
              rw [hL] at hR IY
              have hcm : cnt ≤ 1000000 := by omega
              have Hcn := Lib.hid hcn2
              by_cases hgd : goodC x0 ⟨-1, L⟩ = true
              · rw [if_pos hgd] at hR
                have HPut := Lib.hid (fun W A C (h : Sl It.enc 3 W A L) => CodePut_ok x0 (-1) L cnt A C W hLl h hgd)
                have HR := Lib.hid hR
                clear hyes hok hBx hm hxl eT eF h0 hrest hfit hBr hrl hx0 hcn hr0 hct hL hgd hR hcn2
                go_enter Tryz.func115, Tryz.ntmps115
                go_wp2_with (go_at_call 136; refine HO.out.mono ?_; rintro e w1 ⟨a1, c1, rfl, hs1, hc1, hb1⟩; obtain ⟨r, off, rfl, hr, hcc⟩ := hs1 (by intro h; have := Hm.out; rw [h] at this; simp at this; omega); have f0 := hcc 0 _ H0.out 0 _ rfl; simp only [Nat.zero_mul, Nat.add_zero] at f0; have HX1 := Lib.hid hs1; clear hcc hs1)
                refine wp_region_chain 95 [0, 1, 3, 7, 0, 16, 15, 127] [(0, none), (1, none), (2, none), (3, none), (4, none), (5, none), (6, none), (7, none)] (by kernel_rfl) (by kernel_rfl) (by rfl) ?_; simp only [chain, Obs, List.getElem?_toArray, List.getElem?_cons_zero, List.getElem?_cons_succ]
                go_wp2_with (with_reducible refine And.intro (by first | with_reducible exact True.intro | with_reducible rfl | go_simp) ?_)
                · exact absurd Hcn.out (by omega)
                · have hS0 : Sl encU 1 w1 (some ⟨r, off + 1, none⟩) rest := by rw [← Hrest.out]; exact HX1.out.dropV 1
                  refine NoPanic.normal ?_
                  have hF := heap_new w1 (.cells #[.int .i64 (-1), .slice none 0 0] 41)
                  have hbW := (hb1.alloc hb1.size (.cells #[.int .i64 (-1), .slice none 0 0] 41)).drew
                  have hSW : Sl encU 1 (w1.alloc (.cells #[.int .i64 (-1), .slice none 0 0] 41)).drew _ rest := hS0.below ((Below.refl _ _).alloc (Nat.le_refl _) _).drew
                  have HF := Lib.hid hF
                  have HSW := Lib.hid hSW
                  clear hF hSW hS0
                  go_wp2_with (first
                    | (go_at_call 139; refine (IY.out _ _ _ (by omega) HSW.out).mono ?_; rintro e w3 ⟨fa, fc, rfl, ho3, hb3⟩; have hF3 := heap_below (w := (w1.alloc (.cells #[.int .i64 (-1), .slice none 0 0] 41)).drew) HF.out hb3; obtain ⟨g0, g1, y0, y1, gl⟩ := blk2 hF3; have hnF : (Value.slice fa cnt fc).ownBlock ≠ some w1.heap.size := (fun e => by have := (ho3.lt _ e).1; simp at this; omega); have HI3 := Lib.hid (Sl.of_own (n := cnt) (c := fc) It.len (by rw [hLl]; exact own_set (u := .slice fa cnt fc) (i := 1) ho3 hnF)); have hb4 := Lib.hid ((hbW.trans (hb3.mono hbW.size)).setCell (p := ⟨w1.heap.size, 1, none⟩) hb1.size (.slice fa cnt fc)); clear hF3 ho3)
                    | (go_at_call 96; refine (HPut.out _ _ _ HI3.out).mono ?_; rintro e w7 ⟨a7, k7, rfl, ho7, hb7⟩; have Ho7 := Lib.hid ho7; clear ho7))
                  go_ret2
                  rw [← HR.out]
                  exact ⟨a7, k7, rfl, own_sl Ho7.out, own_cap Ho7.out, hb4.out.trans (hb7.mono hb4.out.size)⟩
              · rw [if_neg hgd] at hR
                subst hR
                have hgf : goodC x0 ⟨-1, L⟩ = false := by simpa using hgd
                have HPut := Lib.hid (fun W A C (h : Sl It.enc 3 W A L) => CodePut_err x0 (-1) L cnt A C W hLl (by omega) h hgf)
                clear hyes hok hBx hm hxl eT eF h0 hrest hfit hBr hrl hx0 hcn hr0 hct hL hgd hgf hcn2
                go_enter Tryz.func115, Tryz.ntmps115
                go_wp2_with (go_at_call 136; refine HO.out.mono ?_; rintro e w1 ⟨a1, c1, rfl, hs1, hc1, hb1⟩; obtain ⟨r, off, rfl, hr, hcc⟩ := hs1 (by intro h; have := Hm.out; rw [h] at this; simp at this; omega); have f0 := hcc 0 _ H0.out 0 _ rfl; simp only [Nat.zero_mul, Nat.add_zero] at f0; have HX1 := Lib.hid hs1; clear hcc hs1)
                refine wp_region_chain 95 [0, 1, 3, 7, 0, 16, 15, 127] [(0, none), (1, none), (2, none), (3, none), (4, none), (5, none), (6, none), (7, none)] (by kernel_rfl) (by kernel_rfl) (by rfl) ?_; simp only [chain, Obs, List.getElem?_toArray, List.getElem?_cons_zero, List.getElem?_cons_succ]
                go_wp2_with (with_reducible refine And.intro (by first | with_reducible exact True.intro | with_reducible rfl | go_simp) ?_)
                · exact absurd Hcn.out (by omega)
                · have hS0 : Sl encU 1 w1 (some ⟨r, off + 1, none⟩) rest := by rw [← Hrest.out]; exact HX1.out.dropV 1
                  refine NoPanic.normal ?_
                  have hF := heap_new w1 (.cells #[.int .i64 (-1), .slice none 0 0] 41)
                  have hbW := (hb1.alloc hb1.size (.cells #[.int .i64 (-1), .slice none 0 0] 41)).drew
                  have hSW : Sl encU 1 (w1.alloc (.cells #[.int .i64 (-1), .slice none 0 0] 41)).drew _ rest := hS0.below ((Below.refl _ _).alloc (Nat.le_refl _) _).drew
                  have HF := Lib.hid hF
                  have HSW := Lib.hid hSW
                  clear hF hSW hS0
                  go_wp2_with (first
                    | (go_at_call 139; refine (IY.out _ _ _ (by omega) HSW.out).mono ?_; rintro e w3 ⟨fa, fc, rfl, ho3, hb3⟩; have hF3 := heap_below (w := (w1.alloc (.cells #[.int .i64 (-1), .slice none 0 0] 41)).drew) HF.out hb3; obtain ⟨g0, g1, y0, y1, gl⟩ := blk2 hF3; have hnF : (Value.slice fa cnt fc).ownBlock ≠ some w1.heap.size := (fun e => by have := (ho3.lt _ e).1; simp at this; omega); have HI3 := Lib.hid (Sl.of_own (n := cnt) (c := fc) It.len (by rw [hLl]; exact own_set (u := .slice fa cnt fc) (i := 1) ho3 hnF)); have hb4 := Lib.hid ((hbW.trans (hb3.mono hbW.size)).setCell (p := ⟨w1.heap.size, 1, none⟩) hb1.size (.slice fa cnt fc)); clear hF3 ho3)
                    | (go_at_call 96; refine (HPut.out _ _ _ HI3.out).mono ?_; rintro e w7 ⟨rfl, hb7⟩))
                  go_ret2
                  exact ⟨none, 0, rfl, Sl.nil, Nat.le_refl _, hb4.out.trans (hb7.mono hb4.out.size)⟩
        · -- version 2
          have eT : elderT 2 x = (true, (x.drop 1).drop 2, readB ((x.drop 1).take 2) - 1) := by unfold elderT; rw [if_pos rfl]
          have eF : elderF 2 x = ⟨readB ((x.drop 1).take 2) - 1, itemsE true (((x.drop 1).drop 2).getD 0 0).toNat (((x.drop 1).drop 2).drop 1)⟩ := by unfold elderF; rw [eT]
          rw [eT, eF] at hR
          simp only at hR
          obtain ⟨m, hm⟩ : ∃ m, x.length = m := ⟨_, rfl⟩
          rw [hm] at HO
          by_cases hok : 3 ≤ m
          case neg =>
            have hno : ¬ elderOk 2 x := fun h => hok (by rw [← hm]; exact h.2 rfl)
            rw [if_pos hno] at hR
            subst hR
            have hok3 : ¬ (3 : Int) ≤ m := by omega
            have hd3 : decide ((3 : Int) ≤ m) = false := decide_eq_false hok3
            by_cases hok1 : 1 ≤ m
            · have hok2 : (1 : Int) ≤ m := by omega
              clear hno hok hBx hm hxl eT eF
              go_enter Tryz.func115, Tryz.ntmps115
              go_wp2_with (go_at_call 136; refine HO.out.mono ?_; rintro e w1 ⟨a1, c1, rfl, hs1, hc1, hb1⟩; have hbe := hb1.alloc hb1.size (.cells #[.int .i64 (-1), .slice none 0 0] 41))
              all_goals go_ret2
              all_goals exact ⟨none, 0, rfl, Sl.nil, Nat.le_refl _, hbe⟩
            · have hok2 : ¬ (1 : Int) ≤ m := by omega
              clear hno hok hBx hm hxl eT eF
              go_enter Tryz.func115, Tryz.ntmps115
              go_wp2_with (go_at_call 136; refine HO.out.mono ?_; rintro e w1 ⟨a1, c1, rfl, hs1, hc1, hb1⟩; have hbe := hb1.alloc hb1.size (.cells #[.int .i64 (-1), .slice none 0 0] 41))
              all_goals go_ret2
              all_goals exact ⟨none, 0, rfl, Sl.nil, Nat.le_refl _, hbe⟩
          case pos =>
            have hyes : elderOk 2 x := ⟨by rw [hm]; omega, fun h => by rw [hm]; exact hok⟩
            rw [if_neg (by simpa using hyes)] at hR
            have hok2 : (1 : Int) ≤ m := by omega
            have hok3 : (3 : Int) ≤ m := by omega
            obtain ⟨x0, hx0⟩ : ∃ z, x.getD 0 0 = z := ⟨_, rfl⟩
            have h0 : x[0]? = some x0 := by rw [← hx0, List.getD_eq_getElem?_getD, List.getElem?_eq_getElem (by omega)]; rfl
            have b0 := hBx x0 (List.mem_of_getElem? h0)
            unfold Byte at b0
            obtain ⟨rest, hrest⟩ : ∃ rest, (x.drop 1).drop 2 = rest := ⟨_, rfl⟩
            obtain ⟨cu, hcu⟩ : ∃ cu, readB ((x.drop 1).take 2) = cu := ⟨_, rfl⟩
            have hcb := read_bound (l := (x.drop 1).take 2) (fun y hy => hBx y (List.mem_of_mem_drop (List.mem_of_mem_take hy))) (by rw [List.length_take]; omega)
            have hl2 : ((x.drop 1).take 2).length = 2 := by rw [List.length_take, List.length_drop]; omega
            rw [hl2, hcu, show (256 : Int) ^ 2 = 65536 from by decide] at hcb
            have hcb0 := hcb.1
            have hcb1 := hcb.2
            have hrl : rest.length = m - 1 - 2 := by rw [← hrest, List.length_drop, List.length_drop, hm]
            have hBr : ∀ z ∈ rest, Byte z := fun z hz => hBx z (by rw [← hrest] at hz; exact List.mem_of_mem_drop (List.mem_of_mem_drop hz))
            rw [hx0, hrest, hcu] at hR
            have RQ := Lib.hid (fun W A C (hC : m - 1 ≤ C) (h : Sl encU 1 W A (x.drop 1)) => Read2 (x.drop 1) (m - 1) A C W (by rw [List.length_drop, hm]) (by omega) hC (fun y hy => hBx y (List.mem_of_mem_drop hy)) h (by omega))
            unfold ReadPost at RQ
            have H0 := Lib.hid h0
            have Hm := Lib.hid hm
            have Hcu := Lib.hid hcu
            have Hrest := Lib.hid hrest
            have hmx : m ≤ 1000000 := by omega
            by_cases hfit : fitsE true rest
            case neg =>
              rw [if_pos hfit] at hR
              subst hR
              have IN := Lib.hid (fun W A C (h : Sl encU 1 W A rest) => Items_no rest true (m - 1 - 2) A C W hrl (by omega) hBr h hfit)
              clear hyes hok hBx hm hxl eT eF h0 hrest hfit hBr hrl hx0 hcu hcb hl2
              go_enter Tryz.func115, Tryz.ntmps115
              go_wp2_with (go_at_call 136; refine HO.out.mono ?_; rintro e w1 ⟨a1, c1, rfl, hs1, hc1, hb1⟩; obtain ⟨r, off, rfl, hr, hcc⟩ := hs1 (by intro h; have := Hm.out; rw [h] at this; simp at this; omega); have f0 := hcc 0 _ H0.out 0 _ rfl; simp only [Nat.zero_mul, Nat.add_zero] at f0; have hc1n : ¬ c1 = 1 := (by omega); have HX1 := Lib.hid hs1; clear hcc hs1)
              refine wp_region_chain 95 [0, 1, 3, 7, 0, 16, 15, 127] [(0, none), (1, none), (2, none), (3, none), (4, none), (5, none), (6, none), (7, none)] (by kernel_rfl) (by kernel_rfl) (by rfl) ?_; simp only [chain, Obs, List.getElem?_toArray, List.getElem?_cons_zero, List.getElem?_cons_succ]
              go_wp2_with (with_reducible refine And.intro (by first | with_reducible exact True.intro | with_reducible rfl | go_simp) ?_)
              refine NoPanic.normal ?_
              have hF := heap_new w1 (.cells #[.int .i64 (-1), .slice none 0 0] 41)
              have hbW := (hb1.alloc hb1.size (.cells #[.int .i64 (-1), .slice none 0 0] 41)).drew
              have hbX := ((Below.refl w1.heap.size w1).alloc (Nat.le_refl _) (.cells #[.int .i64 (-1), .slice none 0 0] 41)).drew
              have HF := Lib.hid hF
              have HSW := Lib.hid ((HX1.out.dropV 1).below hbX)
              have HXr := Lib.hid ((HX1.out.dropV 1).cutU (c1 - 1) 2 (by rw [List.length_drop, Hm.out]; omega))
              rw [Hrest.out] at HXr
              clear hF
              go_wp2_with (first
                | (go_at_call 138; refine (RQ.out _ _ _ (by omega) HSW.out).mono ?_; rintro e w2 ⟨rfl, hb2⟩; have hF2 := heap_below (w := (w1.alloc (.cells #[.int .i64 (-1), .slice none 0 0] 41)).drew) HF.out hb2; obtain ⟨g0, g1, y0, y1, gl⟩ := blk2 hF2; have HF2 := Lib.hid (heap_set (i := 0) hF2 (.int .i64 (cu - 1))); have hbY := Lib.hid ((hbX.trans (hb2.mono hbX.size)).setCell (p := ⟨w1.heap.size, 0, none⟩) (Nat.le_refl _) (.int .i64 (cu - 1))); have hbZ := Lib.hid ((hbW.trans (hb2.mono hbW.size)).setCell (p := ⟨w1.heap.size, 0, none⟩) hb1.size (.int .i64 (cu - 1))); have HSr := Lib.hid (HXr.out.below hbY.out); rw [Hcu.out]; clear hF2)
                | (go_at_call 139; refine (IN.out _ _ _ HSr.out).mono ?_; rintro e w3 ⟨rfl, hb3⟩; have hF3 := heap_below HF2.out hb3; obtain ⟨g0, g1, y0, y1, gl⟩ := blk2 hF3; have hbe := (hbZ.out.trans (hb3.mono hbZ.out.size)).setCell (p := ⟨w1.heap.size, 1, none⟩) hb1.size (.slice none 0 0); clear hF3))
              all_goals go_ret2
              all_goals exact ⟨none, 0, rfl, Sl.nil, Nat.le_refl _, hbe⟩
            case pos =>
              rw [if_neg (by simpa using hfit)] at hR
              obtain ⟨cnt, hcn, hr0, hct⟩ := fits_cnt hrl hBr hfit
              rw [hct] at hR
              have hcn2 : m - 1 - 2 = 1 + 7 * cnt := hcn
              have IY := Lib.hid (fun W A C (hC : m - 1 - 2 ≤ C) (h : Sl encU 1 W A rest) => Items_yes rest (m - 1 - 2) cnt A C W hrl (by omega) hC hBr h hcn2 hr0)
              obtain ⟨L, hL⟩ : ∃ L, itemsE true cnt (rest.drop 1) = L := ⟨_, rfl⟩
              have hLl : L.length = cnt := by rw [← hL]; exact itemsE_length _ _ _
              rw [hL] at hR IY
              have hcm : cnt ≤ 1000000 := by omega
              have Hcn := Lib.hid hcn2
              by_cases hgd : goodC x0 ⟨cu - 1, L⟩ = true
              · rw [if_pos hgd] at hR
                have HPut := Lib.hid (fun W A C (h : Sl It.enc 3 W A L) => CodePut_ok x0 (cu - 1) L cnt A C W hLl h hgd)
                have HR := Lib.hid hR
                clear hyes hok hBx hm hxl eT eF h0 hrest hfit hBr hrl hx0 hcn hr0 hct hL hgd hR hcn2 hcu hcb hl2
                go_enter Tryz.func115, Tryz.ntmps115
                go_wp2_with (go_at_call 136; refine HO.out.mono ?_; rintro e w1 ⟨a1, c1, rfl, hs1, hc1, hb1⟩; obtain ⟨r, off, rfl, hr, hcc⟩ := hs1 (by intro h; have := Hm.out; rw [h] at this; simp at this; omega); have f0 := hcc 0 _ H0.out 0 _ rfl; simp only [Nat.zero_mul, Nat.add_zero] at f0; have hc1n : ¬ c1 = 1 := (by omega); have HX1 := Lib.hid hs1; clear hcc hs1)
                refine wp_region_chain 95 [0, 1, 3, 7, 0, 16, 15, 127] [(0, none), (1, none), (2, none), (3, none), (4, none), (5, none), (6, none), (7, none)] (by kernel_rfl) (by kernel_rfl) (by rfl) ?_; simp only [chain, Obs, List.getElem?_toArray, List.getElem?_cons_zero, List.getElem?_cons_succ]
                go_wp2_with (with_reducible refine And.intro (by first | with_reducible exact True.intro | with_reducible rfl | go_simp) ?_)
                refine NoPanic.normal ?_
                have hF := heap_new w1 (.cells #[.int .i64 (-1), .slice none 0 0] 41)
                have hbW := (hb1.alloc hb1.size (.cells #[.int .i64 (-1), .slice none 0 0] 41)).drew
                have hbX := ((Below.refl w1.heap.size w1).alloc (Nat.le_refl _) (.cells #[.int .i64 (-1), .slice none 0 0] 41)).drew
                have HF := Lib.hid hF
                have HSW := Lib.hid ((HX1.out.dropV 1).below hbX)
                have HXr := Lib.hid ((HX1.out.dropV 1).cutU (c1 - 1) 2 (by rw [List.length_drop, Hm.out]; omega))
                rw [Hrest.out] at HXr
                clear hF
                go_wp2_with (first
                  | (go_at_call 138; refine (RQ.out _ _ _ (by omega) HSW.out).mono ?_; rintro e w2 ⟨rfl, hb2⟩; have hF2 := heap_below (w := (w1.alloc (.cells #[.int .i64 (-1), .slice none 0 0] 41)).drew) HF.out hb2; obtain ⟨g0, g1, y0, y1, gl⟩ := blk2 hF2; have HF2 := Lib.hid (heap_set (i := 0) hF2 (.int .i64 (cu - 1))); have hbY := Lib.hid ((hbX.trans (hb2.mono hbX.size)).setCell (p := ⟨w1.heap.size, 0, none⟩) (Nat.le_refl _) (.int .i64 (cu - 1))); have hbZ := Lib.hid ((hbW.trans (hb2.mono hbW.size)).setCell (p := ⟨w1.heap.size, 0, none⟩) hb1.size (.int .i64 (cu - 1))); have HSr := Lib.hid (HXr.out.below hbY.out); rw [Hcu.out]; clear hF2)
                  | (go_at_call 139; refine (IY.out _ _ _ (by omega) HSr.out).mono ?_; rintro e w3 ⟨fa, fc, rfl, ho3, hb3⟩; have hF3 := heap_below HF2.out hb3; obtain ⟨g0, g1, y0, y1, gl⟩ := blk2 hF3; have hnF : (Value.slice fa cnt fc).ownBlock ≠ some w1.heap.size := (fun e => by have := (ho3.lt _ e).1; have := hbY.out.size; have := (Array.getElem?_eq_some_iff.1 HF2.out).1; omega); have HI3 := Lib.hid (Sl.of_own (n := cnt) (c := fc) It.len (by rw [hLl]; exact own_set (u := .slice fa cnt fc) (i := 1) ho3 hnF)); have hb4 := Lib.hid ((hbZ.out.trans (hb3.mono hbZ.out.size)).setCell (p := ⟨w1.heap.size, 1, none⟩) hb1.size (.slice fa cnt fc)); clear hF3 ho3)
                  | (go_at_call 96; refine (HPut.out _ _ _ HI3.out).mono ?_; rintro e w7 ⟨a7, k7, rfl, ho7, hb7⟩; have Ho7 := Lib.hid ho7; clear ho7))
                go_ret2
                rw [← HR.out]
                exact ⟨a7, k7, rfl, own_sl Ho7.out, own_cap Ho7.out, hb4.out.trans (hb7.mono hb4.out.size)⟩
              · rw [if_neg hgd] at hR
                subst hR
                have hgf : goodC x0 ⟨cu - 1, L⟩ = false := by simpa using hgd
                have HPut := Lib.hid (fun W A C (h : Sl It.enc 3 W A L) => CodePut_err x0 (cu - 1) L cnt A C W hLl (by omega) h hgf)
                clear hyes hok hBx hm hxl eT eF h0 hrest hfit hBr hrl hx0 hcn hr0 hct hL hgd hgf hcn2 hcu hcb hl2
                go_enter Tryz.func115, Tryz.ntmps115
                go_wp2_with (go_at_call 136; refine HO.out.mono ?_; rintro e w1 ⟨a1, c1, rfl, hs1, hc1, hb1⟩; obtain ⟨r, off, rfl, hr, hcc⟩ := hs1 (by intro h; have := Hm.out; rw [h] at this; simp at this; omega); have f0 := hcc 0 _ H0.out 0 _ rfl; simp only [Nat.zero_mul, Nat.add_zero] at f0; have hc1n : ¬ c1 = 1 := (by omega); have HX1 := Lib.hid hs1; clear hcc hs1)
                refine wp_region_chain 95 [0, 1, 3, 7, 0, 16, 15, 127] [(0, none), (1, none), (2, none), (3, none), (4, none), (5, none), (6, none), (7, none)] (by kernel_rfl) (by kernel_rfl) (by rfl) ?_; simp only [chain, Obs, List.getElem?_toArray, List.getElem?_cons_zero, List.getElem?_cons_succ]
                go_wp2_with (with_reducible refine And.intro (by first | with_reducible exact True.intro | with_reducible rfl | go_simp) ?_)
                refine NoPanic.normal ?_
                have hF := heap_new w1 (.cells #[.int .i64 (-1), .slice none 0 0] 41)
                have hbW := (hb1.alloc hb1.size (.cells #[.int .i64 (-1), .slice none 0 0] 41)).drew
                have hbX := ((Below.refl w1.heap.size w1).alloc (Nat.le_refl _) (.cells #[.int .i64 (-1), .slice none 0 0] 41)).drew
                have HF := Lib.hid hF
                have HSW := Lib.hid ((HX1.out.dropV 1).below hbX)
                have HXr := Lib.hid ((HX1.out.dropV 1).cutU (c1 - 1) 2 (by rw [List.length_drop, Hm.out]; omega))
                rw [Hrest.out] at HXr
                clear hF
                go_wp2_with (first
                  | (go_at_call 138; refine (RQ.out _ _ _ (by omega) HSW.out).mono ?_; rintro e w2 ⟨rfl, hb2⟩; have hF2 := heap_below (w := (w1.alloc (.cells #[.int .i64 (-1), .slice none 0 0] 41)).drew) HF.out hb2; obtain ⟨g0, g1, y0, y1, gl⟩ := blk2 hF2; have HF2 := Lib.hid (heap_set (i := 0) hF2 (.int .i64 (cu - 1))); have hbY := Lib.hid ((hbX.trans (hb2.mono hbX.size)).setCell (p := ⟨w1.heap.size, 0, none⟩) (Nat.le_refl _) (.int .i64 (cu - 1))); have hbZ := Lib.hid ((hbW.trans (hb2.mono hbW.size)).setCell (p := ⟨w1.heap.size, 0, none⟩) hb1.size (.int .i64 (cu - 1))); have HSr := Lib.hid (HXr.out.below hbY.out); rw [Hcu.out]; clear hF2)
                  | (go_at_call 139; refine (IY.out _ _ _ (by omega) HSr.out).mono ?_; rintro e w3 ⟨fa, fc, rfl, ho3, hb3⟩; have hF3 := heap_below HF2.out hb3; obtain ⟨g0, g1, y0, y1, gl⟩ := blk2 hF3; have hnF : (Value.slice fa cnt fc).ownBlock ≠ some w1.heap.size := (fun e => by have := (ho3.lt _ e).1; have := hbY.out.size; have := (Array.getElem?_eq_some_iff.1 HF2.out).1; omega); have HI3 := Lib.hid (Sl.of_own (n := cnt) (c := fc) It.len (by rw [hLl]; exact own_set (u := .slice fa cnt fc) (i := 1) ho3 hnF)); have hb4 := Lib.hid ((hbZ.out.trans (hb3.mono hbZ.out.size)).setCell (p := ⟨w1.heap.size, 1, none⟩) hb1.size (.slice fa cnt fc)); clear hF3 ho3)
                  | (go_at_call 96; refine (HPut.out _ _ _ HI3.out).mono ?_; rintro e w7 ⟨rfl, hb7⟩))
                go_ret2
                exact ⟨none, 0, rfl, Sl.nil, Nat.le_refl _, hb4.out.trans (hb7.mono hb4.out.size)⟩

theorem putB_len {tag : Int} {f : Fm} (h : goodC tag f = true) : (putB tag f).length ≤ 1000 := by
  unfold goodC at h
  rw [Bool.and_eq_true, decide_eq_true_eq] at h
  have hp := (goodF_P h.2).1
  unfold putB formB
  rw [sealP_length]
  simp only [List.length_append, List.length_cons, List.length_nil, numB_length, flatB_length]
  omega
theorem upB_len {b : List Int} (hl : b.length ≤ 1000000) : (upB b).1.length ≤ 1000000 := by
  unfold upB
  split
  · simp
  · split
    · split
      · simp
      · exact hl
    · split
      · simp
      · split
        · simp
        · split
          · simp
          · split
            · rename_i h; have := putB_len h; simp only; omega
            · simp

set_option maxHeartbeats 1600000 in
set_option maxRecDepth 100000 in
theorem ElderRead (l : List Int) (n : Nat) (a : Option Addr) (c : Nat) (w : World) (hn : l.length = n) (hl : n ≤ 1000000) (hc : n ≤ c) (hB : ∀ x ∈ l, Byte x) (hs : Sl encU 1 w a l) {R : Int × Fm × Int} (hR : readE l = R) :
    Calls Tryz.prog 98 #[.slice a n c] w (GetPost R w) := by
  have hU := Up_any l n a c (w.alloc (.cells #[.int .i64 0, .slice none 0 0] 41)) hn hl hc hB (hs.below ((Below.refl _ _).alloc (Nat.le_refl _) _)) (R := upB l) rfl
  have hT := heap_new w (.cells #[.int .i64 0, .slice none 0 0] 41)
  unfold readE at hR
  by_cases h1 : (upB l).2 = 0
  case neg =>
    rw [if_pos h1] at hR
    subst hR
    generalize upB l = U at *
    obtain ⟨u, er⟩ := U
    have h1b : (er != 0) = true := by simpa using h1
    have HU := Lib.hid hU
    have HT := Lib.hid hT
    clear hU hT hs hB hn h1
    go_enter Tryz.func98, Tryz.ntmps98
    go_wp2_with (go_at_call 115; refine HU.out.mono ?_; rintro e w1 ⟨a1, c1, rfl, hs1, hc1, hb1⟩; have hh := heap_below HT.out hb1; obtain ⟨g0, g1, y0, y1, gl⟩ := blk2 hh; have Hh := Lib.hid hh; clear hh)
    refine bodyPost_ret (res_tct _ _ w.heap.size 41 #[.int .i64 0, .slice none 0 0] (0, 0) _ rfl rfl (heap_set (heap_set Hh.out _) _) Tryz.underlying41 rfl (by kernel_rfl)) rfl ⟨none, 0, rfl, World.ownsRow_nil _ _ _ _, ?_⟩
    exact ((((Below.refl _ _).alloc (Nat.le_refl _) _).trans (hb1.mono (by simp))).setCell (by simp) _).setCell (by simp) _
  case pos =>
    rw [if_neg (by simpa using h1)] at hR
    have hBu := upB_byte hB h1
    have hul := upB_len (b := l) (by omega)
    generalize upB l = U at *
    obtain ⟨u, er⟩ := U
    simp only at h1 hR hBu hul
    subst h1
    have HG := Lib.hid (fun W A C (hC : u.length ≤ C) (h : Sl encU 1 W A u) => Get_any u u.length A C W rfl (by omega) hC hBu h hR)
    have HU := Lib.hid hU
    have HT := Lib.hid hT
    clear hU hT hs hB hn hBu hul hR
    go_enter Tryz.func98, Tryz.ntmps98
    go_wp2_with (first
      | (go_at_call 115; refine HU.out.mono ?_; rintro e w1 ⟨a1, c1, rfl, hs1, hc1, hb1⟩; have hh := heap_below HT.out hb1; have Hh := Lib.hid hh; have Hs1 := Lib.hid hs1; clear hh hs1)
      | (go_at_call 116; refine (HG.out _ _ _ hc1 Hs1.out).mono ?_; rintro e w2 ⟨fa, fc, rfl, hs2, hb2⟩; have hh := heap_below Hh.out hb2; obtain ⟨g0, g1, y0, y1, gl⟩ := blk2 hh; have Hh2 := Lib.hid hh; have Hs2 := Lib.hid hs2; clear hh hs2))
    refine bodyPost_ret (res_tct _ _ w.heap.size 41 #[.int .i64 R.2.1.cur, .slice fa R.2.1.l.length fc] (0, 0) _ rfl rfl (heap_set (heap_set Hh2.out _) _) Tryz.underlying41 rfl (by kernel_rfl)) rfl ⟨fa, fc, rfl, ?_, ?_⟩
    · have hn2 : (Value.slice fa R.2.1.l.length fc).ownBlock ≠ some w.heap.size := fun e => by have := (Hs2.out.lt _ e).1; have := hb1.size; simp at this; omega
      exact own_base (own_set (own_set Hs2.out hn2) hn2) (by have := hb1.size; simp at this; omega)
    · exact ((((Below.refl _ _).alloc (Nat.le_refl _) _).trans ((hb1.mono (by simp)).trans (hb2.mono (by have := hb1.size; simp at this; omega)))).setCell (by simp) _).setCell (by simp) _
end Go.Proofs.YtlgkkolgdjgclaaGreat
