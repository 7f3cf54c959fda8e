/- One byte that is spoilt is told (plain). -/
import Derived.Test.YtlgkkolgdjgclaaGreatByt
import Derived.Laws.BitsLemmas
namespace Go.Proofs.YtlgkkolgdjgclaaGreat
open Go.RowKit
set_option linter.unusedVariables false
set_option linter.unusedSimpArgs false

theorem xor_u32 (a b : Nat) (ha : a < 2 ^ 32) (hb : b < 2 ^ 32) : bits .xor .u32 a b = ((a ^^^ b : Nat) : Int) := by
  have ha' : a % 2 ^ IntKind.u32.bits = a := Nat.mod_eq_of_lt ha
  have hb' : b % 2 ^ IntKind.u32.bits = b := Nat.mod_eq_of_lt hb
  have hx := Nat.xor_lt_two_pow ha hb
  simp only [bits, BitVec.ofInt_natCast, BitVec.toNat_xor, BitVec.toNat_ofNat, ha', hb']
  rw [IntKind.wrap_u32]; omega
theorem and_u32 (a b : Nat) (ha : a < 2 ^ 32) (hb : b < 2 ^ 32) : bits .and .u32 a b = ((a &&& b : Nat) : Int) :=
  (bits_nat .u32 32 (by decide) (fun n h0 h1 => by rw [IntKind.wrap_u32]; omega) a b ha hb).1
def stepB (c : Nat) : Nat := if c % 2 = 1 then (c / 2) ^^^ 2197175160 else c / 2
theorem stepB_lt {c : Nat} (hc : c < 2 ^ 32) : stepB c < 2 ^ 32 := by
  unfold stepB
  split
  · exact Nat.xor_lt_two_pow (by omega) (by decide)
  · omega
theorem ofStep_nat {c : Nat} (hc : c < 2 ^ 32) : ofStep c = (stepB c : Nat) := by
  unfold ofStep
  have h1 : bits .and .u32 (c : Int) 1 = ((c % 2 : Nat) : Int) := by
    have := and_u32 c 1 hc (by decide)
    rw [Nat.and_one_is_mod] at this
    exact this
  rw [h1]
  unfold stepB
  have hd : ((c : Int) / 2) = ((c / 2 : Nat) : Int) := by omega
  rw [hd]
  split
  · rename_i e
    rw [e]
    have e2 : (-(((1 : Nat) : Int))) % 4294967296 = ((4294967295 : Nat) : Int) := by decide
    rw [e2]
    have h2 := and_u32 2197175160 4294967295 (by decide) (by decide)
    rw [show (2197175160 &&& 4294967295 : Nat) = 2197175160 by decide] at h2
    have h3 : bits .and .u32 2197175160 ((4294967295 : Nat) : Int) = ((2197175160 : Nat) : Int) := h2
    rw [h3]
    exact xor_u32 _ _ (by omega) (by decide)
  · rename_i e
    have e0 : c % 2 = 0 := by omega
    rw [e0]
    have e2 : (-(((0 : Nat) : Int))) % 4294967296 = ((0 : Nat) : Int) := by decide
    rw [e2]
    have h3 : bits .and .u32 2197175160 ((0 : Nat) : Int) = ((0 : Nat) : Int) := by
      have := and_u32 2197175160 0 (by decide) (by decide)
      rw [Nat.and_zero] at this
      exact this
    rw [h3]
    have := xor_u32 (c / 2) 0 (by omega) (by decide)
    rw [Nat.xor_zero] at this
    exact this
theorem xor_top {x : Nat} (hx : x < 2 ^ 31) : (x ^^^ 2197175160).testBit 31 = true := by
  rw [Nat.testBit_xor, Nat.testBit_lt_two_pow hx]
  decide
theorem xor_cancel {a b p : Nat} (h : a ^^^ p = b ^^^ p) : a = b := by
  have h1 : (a ^^^ p) ^^^ p = (b ^^^ p) ^^^ p := by rw [h]
  rwa [Nat.xor_assoc, Nat.xor_assoc, Nat.xor_self, Nat.xor_zero, Nat.xor_zero] at h1
theorem stepB_inj {c d : Nat} (hc : c < 2 ^ 32) (hd : d < 2 ^ 32) (h : stepB c = stepB d) : c = d := by
  have c1 : c / 2 < 2 ^ 31 := by omega
  have d1 : d / 2 < 2 ^ 31 := by omega
  unfold stepB at h
  split at h
  · split at h
    · have := xor_cancel h; omega
    · have h1 := xor_top c1
      rw [h, Nat.testBit_lt_two_pow d1] at h1
      cases h1
  · split at h
    · have h1 := xor_top d1
      rw [← h, Nat.testBit_lt_two_pow c1] at h1
      cases h1
    · omega
def stepNB : Nat → Nat → Nat
  | 0, c => c
  | k + 1, c => stepB (stepNB k c)
theorem stepNB_lt : ∀ (k : Nat) {c : Nat}, c < 2 ^ 32 → stepNB k c < 2 ^ 32
  | 0, c, h => h
  | k + 1, c, h => stepB_lt (stepNB_lt k h)
theorem stepN_nat : ∀ (k : Nat) {c : Nat}, c < 2 ^ 32 → stepN k c = (stepNB k c : Nat)
  | 0, c, h => rfl
  | k + 1, c, h => by
    show ofStep (stepN k c) = _
    rw [stepN_nat k h]
    exact ofStep_nat (stepNB_lt k h)
theorem stepNB_inj : ∀ (k : Nat) {c d : Nat}, c < 2 ^ 32 → d < 2 ^ 32 → stepNB k c = stepNB k d → c = d
  | 0, c, d, _, _, h => h
  | k + 1, c, d, hc, hd, h => stepNB_inj k hc hd (stepB_inj (stepNB_lt k hc) (stepNB_lt k hd) h)
def updB8 (c x : Nat) : Nat := stepNB 8 (c ^^^ x)
theorem updB8_lt {c x : Nat} (hc : c < 2 ^ 32) (hx : x < 256) : updB8 c x < 2 ^ 32 := stepNB_lt 8 (Nat.xor_lt_two_pow hc (by omega))
theorem updB8_inj {c d x : Nat} (hc : c < 2 ^ 32) (hd : d < 2 ^ 32) (hx : x < 256) (h : updB8 c x = updB8 d x) : c = d :=
  xor_cancel (stepNB_inj 8 (Nat.xor_lt_two_pow hc (by omega)) (Nat.xor_lt_two_pow hd (by omega)) h)
theorem updB8_inj2 {c x y : Nat} (hc : c < 2 ^ 32) (hx : x < 256) (hy : y < 256) (h : updB8 c x = updB8 c y) : x = y := by
  have h1 := stepNB_inj 8 (Nat.xor_lt_two_pow hc (show x < 2 ^ 32 by omega)) (Nat.xor_lt_two_pow hc (show y < 2 ^ 32 by omega)) h
  rw [Nat.xor_comm c x, Nat.xor_comm c y] at h1
  exact xor_cancel h1
theorem fold_lt : ∀ (l : List Nat) {c : Nat}, c < 2 ^ 32 → (∀ x ∈ l, x < 256) → l.foldl updB8 c < 2 ^ 32
  | [], c, h, _ => h
  | x :: t, c, h, hl => fold_lt t (updB8_lt h (hl x (by simp))) (fun y hy => hl y (by simp [hy]))
theorem fold_inj : ∀ (l : List Nat) {c d : Nat}, c < 2 ^ 32 → d < 2 ^ 32 → (∀ x ∈ l, x < 256) → l.foldl updB8 c = l.foldl updB8 d → c = d
  | [], c, d, _, _, _, h => h
  | x :: t, c, d, hc, hd, hl, h => by
    have hx := hl x (by simp)
    exact updB8_inj hc hd hx (fold_inj t (updB8_lt hc hx) (updB8_lt hd hx) (fun y hy => hl y (by simp [hy])) h)
theorem ofR_nat : ∀ (l : List Int) {c : Nat}, c < 2 ^ 32 → (∀ x ∈ l, Byte x) → ofR c l = ((l.map Int.toNat).foldl updB8 c : Nat)
  | [], c, _, _ => rfl
  | x :: t, c, hc, hl => by
    have hx := hl x (by simp)
    unfold Byte at hx
    have hxn : x.toNat < 256 := by omega
    show ofR (stepN 8 (bits .xor .u32 c (x % 4294967296))) t = _
    have e : x % 4294967296 = ((x.toNat : Nat) : Int) := by omega
    rw [e, xor_u32 c x.toNat hc (by omega), stepN_nat 8 (Nat.xor_lt_two_pow hc (by omega))]
    exact ofR_nat t (updB8_lt hc hxn) (fun y hy => hl y (by simp [hy]))
theorem map_byte {l : List Int} (hl : ∀ x ∈ l, Byte x) : ∀ x ∈ l.map Int.toNat, x < 256 := fun x hx => by
  obtain ⟨y, hy, rfl⟩ := List.mem_map.1 hx
  have := hl y hy
  unfold Byte at this
  omega
theorem ofB_nat {l : List Int} (hl : ∀ x ∈ l, Byte x) : ∃ n : Nat, n < 2 ^ 32 ∧ ofB l = (n : Nat) ∧ n = 4294967295 ^^^ ((l.map Int.toNat).foldl updB8 4294967295) := by
  have h1 := ofR_nat l (c := 4294967295) (by decide) hl
  have h2 := fold_lt (l.map Int.toNat) (c := 4294967295) (by decide) (map_byte hl)
  refine ⟨_, ?_, ?_, rfl⟩
  · exact Nat.xor_lt_two_pow (by decide) h2
  · unfold ofB
    have h3 : ofR 4294967295 l = (((l.map Int.toNat).foldl updB8 4294967295 : Nat) : Int) := h1
    rw [h3]
    exact xor_u32 4294967295 _ (by decide) h2
/-- Bytes that differ in one place have other sums. -/
theorem ofB_apart {p q : List Int} {x y : Int} (hp : ∀ z ∈ p, Byte z) (hq : ∀ z ∈ q, Byte z) (hx : Byte x) (hy : Byte y) (hne : x ≠ y) : ofB (p ++ x :: q) ≠ ofB (p ++ y :: q) := fun h => by
  have ha : ∀ z ∈ p ++ x :: q, Byte z := fun z hz => by
    rcases List.mem_append.1 hz with h | h
    · exact hp z h
    · rcases List.mem_cons.1 h with rfl | h
      · exact hx
      · exact hq z h
  have hb : ∀ z ∈ p ++ y :: q, Byte z := fun z hz => by
    rcases List.mem_append.1 hz with h | h
    · exact hp z h
    · rcases List.mem_cons.1 h with rfl | h
      · exact hy
      · exact hq z h
  obtain ⟨m, m1, m2, m3⟩ := ofB_nat ha
  obtain ⟨n, n1, n2, n3⟩ := ofB_nat hb
  rw [m2, n2] at h
  have e : m = n := by omega
  rw [m3, n3, Nat.xor_comm 4294967295, Nat.xor_comm 4294967295] at e
  have e2 := xor_cancel e
  simp only [List.map_append, List.map_cons, List.foldl_append, List.foldl_cons] at e2
  unfold Byte at hx hy
  have c1 := fold_lt (p.map Int.toNat) (c := 4294967295) (by decide) (map_byte hp)
  have e3 := fold_inj (q.map Int.toNat) (updB8_lt c1 (show x.toNat < 256 by omega)) (updB8_lt c1 (show y.toNat < 256 by omega)) (map_byte hq) e2
  have e4 := updB8_inj2 c1 (by omega) (by omega) e3
  omega
theorem sealT_inj {c d : Int} (hc : 0 ≤ c ∧ c < 4294967296) (hd : 0 ≤ d ∧ d < 4294967296) (h : sealT c = sealT d) : c = d := by
  unfold sealT at h
  simp only [List.cons.injEq, and_true] at h
  omega
theorem sealG_spoilt {l : List Int} (hl : ∀ x ∈ l, Byte x) {at' : Nat} (hat : at' < (sealP l).length) {y : Int} (hy : Byte y) (hne : (sealP l)[at']? ≠ some y) : sealG ((sealP l).set at' y) = none := by
  unfold sealG
  rw [if_neg]
  rintro ⟨h1, h2⟩
  have hlen : ((sealP l).set at' y).length - 4 = l.length := by rw [List.length_set, sealP_length]; omega
  rw [hlen] at h2
  have hlt : at' < l.length + 4 := by rw [← sealP_length]; exact hat
  by_cases hin : at' < l.length
  · have e1 : ((sealP l).set at' y).take l.length = l.set at' y := by
      unfold sealP
      rw [List.set_append_left _ _ hin, List.take_append_of_le_length (by simp), List.take_of_length_le (by simp)]
    rw [e1] at h2
    unfold sealP at h2
    rw [List.set_append_left _ _ hin] at h2
    have h3 := List.append_cancel_left h2
    obtain ⟨m, m1, m2, -⟩ := ofB_nat hl
    have hl2 : ∀ x ∈ l.set at' y, Byte x := fun x hx => by
      rcases List.mem_or_eq_of_mem_set hx with h | rfl
      · exact hl x h
      · exact hy
    obtain ⟨n, n1, n2, -⟩ := ofB_nat hl2
    have h4 := sealT_inj (by rw [n2]; omega) (by rw [m2]; omega) h3
    have e2 : l = l.take at' ++ l[at'] :: l.drop (at' + 1) := by simp
    have e3 : l.set at' y = l.take at' ++ y :: l.drop (at' + 1) := List.set_eq_take_append_cons_drop .. |>.trans (by rw [if_pos hin])
    have hx : l[at'] ≠ y := fun e => hne (by
      unfold sealP
      rw [List.getElem?_append_left hin, List.getElem?_eq_getElem hin, e])
    rw [e3] at h4
    have h5 : ofB (l.take at' ++ y :: l.drop (at' + 1)) = ofB (l.take at' ++ l[at'] :: l.drop (at' + 1)) := h4.trans (congrArg ofB e2)
    exact ofB_apart (fun z hz => hl z (List.mem_of_mem_take hz)) (fun z hz => hl z (List.mem_of_mem_drop hz)) hy (hl _ (List.getElem_mem hin)) (fun e => hx e.symm) h5
  · have e1 : ((sealP l).set at' y).take l.length = l := by
      unfold sealP
      rw [List.set_append_right _ _ (by omega), List.take_append_of_le_length (Nat.le_refl _), List.take_length]
    rw [e1] at h2
    refine hne ?_
    have h3 : (sealP l)[at']? = ((sealP l).set at' y)[at']? := congrArg (fun m : List Int => m[at']?) h2
    rw [h3, List.getElem?_set, if_pos rfl, if_pos hat]
theorem readE_spoilt {l : List Int} (hl : ∀ x ∈ l, Byte x) {at' : Nat} (hat : at' < (sealP l).length) {y : Int} (hy : Byte y) (hne : (sealP l)[at']? ≠ some y) : (readE ((sealP l).set at' y)).2.2 = 9 := by
  have h := sealG_spoilt hl hat hy hne
  have ho : openB ((sealP l).set at' y) = ([], 0, 9) := by unfold openB; rw [h]
  have hu : upB ((sealP l).set at' y) = ([], 9) := by unfold upB; rw [ho]; rfl
  unfold readE
  rw [hu]
  rfl
end Go.Proofs.YtlgkkolgdjgclaaGreat
