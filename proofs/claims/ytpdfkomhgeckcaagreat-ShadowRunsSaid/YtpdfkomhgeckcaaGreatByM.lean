/- The plain model of what is written and read: the seal, a form in bytes, as it was written once. -/
import Derived.Test.YtpdfkomhgeckcaaGreatBy
import Derived.Test.YtpdfkomhgeckcaaGreatJ
namespace Go.Proofs.YtpdfkomhgeckcaaGreat
set_option linter.unusedVariables false
set_option linter.unusedSimpArgs false

/-! ### the seal -/
def ofStep (c : Int) : Int := bits .xor .u32 (c / 2) (bits .and .u32 2197175160 (-(bits .and .u32 c 1) % 4294967296))
def stepN : Nat → Int → Int
  | 0, c => c
  | k + 1, c => ofStep (stepN k c)
def ofR (c : Int) (l : List Int) : Int := l.foldl (fun c x => stepN 8 (bits .xor .u32 c (x % 4294967296))) c
def ofB (l : List Int) : Int := bits .xor .u32 4294967295 (ofR 4294967295 l)
def sealT (c : Int) : List Int := [c / 16777216 % 256, c / 65536 % 256, c / 256 % 256, c % 256]
def sealP (l : List Int) : List Int := l ++ sealT (ofB l)
def sealG (b : List Int) : Option (List Int) := if 4 ≤ b.length ∧ sealP (b.take (b.length - 4)) = b then some (b.take (b.length - 4)) else none
theorem sealP_length (l : List Int) : (sealP l).length = l.length + 4 := by simp [sealP, sealT]
theorem sealG_P (l : List Int) : sealG (sealP l) = some l := by
  have h : (sealP l).take ((sealP l).length - 4) = l := by
    rw [sealP_length, Nat.add_sub_cancel]
    unfold sealP
    rw [List.take_left]
  unfold sealG
  rw [h, if_pos ⟨by rw [sealP_length]; omega, rfl⟩]
theorem sealT_byte (c : Int) : ∀ x ∈ sealT c, Byte x := by
  intro x hx
  simp only [sealT, List.mem_cons, List.not_mem_nil, or_false] at hx
  unfold Byte
  rcases hx with rfl | rfl | rfl | rfl <;> omega
theorem sealP_byte {l : List Int} (h : ∀ x ∈ l, Byte x) : ∀ x ∈ sealP l, Byte x := fun x hx => (List.mem_append.1 hx).elim (h x) (sealT_byte _ x)
theorem sealG_byte {b l : List Int} (h : ∀ x ∈ b, Byte x) (hg : sealG b = some l) : ∀ x ∈ l, Byte x := by
  unfold sealG at hg
  split at hg
  · cases hg; exact fun x hx => h x (List.mem_of_mem_take hx)
  · cases hg

/-! ### the version -/
def openB (b : List Int) : List Int × Int × Int :=
  match sealG b with
  | none => ([], 0, 9)
  | some x => if 3 ≤ x.length ∧ x.getD 0 0 = 83 ∧ x.getD 1 0 = 72 then (x.drop 3, x.getD 2 0, 0) else ([], 0, 8)
theorem openB_byte {b : List Int} (h : ∀ x ∈ b, Byte x) : ∀ x ∈ (openB b).1, Byte x := by
  unfold openB
  cases hg : sealG b with
  | none => intro x hx; cases hx
  | some y =>
    simp only
    split
    · exact fun x hx => sealG_byte h hg x (List.mem_of_mem_drop hx)
    · intro x hx; cases hx

/-! ### a form -/
def goodC (tag : Int) (f : Fm) : Bool := decide (0 ≤ tag ∧ tag ≤ 2) && goodF f
def itemB (x : It) : List Int := numB x.id 4 ++ (x.w :: numB x.lag 8)
def formB (tag : Int) (f : Fm) : List Int := [83, 72, 3, tag] ++ numB (f.cur + 1) 4 ++ ((f.l.length : Int) :: f.l.flatMap itemB)
def putB (tag : Int) (f : Fm) : List Int := sealP (formB tag f)
def items3 : Nat → List Int → List It
  | 0, _ => []
  | k + 1, b => ⟨readB (b.take 4), readB ((b.drop 4).take 1), readB (((b.drop 4).drop 1).take 8)⟩ :: items3 k (((b.drop 4).drop 1).drop 8)
def readF (x : List Int) : Fm := ⟨readB ((x.drop 1).take 4) - 1, items3 (x.getD 5 0).toNat (((x.drop 1).drop 4).drop 1)⟩
def fits3 (x : List Int) : Prop := 6 ≤ x.length ∧ (x.length : Int) = 6 + 13 * x.getD 5 0
instance (x : List Int) : Decidable (fits3 x) := by unfold fits3; infer_instance
def getB (b : List Int) : Int × Fm × Int :=
  if (openB b).2.2 ≠ 0 then (0, ⟨0, []⟩, (openB b).2.2)
  else if (openB b).2.1 ≠ 3 then (0, ⟨0, []⟩, 10)
  else if ¬ fits3 (openB b).1 then (0, ⟨0, []⟩, 8)
  else if goodC ((openB b).1.getD 0 0) (readF (openB b).1) = true then ((openB b).1.getD 0 0, readF (openB b).1, 0)
  else (0, ⟨0, []⟩, 11)
theorem getB_good {b : List Int} (h : (getB b).2.2 = 0) : goodC (getB b).1 (getB b).2.1 = true := by
  unfold getB at h ⊢
  split at h
  · rename_i h1; exact absurd h h1
  · rename_i h1
    rw [if_neg h1]
    split at h
    · simp at h
    · rename_i h2
      rw [if_neg h2]
      split at h
      · simp at h
      · rename_i h3
        rw [if_neg h3]
        split at h
        · rename_i h4; rw [if_pos h4]; exact h4
        · simp at h
theorem itemB_length (x : It) : (itemB x).length = 13 := by simp [itemB, numB_length]
theorem flatB_length : ∀ l : List It, (l.flatMap itemB).length = 13 * l.length
  | [] => rfl
  | x :: l => by rw [List.flatMap_cons, List.length_append, itemB_length, flatB_length l, List.length_cons]; omega
theorem take_app (a b : List Int) (k : Nat) (h : a.length = k) : (a ++ b).take k = a := by subst h; exact List.take_left
theorem drop_app (a b : List Int) (k : Nat) (h : a.length = k) : (a ++ b).drop k = b := by subst h; exact List.drop_left
theorem items_flat : ∀ (l : List It), (∀ x ∈ l, mayB x.id x.w x.lag = true) → items3 l.length (l.flatMap itemB) = l
  | [], _ => rfl
  | x :: l, h => by
    have hm := mayB_true (h x List.mem_cons_self)
    have e1 : (x :: l).flatMap itemB = numB x.id 4 ++ ([x.w] ++ (numB x.lag 8 ++ l.flatMap itemB)) := by simp [itemB]
    rw [List.length_cons, e1, items3, take_app _ _ 4 (numB_length _ _), drop_app _ _ 4 (numB_length _ _), take_app _ _ 1 rfl, drop_app _ _ 1 rfl, take_app _ _ 8 (numB_length _ _), drop_app _ _ 8 (numB_length _ _),
      items_flat l fun y hy => h y (List.mem_cons_of_mem _ hy), read4 (by omega) (by omega), read8 (by omega) (by omega), read1 (by unfold Byte; omega)]
theorem goodF_P {f : Fm} (h : goodF f = true) : GoodP f := of_decide_eq_true h
theorem cur_bound {f : Fm} (h : GoodP f) : -1 ≤ f.cur ∧ f.cur ≤ 1073741824 := by
  rcases h.2.1 with h1 | ⟨x, hx, h1⟩
  · omega
  · have := mayB_true (h.2.2.1 x hx); omega
theorem openB_put (tag : Int) (f : Fm) : openB (putB tag f) = (tag :: (numB (f.cur + 1) 4 ++ ((f.l.length : Int) :: f.l.flatMap itemB)), 3, 0) := by
  unfold openB putB
  rw [sealG_P]
  rfl
theorem get_put {tag : Int} {f : Fm} (h : goodC tag f = true) : getB (putB tag f) = (tag, f, 0) := by
  have hg := h
  unfold goodC at hg
  rw [Bool.and_eq_true, decide_eq_true_eq] at hg
  have hp := goodF_P hg.2
  have hc := cur_bound hp
  have e5 : (tag :: (numB (f.cur + 1) 4 ++ ((f.l.length : Int) :: f.l.flatMap itemB))).getD 5 0 = (f.l.length : Int) := rfl
  have hf : fits3 (tag :: (numB (f.cur + 1) 4 ++ ((f.l.length : Int) :: f.l.flatMap itemB))) := by
    refine ⟨by simp only [List.length_cons, List.length_append, numB_length, flatB_length]; omega, ?_⟩
    rw [e5]
    simp only [List.length_cons, List.length_append, numB_length, flatB_length]
    omega
  have hr : readF (tag :: (numB (f.cur + 1) 4 ++ ((f.l.length : Int) :: f.l.flatMap itemB))) = f := by
    unfold readF
    rw [e5]
    have e1 : (tag :: (numB (f.cur + 1) 4 ++ ((f.l.length : Int) :: f.l.flatMap itemB))).drop 1 = numB (f.cur + 1) 4 ++ ([(f.l.length : Int)] ++ f.l.flatMap itemB) := rfl
    rw [e1, take_app _ _ 4 (numB_length _ _), drop_app _ _ 4 (numB_length _ _), drop_app _ _ 1 rfl, read4 (by omega) (by omega), Int.toNat_natCast, items_flat _ hp.2.2.1]
    cases f
    simp
  unfold getB
  rw [openB_put]
  simp only
  rw [if_neg (by simp), if_neg (by simp), if_neg (by simpa using hf), hr, List.getD_cons_zero, if_pos h]

/-! ### as it was written once -/
def W32 (m : Int) : Int := (m + 2147483648) % 4294967296 - 2147483648
def itemsE (lags : Bool) : Nat → List Int → List It
  | 0, _ => []
  | k + 1, b => ⟨readB (b.take 2), readB ((b.drop 2).take 1), if lags = true then W32 (readB (((b.drop 2).drop 1).take 4)) * 232792560 else 0⟩ :: itemsE lags k (if lags = true then ((b.drop 2).drop 1).drop 4 else (b.drop 2).drop 1)
def sizeE (lags : Bool) : Nat := if lags = true then 7 else 3
def fitsE (lags : Bool) (b : List Int) : Prop := 1 ≤ b.length ∧ (b.length : Int) - 1 = sizeE lags * b.getD 0 0
instance (lags : Bool) (b : List Int) : Decidable (fitsE lags b) := by unfold fitsE; infer_instance
def elderT (v : Int) (x : List Int) : Bool × List Int × Int :=
  if v = 2 then (true, (x.drop 1).drop 2, readB ((x.drop 1).take 2) - 1) else (false, x.drop 1, -1)
def elderF (v : Int) (x : List Int) : Fm := ⟨(elderT v x).2.2, itemsE (elderT v x).1 ((elderT v x).2.1.getD 0 0).toNat ((elderT v x).2.1.drop 1)⟩
def elderOk (v : Int) (x : List Int) : Prop := 1 ≤ x.length ∧ (v = 2 → 3 ≤ x.length)
instance (v : Int) (x : List Int) : Decidable (elderOk v x) := by unfold elderOk; infer_instance
def upB (b : List Int) : List Int × Int :=
  if (openB b).2.2 ≠ 0 then ([], (openB b).2.2)
  else if (openB b).2.1 = 3 then (if (getB b).2.2 ≠ 0 then ([], (getB b).2.2) else (b, 0))
  else if (openB b).2.1 ≠ 1 ∧ (openB b).2.1 ≠ 2 then ([], 10)
  else if ¬ elderOk (openB b).2.1 (openB b).1 then ([], 8)
  else if ¬ fitsE (elderT (openB b).2.1 (openB b).1).1 (elderT (openB b).2.1 (openB b).1).2.1 then ([], 8)
  else if goodC ((openB b).1.getD 0 0) (elderF (openB b).2.1 (openB b).1) = true then (putB ((openB b).1.getD 0 0) (elderF (openB b).2.1 (openB b).1), 0)
  else ([], 11)
def readE (b : List Int) : Int × Fm × Int := if (upB b).2 ≠ 0 then (0, ⟨0, []⟩, (upB b).2) else getB (upB b).1
theorem readE_good {b : List Int} (h : (readE b).2.2 = 0) : goodC (readE b).1 (readE b).2.1 = true := by
  unfold readE at h ⊢
  split at h
  · rename_i h1; exact absurd h h1
  · rename_i h1; rw [if_neg h1]; exact getB_good h
theorem upB_put {tag : Int} {f : Fm} (h : goodC tag f = true) : upB (putB tag f) = (putB tag f, 0) := by
  unfold upB
  rw [openB_put, get_put h]
  rfl
theorem readE_put {tag : Int} {f : Fm} (h : goodC tag f = true) : readE (putB tag f) = (tag, f, 0) := by
  unfold readE
  rw [upB_put h]
  exact get_put h
theorem formB_byte {tag : Int} {f : Fm} (h : goodC tag f = true) : ∀ x ∈ formB tag f, Byte x := by
  unfold goodC at h
  rw [Bool.and_eq_true, decide_eq_true_eq] at h
  have hp := goodF_P h.2
  intro x hx
  simp only [formB, List.mem_append, List.mem_cons, List.not_mem_nil, or_false, List.mem_flatMap, itemB] at hx
  have hl := hp.1
  rcases hx with ((rfl | rfl | rfl | rfl) | hx) | rfl | ⟨y, hy, hx | rfl | hx⟩
  · unfold Byte; omega
  · unfold Byte; omega
  · unfold Byte; omega
  · unfold Byte; omega
  · exact numB_byte _ _ _ hx
  · unfold Byte; omega
  · exact numB_byte _ _ _ hx
  · have := mayB_true (hp.2.2.1 y hy); unfold Byte; omega
  · exact numB_byte _ _ _ hx
theorem putB_byte {tag : Int} {f : Fm} (h : goodC tag f = true) : ∀ x ∈ putB tag f, Byte x := sealP_byte (formB_byte h)
theorem upB_byte {b : List Int} (hb : ∀ x ∈ b, Byte x) (h : (upB b).2 = 0) : ∀ x ∈ (upB b).1, Byte x := by
  unfold upB at h ⊢
  split at h
  · rename_i h1; exact absurd h h1
  · rename_i h1
    rw [if_neg h1]
    split at h
    · rename_i h2
      rw [if_pos h2]
      split at h
      · rename_i h3; exact absurd h h3
      · rename_i h3; rw [if_neg h3]; exact hb
    · rename_i h2
      rw [if_neg h2]
      split at h
      · simp at h
      · rename_i h3
        rw [if_neg h3]
        split at h
        · simp at h
        · rename_i h4
          rw [if_neg h4]
          split at h
          · simp at h
          · rename_i h5
            rw [if_neg h5]
            split at h
            · rename_i h6; rw [if_pos h6]; exact putB_byte h6
            · simp at h
end Go.Proofs.YtpdfkomhgeckcaaGreat
