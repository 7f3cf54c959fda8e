/- Package due's sums, in words of 64 bits. -/
import Derived.Test.YtlgkkolgdjgclaaGreatPickM
namespace Go.Proofs.YtlgkkolgdjgclaaGreat
open Go.RowKit
set_option linter.unusedVariables false
set_option linter.unusedSimpArgs false

theorem totW_succ {x : Pt} : ∀ {l : List Pt} {k : Nat}, l[k]? = some x → totW (l.take (k + 1)) = totW (l.take k) + x.w
  | [], k, h => by simp at h
  | y :: t, 0, h => by
    obtain rfl : y = x := by simpa using h
    simp [totW]
  | y :: t, k + 1, h => by
    have := totW_succ (l := t) (k := k) (by simpa using h)
    simp only [List.take_succ_cons, totW]
    omega
theorem farW_succ {m : Int} {x : Pt} : ∀ {l : List Pt} {k : Nat}, l[k]? = some x → farW m (l.take (k + 1)) = farW m (l.take k) + (x.v - m) * x.w
  | [], k, h => by simp at h
  | y :: t, 0, h => by
    obtain rfl : y = x := by simpa using h
    simp [farW]
  | y :: t, k + 1, h => by
    have := farW_succ (m := m) (l := t) (k := k) (by simpa using h)
    simp only [List.take_succ_cons, farW]
    omega
theorem duePick_is {m : Int} {l : List Pt} (h : ∀ z, least l = some z → z.v = m) : duePick l = dueB m (totW l) (farW m l) l none := by
  unfold duePick
  cases hz : least l with
  | none => rw [least_none.1 hz]; rfl
  | some z => rw [← h z hz]
theorem dueB_drop {m tot far : Int} {l : List Pt} {k : Nat} {x : Pt} (hx : l[k]? = some x) (b : Option Pt) :
    dueB m tot far (l.drop k) b = dueB m tot far (l.drop (k + 1)) (if (eligW m tot far x && laterW b x) = true then some x else b) := by
  obtain ⟨h, rfl⟩ := List.getElem?_eq_some_iff.1 hx
  rw [List.drop_eq_getElem_cons h]
  rfl
/-- One that is picked lies ahead. -/
theorem prod_le {a b : Int} (h1 : 0 ≤ a) (h2 : a ≤ 4700000000000000000) (h3 : 1 ≤ b) (h4 : b ≤ 20) : 0 ≤ a * b ∧ a * b ≤ 94000000000000000000 := by
  refine ⟨Int.mul_nonneg h1 (by omega), ?_⟩
  have h5 : a * b ≤ a * 20 := Int.mul_le_mul_of_nonneg_left h4 h1
  omega
/-- The sums behind k of them: all weights, and how far all are, in two words. -/
structure DueS (m : Int) (l : List Pt) (k : Nat) (tot dh dl : Int) : Prop where
  t : totW (l.take k) = tot
  t0 : 0 ≤ tot
  t1 : tot ≤ 20 * k
  d : farW m (l.take k) = dh * 18446744073709551616 + dl
  l0 : 0 ≤ dl
  l1 : dl < 18446744073709551616
  d0 : 0 ≤ dh
  d1 : dh * 18446744073709551616 + dl ≤ k * 100000000000000000000
theorem DueS.start (m : Int) (l : List Pt) : DueS m l 0 0 0 0 := ⟨by simp [totW], by omega, by omega, by simp [farW], by omega, by omega, by omega, by omega⟩
theorem DueS.next {m : Int} {l : List Pt} {k : Nat} {tot dh dl : Int} (h : DueS m l k tot dh dl) {x : Pt} (hx : l[k]? = some x) (h1 : 0 ≤ x.v - m) (h2 : x.v - m ≤ 4700000000000000000) (h3 : 1 ≤ x.w) (h4 : x.w ≤ 20)
    {ph pl cc s : Int} (hp : (x.v - m) * x.w = ph * 18446744073709551616 + pl) (hp0 : 0 ≤ pl) (hp1 : pl < 18446744073709551616) (hs : dl + pl = cc * 18446744073709551616 + s) (hs0 : 0 ≤ s) (hs1 : s < 18446744073709551616) :
    DueS m l (k + 1) (tot + x.w) (dh + (ph + cc)) s := by
  have hb := prod_le h1 h2 h3 h4
  have g := h.d1
  have g0 := h.d0
  have g2 := h.l0
  have g3 := h.l1
  have g4 := h.t0
  have g5 := h.t1
  have e1 := farW_succ (m := m) hx
  have e2 := totW_succ hx
  rw [h.t] at e2
  rw [h.d, hp] at e1
  rw [hp] at hb
  exact ⟨e2, by omega, by omega, by omega, hs0, hs1, by omega, by omega⟩
theorem words_gt {a b h l dh dl : Int} (he : a = h * 18446744073709551616 + l) (hb : b = dh * 18446744073709551616 + dl) (l0 : 0 ≤ l) (l1 : l < 18446744073709551616) (d0 : 0 ≤ dl) (d1 : dl < 18446744073709551616) :
    a ≤ b ↔ ¬ (dh < h ∨ (h = dh ∧ dl < l)) := by omega

/-! ### from any point -/
theorem farW_move (m b : Int) : ∀ l : List Pt, farW m l = farW b l + (b - m) * totW l
  | [] => by simp [farW, totW]
  | x :: t => by
    have ih := farW_move m b t
    have e1 : (x.v - m) * x.w = (x.v - b) * x.w + (b - m) * x.w := by rw [← Int.add_mul]; congr 1; omega
    simp only [farW, totW]
    rw [ih, e1, Int.mul_add]
    omega
theorem eligW_move (m b : Int) (l : List Pt) (x : Pt) : eligW m (totW l) (farW m l) x = eligW b (totW l) (farW b l) x := by
  unfold eligW
  rw [decide_eq_decide, farW_move m b l]
  have e1 : (x.v - m) * totW l = (x.v - b) * totW l + (b - m) * totW l := by rw [← Int.add_mul]; congr 1; omega
  rw [e1]
  omega
theorem dueB_congr {m m' tot tot' far far' : Int} (h : ∀ x, eligW m tot far x = eligW m' tot' far' x) : ∀ (l : List Pt) (b : Option Pt), dueB m tot far l b = dueB m' tot' far' l b
  | [], b => rfl
  | x :: t, b => by
    simp only [dueB]
    rw [h x]
    exact dueB_congr h t _
theorem duePick_from (b : Int) (l : List Pt) : duePick l = dueB b (totW l) (farW b l) l none := by
  unfold duePick
  cases hz : least l with
  | none => rw [least_none.1 hz]; rfl
  | some z => exact dueB_congr (fun x => eligW_move z.v b l x) l none
theorem prod_abs {a b B M : Int} (h1 : -B ≤ a) (h2 : a ≤ B) (h3 : 0 ≤ b) (h4 : b ≤ M) (hB : 0 ≤ B) : -(B * M) ≤ a * b ∧ a * b ≤ B * M := by
  have h5 : B * b ≤ B * M := Int.mul_le_mul_of_nonneg_left h4 hB
  have h6 : a * b ≤ B * b := Int.mul_le_mul_of_nonneg_right h2 h3
  have h7 : -B * b ≤ a * b := Int.mul_le_mul_of_nonneg_right h1 h3
  rw [Int.neg_mul] at h7
  omega
/-- The sums behind k of them, from the base. -/
structure DueT (b : Int) (l : List Pt) (k : Nat) (tot far : Int) : Prop where
  t : totW (l.take k) = tot
  t0 : 0 ≤ tot
  t1 : tot ≤ 20 * k
  d : farW b (l.take k) = far
  d0 : -(k * 22540000000000000) ≤ far
  d1 : far ≤ k * 22540000000000000
theorem DueT.start (b : Int) (l : List Pt) : DueT b l 0 0 0 := ⟨by simp [totW], by omega, by omega, by simp [farW], by omega, by omega⟩
theorem DueT.next {b : Int} {l : List Pt} {k : Nat} {tot far : Int} (h : DueT b l k tot far) {x : Pt} (hx : l[k]? = some x) (h1 : -1127000000000000 ≤ x.v - b) (h2 : x.v - b ≤ 1127000000000000) (h3 : 1 ≤ x.w) (h4 : x.w ≤ 20) :
    DueT b l (k + 1) (tot + x.w) (far + (x.v - b) * x.w) := by
  have hb := prod_abs (B := 1127000000000000) (M := 20) h1 h2 (by omega) h4 (by omega)
  have g := h.d1
  have g0 := h.d0
  have g4 := h.t0
  have g5 := h.t1
  have e1 := farW_succ (m := b) hx
  have e2 := totW_succ hx
  rw [h.t] at e2
  rw [h.d] at e1
  exact ⟨e2, by omega, by omega, e1, by omega, by omega⟩
end Go.Proofs.YtlgkkolgdjgclaaGreat
