/- Contracts of package owed's small functions. -/
import Derived.Test.YtlgkkolgdjgclaaGreatA
import Derived.Test.YtlgkkolgdjgclaaGreatM
import Derived.Test.YtlgkkolgdjgclaaGreatProg
namespace Go.Proofs.YtlgkkolgdjgclaaGreat
open Go.RowKit
set_option linter.unusedVariables false
set_option linter.unusedSimpArgs false

def Pt.enc (p : Pt) : List Value := [.int .i64 p.id, .int .i64 p.w, .int .i64 p.v, .int .i64 p.day]
def It.enc (p : It) : List Value := [.int .i64 p.id, .int .i64 p.w, .int .i64 p.lag]
theorem Pt.len (p : Pt) : p.enc.length = 4 := rfl
theorem It.len (p : It) : p.enc.length = 3 := rfl

theorem Step_any (x : Int) (w : World) (h1 : 1 ≤ x) (h2 : x ≤ 20) : Calls Tryz.prog 156 #[.int .i64 x] w fun e w' => e = .returned (.int .i64 (step x)) ∧ w = w' := by
  have e : step x = 232792560 / x := by unfold step; rw [if_pos ⟨h1, h2⟩]
  rw [e]
  clear e
  go_enter Tryz.func156, Tryz.ntmps156
  go_wp2
  go_ret
  exact ⟨by simp, rfl⟩


set_option maxHeartbeats 400000 in
theorem day_any (id x v d : Int) (w : World) (h1 : 1 ≤ x) (h2 : x ≤ 20) (hv1 : -4611686018427387904 ≤ v) (hv2 : v ≤ 4611686018427387904) :
    Calls Tryz.prog 151 #[.agg #[.int .i64 id, .int .i64 x, .int .i64 v, .int .i64 d]] w fun e w' =>
      e = .returned (.agg #[.int .i64 id, .int .i64 x, .int .i64 v, .int .i64 (v + 4 * step x)]) ∧ Below w.heap.size w w' := by
  have hs := step_le x
  go_enter Tryz.func151, Tryz.ntmps151
  go_wp2_with fail
  go_region_held3 (fun w' => w'.cell? ⟨w.heap.size, 1, none⟩ = some (.int .i64 x) ∧ w'.cell? ⟨w.heap.size, 2, none⟩ = some (.int .i64 v)) (go_keep) (first | (go_at_call 156; refine (Step_any _ _ h1 h2).mono ?_; rintro e w' ⟨rfl, rfl⟩))
  go_wp2
  refine bodyPost_ret (v := .agg #[.int .i64 id, .int .i64 x, .int .i64 v, .int .i64 (v + 4 * step x)]) (by simp [results, go_sem]) rfl ⟨rfl, ?_⟩
  exact ((((Below.refl _ _).alloc (Nat.le_refl _) _).alloc (by simp) _).drew)

/-- The closure of find. -/
theorem find1_any (p : Pt) (id : Int) (g : Nat) (w : World) (hg : w.cell? ⟨g, 0, none⟩ = some (.int .i64 id)) :
    Calls Tryz.prog 200 #[.agg #[.int .i64 p.id, .int .i64 p.w, .int .i64 p.v, .int .i64 p.day], .pointer (some ⟨g, 0, none⟩)] w fun e w' => e = .returned (.bool (isId id p)) ∧ Below w.heap.size w w' := by
  have hlt := World.block_lt_of_cell? w _ hg
  have hne : g ≠ w.heap.size := by simp at hlt; omega
  go_enter Tryz.func200, Tryz.ntmps200
  go_wp2
  go_ret
  exact ⟨by rfl, (Below.refl _ _).alloc (Nat.le_refl _) _⟩


set_option maxHeartbeats 800000 in
set_option maxRecDepth 100000 in
theorem indexPt (id : Int) (l : List Pt) (a : Option Addr) (c g : Nat) (w : World) (hl : l.length ≤ 4611686018427387904) (hs : Sl Pt.enc 4 w a l) (hg : w.cell? ⟨g, 0, none⟩ = some (.int .i64 id)) :
    Calls Tryz.prog 199 #[.slice a l.length c, .func (.func 200) #[] #[.pointer (some ⟨g, 0, none⟩)]] w fun e w' =>
      e = .returned (.int .i64 (fi (isId id) l)) ∧ Below w.heap.size w w' := by
  have hglt := World.block_lt_of_cell? w _ hg
  simp only at hglt
  go_enter Tryz.func199, Tryz.ntmps199
  go_wp2_with fail
  go_loopw [8] (fun i wr => ∃ k : Nat, k ≤ l.length ∧ i = .int .i64 k ∧ Below w.heap.size w wr ∧ ∀ i, i < k → ∀ y, l[i]? = some y → isId id y = false) (fun i _ => l.length - (intOf i).toNat)
  case atStart => exact ⟨0, Nat.zero_le _, rfl, Below.refl _ _, fun i hi => absurd hi (Nat.not_lt_zero _)⟩
  case round =>
    obtain ⟨k, hk, rfl, hb, hno⟩ := hrel
    by_cases hlt : k < l.length
    · obtain ⟨r, off, rfl, hr, hc⟩ := hs (by intro h; rw [h] at hlt; simp at hlt)
      obtain ⟨y, hx⟩ : ∃ y, l[k]? = some y := ⟨_, List.getElem?_eq_getElem hlt⟩
      have e0 := (hb.cell (p := ⟨r, off + k * 4 + 0, none⟩) hr).trans (hc k y hx 0 _ rfl)
      have e1 := (hb.cell (p := ⟨r, off + k * 4 + 1, none⟩) hr).trans (hc k y hx 1 _ rfl)
      have e2 := (hb.cell (p := ⟨r, off + k * 4 + 2, none⟩) hr).trans (hc k y hx 2 _ rfl)
      have e3 := (hb.cell (p := ⟨r, off + k * 4 + 3, none⟩) hr).trans (hc k y hx 3 _ rfl)
      simp only [Nat.add_zero] at e0
      have hg' := (hb.cell (p := ⟨g, 0, none⟩) hglt).trans hg
      have hsz := hb.size
      clear hs hc
      have Hx := Lib.hid hx
      have Hno := Lib.hid hno
      clear hx hno
      rcases Bool.eq_false_or_eq_true (isId id y) with hp | hp
      · go_wp2_with (go_at_call 200; refine (find1_any y id g wr hg').mono ?_; rintro e w1 ⟨rfl, hb1⟩)
        go_ret
        exact ⟨ret_int (fi_at Hx.out hp Hno.out).symm, hb.trans (hb1.mono hsz)⟩
      · go_wp2_with (go_at_call 200; refine (find1_any y id g wr hg').mono ?_; rintro e w1 ⟨rfl, hb1⟩)
        go_roundw
        case rel => exact ⟨k + 1, hlt, by go_num, hb.trans (hb1.mono hsz), fun i hi z hz => by
          rcases Nat.lt_or_ge i k with h | h
          · exact Hno.out i h z hz
          · obtain rfl : i = k := by omega
            rw [Hx.out] at hz; cases hz; exact hp⟩
        case measure => simp [intOf]; omega
    · have Hno := Lib.hid hno
      clear hno
      go_wp2
      go_ret
      exact ⟨ret_int (fi_neg (fun x hx => by
        obtain ⟨i, hi⟩ := List.mem_iff_getElem?.1 hx
        exact Hno.out i (by have := (List.getElem?_eq_some_iff.1 hi).1; omega) x hi)).symm, hb⟩
end Go.Proofs.YtlgkkolgdjgclaaGreat
