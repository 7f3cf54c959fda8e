/- Contracts of package owed's line: the least point. -/
import Derived.Test.YtlgkkolgdjgclaaGreatB
namespace Go.Proofs.YtlgkkolgdjgclaaGreat
open Go.RowKit
set_option linter.unusedVariables false
set_option linter.unusedSimpArgs false

def cmpI (a b : Int) : Int := if a < b then -1 else if b < a then 1 else 0
theorem cmpI_lt {a b : Int} (h : a < b) : decide (cmpI a b < 0) = true := by unfold cmpI; rw [if_pos h]; decide
theorem cmpI_ge {a b : Int} (h : ¬ a < b) : decide (cmpI a b < 0) = false := by unfold cmpI; rw [if_neg h]; split <;> decide

theorem cmp64_any (a b : Int) (w : World) : Calls Tryz.prog 198 #[.int .i64 a, .int .i64 b] w fun e w' => e = .returned (.int .i64 (cmpI a b)) ∧ w = w' := by
  unfold cmpI
  by_cases h1 : a < b
  · rw [if_pos h1]
    go_enter Tryz.func198, Tryz.ntmps198
    go_wp2
    go_ret
    exact ⟨rfl, rfl⟩
  · by_cases h2 : b < a
    · rw [if_neg h1, if_pos h2]
      go_enter Tryz.func198, Tryz.ntmps198
      go_wp2
      go_ret
      exact ⟨rfl, rfl⟩
    · rw [if_neg h1, if_neg h2]
      go_enter Tryz.func198, Tryz.ntmps198
      go_wp2
      go_ret
      exact ⟨rfl, rfl⟩
theorem cmpint_any (a b : Int) (w : World) : Calls Tryz.prog 91 #[.int .i64 a, .int .i64 b] w fun e w' => e = .returned (.int .i64 (cmpI a b)) ∧ w = w' := by
  unfold cmpI
  by_cases h1 : a < b
  · rw [if_pos h1]
    go_enter Tryz.func91, Tryz.ntmps91
    go_wp2
    go_ret
    exact ⟨rfl, rfl⟩
  · by_cases h2 : b < a
    · rw [if_neg h1, if_pos h2]
      go_enter Tryz.func91, Tryz.ntmps91
      go_wp2
      go_ret
      exact ⟨rfl, rfl⟩
    · rw [if_neg h1, if_neg h2]
      go_enter Tryz.func91, Tryz.ntmps91
      go_wp2
      go_ret
      exact ⟨rfl, rfl⟩

theorem least1_any (p q : Pt) (w : World) :
    Calls Tryz.prog 197 #[.agg #[.int .i64 p.id, .int .i64 p.w, .int .i64 p.v, .int .i64 p.day], .agg #[.int .i64 q.id, .int .i64 q.w, .int .i64 q.v, .int .i64 q.day]] w fun e w' =>
      e = .returned (.int .i64 (cmpI p.v q.v)) ∧ Below w.heap.size w w' := by
  go_enter Tryz.func197, Tryz.ntmps197
  go_wp2_with (go_at_call 198; refine (cmp64_any _ _ _).mono ?_; rintro e w' ⟨rfl, rfl⟩)
  go_ret
  exact ⟨rfl, ((Below.refl _ _).alloc (Nat.le_refl _) _).alloc (by simp) _⟩

set_option maxHeartbeats 1600000 in
set_option maxRecDepth 100000 in
theorem minPt (x : Pt) (t : List Pt) (z : Pt) (hz : best t x = z) (a : Option Addr) (c : Nat) (w : World) (hl : (x :: t).length ≤ 4611686018427387904) (hs : Sl Pt.enc 4 w a (x :: t)) :
    Calls Tryz.prog 196 #[.slice a (x :: t).length c, .func (.func 197) #[] #[]] w fun e w' =>
      e = .returned (.agg #[.int .i64 z.id, .int .i64 z.w, .int .i64 z.v, .int .i64 z.day]) ∧ Below w.heap.size w w' := by
  have Hz := Lib.hid hz
  clear hz
  obtain ⟨r, off, rfl, hr, hc⟩ := hs (by simp)
  generalize hn : (x :: t).length = n at hl
  have hn1 : 1 ≤ n := by rw [← hn]; simp
  have Hn := Lib.hid hn
  clear hn
  have e0 := hc 0 x rfl 0 _ rfl
  have e1 := hc 0 x rfl 1 _ rfl
  have e2 := hc 0 x rfl 2 _ rfl
  have e3 := hc 0 x rfl 3 _ rfl
  simp only [Nat.add_zero, Nat.zero_mul] at e0 e1 e2 e3
  have Hc := Lib.hid hc
  clear hc hs
  have hlen : ((n : Int) < 1) = False := by simp; omega
  go_enter Tryz.func196, Tryz.ntmps196
  go_wp2_with fail
  go_loopw [6] (fun i wr => ∃ (k : Nat) (m : Pt), 1 ≤ k ∧ k ≤ n ∧ i = .int .i64 k ∧ Below w.heap.size w wr ∧ m = best (t.take (k - 1)) x ∧ wr.heap[w.heap.size + 1]? = some (.cells #[.int .i64 m.id, .int .i64 m.w, .int .i64 m.v, .int .i64 m.day] 248 (0, 0)) ∧
      wr.heap[w.heap.size]? = some (.cells #[.int .i64 0, .int .i64 0, .int .i64 0, .int .i64 0] 248 (0, 0))) (fun i _ => n - (intOf i).toNat)
  case atStart => exact ⟨1, x, Nat.le_refl _, hn1, rfl, ((Below.refl _ _).alloc (Nat.le_refl _) _).alloc (by simp) _, rfl, heap_at (by simp) _, heap_alloc (heap_new _ _) _⟩
  case round =>
    obtain ⟨k, m, hk1, hk, rfl, hb, hm, hG, hR⟩ := hrel
    have Hm := Lib.hid hm
    have HG := Lib.hid hG
    have HR := Lib.hid hR
    obtain ⟨g0, g1, g2, g3, z0, z1, z2, z3, gsz⟩ := blk4 hG
    obtain ⟨r0, r1, r2, r3, y0, y1, y2, y3, rsz⟩ := blk4 hR
    clear hm hG hR
    by_cases hlt : k < n
    · obtain ⟨y, hx⟩ : ∃ y, (x :: t)[k]? = some y := ⟨_, List.getElem?_eq_getElem (by have := Hn.out; omega)⟩
      have d0 := (hb.cell (p := ⟨r, off + k * 4 + 0, none⟩) hr).trans (Hc.out k y hx 0 _ rfl)
      have d1 := (hb.cell (p := ⟨r, off + k * 4 + 1, none⟩) hr).trans (Hc.out k y hx 1 _ rfl)
      have d2 := (hb.cell (p := ⟨r, off + k * 4 + 2, none⟩) hr).trans (Hc.out k y hx 2 _ rfl)
      have d3 := (hb.cell (p := ⟨r, off + k * 4 + 3, none⟩) hr).trans (Hc.out k y hx 3 _ rfl)
      simp only [Nat.add_zero] at d0
      have Hx := Lib.hid hx
      clear hx e0 e1 e2 e3
      have hk0 : (0 : Int) ≤ k := by omega
      have hrw : r < wr.heap.size := by have := hb.size; omega
      have hki : (k : Int) < n := by omega
      have hkn : decide ((k : Int) < n) = true := by simp; omega
      by_cases hv : y.v < m.v
      · have hcv := cmpI_lt hv
        go_wp2_with fail
        go_region_held3 (fun w' => (∀ b o, b < wr.heap.size → w'.cell? ⟨b, o, none⟩ = wr.cell? ⟨b, o, none⟩) ∧ ∀ b o, b < wr.heap.size → w'.frozen? ⟨b, o, none⟩ = wr.frozen? ⟨b, o, none⟩) (first | exact ⟨fun _ _ _ => rfl, fun _ _ _ => rfl⟩ | exact bcell (W := wr.drew) hb1) (first | (go_at_call 197; refine (least1_any y m _).mono ?_; rintro e w1 ⟨rfl, hb1⟩))
        have hb1' : Below w.heap.size w w1 := hb.drew.trans (hb1.mono (by have := hb.size; exact this))
        have HG1 := heap_below (w := wr.drew) HG.out hb1
        have HR1 := heap_below (w := wr.drew) HR.out hb1
        have HG2 := Lib.hid HG1
        have HR2 := Lib.hid HR1
        have hsz1 : wr.heap.size ≤ w1.heap.size := hb1.size
        clear HG1 HR1
        go_wp2
        go_roundw
        case rel => exact ⟨k + 1, y, by omega, hlt, by go_num, ((((hb1'.setCell (by simp) _).setCell (by simp) _).setCell (by simp) _).setCell (by simp) _), by
            rw [Nat.add_sub_cancel]
            obtain ⟨q, rfl⟩ : ∃ q, k = q + 1 := ⟨k - 1, by omega⟩
            have h2 : t[q]? = some y := by simpa using Hx.out
            rw [List.take_add_one, h2, Option.toList, best_snoc]
            have := Hm.out; rw [Nat.add_sub_cancel] at this
            rw [← this, if_pos hv], heap_set (heap_set (heap_set (heap_set HG2.out _) _) _) _, heap_set_ne (heap_set_ne (heap_set_ne (heap_set_ne HR2.out (by simp) _) (by simp) _) (by simp) _) (by simp) _⟩
        case measure => simp [intOf]; omega
      · have hcv := cmpI_ge hv
        go_wp2_with fail
        go_region_held3 (fun w' => (∀ b o, b < wr.heap.size → w'.cell? ⟨b, o, none⟩ = wr.cell? ⟨b, o, none⟩) ∧ ∀ b o, b < wr.heap.size → w'.frozen? ⟨b, o, none⟩ = wr.frozen? ⟨b, o, none⟩) (first | exact ⟨fun _ _ _ => rfl, fun _ _ _ => rfl⟩ | exact bcell (W := wr.drew) hb1) (first | (go_at_call 197; refine (least1_any y m _).mono ?_; rintro e w1 ⟨rfl, hb1⟩))
        have hb1' : Below w.heap.size w w1 := hb.drew.trans (hb1.mono (by have := hb.size; exact this))
        have HG1 := heap_below (w := wr.drew) HG.out hb1
        have HR1 := heap_below (w := wr.drew) HR.out hb1
        have HG2 := Lib.hid HG1
        have HR2 := Lib.hid HR1
        have hsz1 : wr.heap.size ≤ w1.heap.size := hb1.size
        clear HG1 HR1
        go_wp2
        go_roundw
        case rel => exact ⟨k + 1, m, by omega, hlt, by go_num, hb1', by
            rw [Nat.add_sub_cancel]
            obtain ⟨q, rfl⟩ : ∃ q, k = q + 1 := ⟨k - 1, by omega⟩
            have h2 : t[q]? = some y := by simpa using Hx.out
            rw [List.take_add_one, h2, Option.toList, best_snoc]
            have := Hm.out; rw [Nat.add_sub_cancel] at this
            rw [← this, if_neg (Int.not_lt.2 hv)], HG2.out, HR2.out⟩
        case measure => simp [intOf]; omega
    · obtain rfl : k = n := by omega
      have hkn : decide ((k : Int) < k) = false := by simp
      go_wp2
      have hm2 : m = best t x := by
        have := Hm.out; rw [List.take_of_length_le (by have := Hn.out; simp at this; omega)] at this; exact this
      refine bodyPost_ret (v := .agg #[.int .i64 z.id, .int .i64 z.w, .int .i64 z.v, .int .i64 z.day]) (res_c _ _ w.heap.size 248 #[.int .i64 z.id, .int .i64 z.w, .int .i64 z.v, .int .i64 z.day] (0, 0) _ rfl rfl (by rw [← Hz.out, ← hm2]; exact heap_set (heap_set (heap_set (heap_set HR.out _) _) _) _) Tryz.underlying248 rfl (by kernel_rfl)) rfl ⟨rfl, ?_⟩
      exact ((((hb.setCell (by simp) _).setCell (by simp) _).setCell (by simp) _).setCell (by simp) _)
end Go.Proofs.YtlgkkolgdjgclaaGreat
