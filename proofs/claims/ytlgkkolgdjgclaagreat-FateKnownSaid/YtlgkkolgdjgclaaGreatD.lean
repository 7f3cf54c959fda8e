/- Contracts of package owed's small functions. -/
import Derived.Test.YtlgkkolgdjgclaaGreatA
import Derived.Test.YtlgkkolgdjgclaaGreatM
import Derived.Test.YtlgkkolgdjgclaaGreatProg
namespace Go.Proofs.YtlgkkolgdjgclaaGreat
open Go.RowKit
set_option linter.unusedVariables false
set_option linter.unusedSimpArgs false

def Pt.enc (p : Pt) : List Value := [.int .i64 p.id, .int .i64 p.w, .int .i64 p.v, .int .i64 p.day]
def It.enc (p : It) : List Value := [.int .i64 p.id, .int .i64 p.w, .int .i64 p.lag]
theorem Pt.len (p : Pt) : p.enc.length = 4 := rfl
theorem It.len (p : It) : p.enc.length = 3 := rfl

theorem Step_any (x : Int) (w : World) (h1 : 1 ≤ x) (h2 : x ≤ 20) : Calls Tryz.prog 156 #[.int .i64 x] w fun e w' => e = .returned (.int .i64 (step x)) ∧ w = w' := by
  have e : step x = 232792560 / x := by unfold step; rw [if_pos ⟨h1, h2⟩]
  rw [e]
  clear e
  go_enter Tryz.func156, Tryz.ntmps156
  go_wp2
  go_ret
  exact ⟨by simp, rfl⟩


set_option maxHeartbeats 400000 in
theorem day_any (id x v d : Int) (w : World) (h1 : 1 ≤ x) (h2 : x ≤ 20) (hv1 : -4611686018427387904 ≤ v) (hv2 : v ≤ 4611686018427387904) :
    Calls Tryz.prog 151 #[.agg #[.int .i64 id, .int .i64 x, .int .i64 v, .int .i64 d]] w fun e w' =>
      e = .returned (.agg #[.int .i64 id, .int .i64 x, .int .i64 v, .int .i64 (v + 4 * step x)]) ∧ Below w.heap.size w w' := by
  have hs := step_le x
  go_enter Tryz.func151, Tryz.ntmps151
  go_wp2_with fail
  go_region_held3 (fun w' => w'.cell? ⟨w.heap.size, 1, none⟩ = some (.int .i64 x) ∧ w'.cell? ⟨w.heap.size, 2, none⟩ = some (.int .i64 v)) (go_keep) (first | (go_at_call 156; refine (Step_any _ _ h1 h2).mono ?_; rintro e w' ⟨rfl, rfl⟩))
  go_wp2
  refine bodyPost_ret (v := .agg #[.int .i64 id, .int .i64 x, .int .i64 v, .int .i64 (v + 4 * step x)]) (by simp [results, go_sem]) rfl ⟨rfl, ?_⟩
  exact ((((Below.refl _ _).alloc (Nat.le_refl _) _).alloc (by simp) _).drew)

/-- The closure of find. -/
theorem find1_any (p : Pt) (id : Int) (g : Nat) (w : World) (hg : w.cell? ⟨g, 0, none⟩ = some (.int .i64 id)) :
    Calls Tryz.prog 200 #[.agg #[.int .i64 p.id, .int .i64 p.w, .int .i64 p.v, .int .i64 p.day], .pointer (some ⟨g, 0, none⟩)] w fun e w' => e = .returned (.bool (isId id p)) ∧ Below w.heap.size w w' := by
  have hlt := World.block_lt_of_cell? w _ hg
  have hne : g ≠ w.heap.size := by simp at hlt; omega
  go_enter Tryz.func200, Tryz.ntmps200
  go_wp2
  go_ret
  exact ⟨by rfl, (Below.refl _ _).alloc (Nat.le_refl _) _⟩


set_option maxHeartbeats 800000 in
set_option maxRecDepth 100000 in
theorem indexPt (id : Int) (l : List Pt) (a : Option Addr) (c g : Nat) (w : World) (hl : l.length ≤ 4611686018427387904) (hs : Sl Pt.enc 4 w a l) (hg : w.cell? ⟨g, 0, none⟩ = some (.int .i64 id)) :
    Calls Tryz.prog 199 #[.slice a l.length c, .func (.func 200) #[] #[.pointer (some ⟨g, 0, none⟩)]] w fun e w' =>
      e = .returned (.int .i64 (fi (isId id) l)) ∧ Below w.heap.size w w' := by
  have hglt := World.block_lt_of_cell? w _ hg
  simp only at hglt
  go_enter Tryz.func199, Tryz.ntmps199
  go_wp2_with fail
  go_loopw [8] (fun i wr => ∃ k : Nat, k ≤ l.length ∧ i = .int .i64 k ∧ Below w.heap.size w wr ∧ ∀ i, i < k → ∀ y, l[i]? = some y → isId id y = false) (fun i _ => l.length - (intOf i).toNat)
  case atStart => exact ⟨0, Nat.zero_le _, rfl, Below.refl _ _, fun i hi => absurd hi (Nat.not_lt_zero _)⟩
  case round =>
    obtain ⟨k, hk, rfl, hb, hno⟩ := hrel
    by_cases hlt : k < l.length
    · obtain ⟨r, off, rfl, hr, hc⟩ := hs (by intro h; rw [h] at hlt; simp at hlt)
      obtain ⟨y, hx⟩ : ∃ y, l[k]? = some y := ⟨_, List.getElem?_eq_getElem hlt⟩
      have e0 := (hb.cell (p := ⟨r, off + k * 4 + 0, none⟩) hr).trans (hc k y hx 0 _ rfl)
      have e1 := (hb.cell (p := ⟨r, off + k * 4 + 1, none⟩) hr).trans (hc k y hx 1 _ rfl)
      have e2 := (hb.cell (p := ⟨r, off + k * 4 + 2, none⟩) hr).trans (hc k y hx 2 _ rfl)
      have e3 := (hb.cell (p := ⟨r, off + k * 4 + 3, none⟩) hr).trans (hc k y hx 3 _ rfl)
      simp only [Nat.add_zero] at e0
      have hg' := (hb.cell (p := ⟨g, 0, none⟩) hglt).trans hg
      have hsz := hb.size
      clear hs hc
      have Hx := Lib.hid hx
      have Hno := Lib.hid hno
      clear hx hno
      rcases Bool.eq_false_or_eq_true (isId id y) with hp | hp
      · go_wp2_with (go_at_call 200; refine (find1_any y id g wr hg').mono ?_; rintro e w1 ⟨rfl, hb1⟩)
        go_ret
        exact ⟨ret_int (fi_at Hx.out hp Hno.out).symm, hb.trans (hb1.mono hsz)⟩
      · go_wp2_with (go_at_call 200; refine (find1_any y id g wr hg').mono ?_; rintro e w1 ⟨rfl, hb1⟩)
        go_roundw
        case rel => exact ⟨k + 1, hlt, by go_num, hb.trans (hb1.mono hsz), fun i hi z hz => by
          rcases Nat.lt_or_ge i k with h | h
          · exact Hno.out i h z hz
          · obtain rfl : i = k := by omega
            rw [Hx.out] at hz; cases hz; exact hp⟩
        case measure => simp [intOf]; omega
    · have Hno := Lib.hid hno
      clear hno
      go_wp2
      go_ret
      exact ⟨ret_int (fi_neg (fun x hx => by
        obtain ⟨i, hi⟩ := List.mem_iff_getElem?.1 hx
        exact Hno.out i (by have := (List.getElem?_eq_some_iff.1 hi).1; omega) x hi)).symm, hb⟩
end Go.Proofs.YtlgkkolgdjgclaaGreat
/- Contracts of package owed's line: the least point. -/
namespace Go.Proofs.YtlgkkolgdjgclaaGreat
open Go.RowKit
set_option linter.unusedVariables false
set_option linter.unusedSimpArgs false

def cmpI (a b : Int) : Int := if a < b then -1 else if b < a then 1 else 0
theorem cmpI_lt {a b : Int} (h : a < b) : decide (cmpI a b < 0) = true := by unfold cmpI; rw [if_pos h]; decide
theorem cmpI_ge {a b : Int} (h : ¬ a < b) : decide (cmpI a b < 0) = false := by unfold cmpI; rw [if_neg h]; split <;> decide

theorem cmp64_any (a b : Int) (w : World) : Calls Tryz.prog 198 #[.int .i64 a, .int .i64 b] w fun e w' => e = .returned (.int .i64 (cmpI a b)) ∧ w = w' := by
  unfold cmpI
  by_cases h1 : a < b
  · rw [if_pos h1]
    go_enter Tryz.func198, Tryz.ntmps198
    go_wp2
    go_ret
    exact ⟨rfl, rfl⟩
  · by_cases h2 : b < a
    · rw [if_neg h1, if_pos h2]
      go_enter Tryz.func198, Tryz.ntmps198
      go_wp2
      go_ret
      exact ⟨rfl, rfl⟩
    · rw [if_neg h1, if_neg h2]
      go_enter Tryz.func198, Tryz.ntmps198
      go_wp2
      go_ret
      exact ⟨rfl, rfl⟩
theorem cmpint_any (a b : Int) (w : World) : Calls Tryz.prog 91 #[.int .i64 a, .int .i64 b] w fun e w' => e = .returned (.int .i64 (cmpI a b)) ∧ w = w' := by
  unfold cmpI
  by_cases h1 : a < b
  · rw [if_pos h1]
    go_enter Tryz.func91, Tryz.ntmps91
    go_wp2
    go_ret
    exact ⟨rfl, rfl⟩
  · by_cases h2 : b < a
    · rw [if_neg h1, if_pos h2]
      go_enter Tryz.func91, Tryz.ntmps91
      go_wp2
      go_ret
      exact ⟨rfl, rfl⟩
    · rw [if_neg h1, if_neg h2]
      go_enter Tryz.func91, Tryz.ntmps91
      go_wp2
      go_ret
      exact ⟨rfl, rfl⟩

theorem least1_any (p q : Pt) (w : World) :
    Calls Tryz.prog 197 #[.agg #[.int .i64 p.id, .int .i64 p.w, .int .i64 p.v, .int .i64 p.day], .agg #[.int .i64 q.id, .int .i64 q.w, .int .i64 q.v, .int .i64 q.day]] w fun e w' =>
      e = .returned (.int .i64 (cmpI p.v q.v)) ∧ Below w.heap.size w w' := by
  go_enter Tryz.func197, Tryz.ntmps197
  go_wp2_with (go_at_call 198; refine (cmp64_any _ _ _).mono ?_; rintro e w' ⟨rfl, rfl⟩)
  go_ret
  exact ⟨rfl, ((Below.refl _ _).alloc (Nat.le_refl _) _).alloc (by simp) _⟩

set_option maxHeartbeats 1600000 in
set_option maxRecDepth 100000 in
theorem minPt (x : Pt) (t : List Pt) (z : Pt) (hz : best t x = z) (a : Option Addr) (c : Nat) (w : World) (hl : (x :: t).length ≤ 4611686018427387904) (hs : Sl Pt.enc 4 w a (x :: t)) :
    Calls Tryz.prog 196 #[.slice a (x :: t).length c, .func (.func 197) #[] #[]] w fun e w' =>
      e = .returned (.agg #[.int .i64 z.id, .int .i64 z.w, .int .i64 z.v, .int .i64 z.day]) ∧ Below w.heap.size w w' := by
  have Hz := Lib.hid hz
  clear hz
  obtain ⟨r, off, rfl, hr, hc⟩ := hs (by simp)
  generalize hn : (x :: t).length = n at hl
  have hn1 : 1 ≤ n := by rw [← hn]; simp
  have Hn := Lib.hid hn
  clear hn
  have e0 := hc 0 x rfl 0 _ rfl
  have e1 := hc 0 x rfl 1 _ rfl
  have e2 := hc 0 x rfl 2 _ rfl
  have e3 := hc 0 x rfl 3 _ rfl
  simp only [Nat.add_zero, Nat.zero_mul] at e0 e1 e2 e3
  have Hc := Lib.hid hc
  clear hc hs
  have hlen : ((n : Int) < 1) = False := by simp; omega
  go_enter Tryz.func196, Tryz.ntmps196
  go_wp2_with fail
  go_loopw [6] (fun i wr => ∃ (k : Nat) (m : Pt), 1 ≤ k ∧ k ≤ n ∧ i = .int .i64 k ∧ Below w.heap.size w wr ∧ m = best (t.take (k - 1)) x ∧ wr.heap[w.heap.size + 1]? = some (.cells #[.int .i64 m.id, .int .i64 m.w, .int .i64 m.v, .int .i64 m.day] 248 (0, 0)) ∧
      wr.heap[w.heap.size]? = some (.cells #[.int .i64 0, .int .i64 0, .int .i64 0, .int .i64 0] 248 (0, 0))) (fun i _ => n - (intOf i).toNat)
  case atStart => exact ⟨1, x, Nat.le_refl _, hn1, rfl, ((Below.refl _ _).alloc (Nat.le_refl _) _).alloc (by simp) _, rfl, heap_at (by simp) _, heap_alloc (heap_new _ _) _⟩
  case round =>
    obtain ⟨k, m, hk1, hk, rfl, hb, hm, hG, hR⟩ := hrel
    have Hm := Lib.hid hm
    have HG := Lib.hid hG
    have HR := Lib.hid hR
    obtain ⟨g0, g1, g2, g3, z0, z1, z2, z3, gsz⟩ := blk4 hG
    obtain ⟨r0, r1, r2, r3, y0, y1, y2, y3, rsz⟩ := blk4 hR
    clear hm hG hR
    by_cases hlt : k < n
    · obtain ⟨y, hx⟩ : ∃ y, (x :: t)[k]? = some y := ⟨_, List.getElem?_eq_getElem (by have := Hn.out; omega)⟩
      have d0 := (hb.cell (p := ⟨r, off + k * 4 + 0, none⟩) hr).trans (Hc.out k y hx 0 _ rfl)
      have d1 := (hb.cell (p := ⟨r, off + k * 4 + 1, none⟩) hr).trans (Hc.out k y hx 1 _ rfl)
      have d2 := (hb.cell (p := ⟨r, off + k * 4 + 2, none⟩) hr).trans (Hc.out k y hx 2 _ rfl)
      have d3 := (hb.cell (p := ⟨r, off + k * 4 + 3, none⟩) hr).trans (Hc.out k y hx 3 _ rfl)
      simp only [Nat.add_zero] at d0
      have Hx := Lib.hid hx
      clear hx e0 e1 e2 e3
      have hk0 : (0 : Int) ≤ k := by omega
      have hrw : r < wr.heap.size := by have := hb.size; omega
      have hki : (k : Int) < n := by omega
      have hkn : decide ((k : Int) < n) = true := by simp; omega
      by_cases hv : y.v < m.v
      · have hcv := cmpI_lt hv
        go_wp2_with fail
        go_region_held3 (fun w' => (∀ b o, b < wr.heap.size → w'.cell? ⟨b, o, none⟩ = wr.cell? ⟨b, o, none⟩) ∧ ∀ b o, b < wr.heap.size → w'.frozen? ⟨b, o, none⟩ = wr.frozen? ⟨b, o, none⟩) (first | exact ⟨fun _ _ _ => rfl, fun _ _ _ => rfl⟩ | exact bcell (W := wr.drew) hb1) (first | (go_at_call 197; refine (least1_any y m _).mono ?_; rintro e w1 ⟨rfl, hb1⟩))
        have hb1' : Below w.heap.size w w1 := hb.drew.trans (hb1.mono (by have := hb.size; exact this))
        have HG1 := heap_below (w := wr.drew) HG.out hb1
        have HR1 := heap_below (w := wr.drew) HR.out hb1
        have HG2 := Lib.hid HG1
        have HR2 := Lib.hid HR1
        have hsz1 : wr.heap.size ≤ w1.heap.size := hb1.size
        clear HG1 HR1
        go_wp2
        go_roundw
        case rel => exact ⟨k + 1, y, by omega, hlt, by go_num, ((((hb1'.setCell (by simp) _).setCell (by simp) _).setCell (by simp) _).setCell (by simp) _), by
            rw [Nat.add_sub_cancel]
            obtain ⟨q, rfl⟩ : ∃ q, k = q + 1 := ⟨k - 1, by omega⟩
            have h2 : t[q]? = some y := by simpa using Hx.out
            rw [List.take_add_one, h2, Option.toList, best_snoc]
            have := Hm.out; rw [Nat.add_sub_cancel] at this
            rw [← this, if_pos hv], heap_set (heap_set (heap_set (heap_set HG2.out _) _) _) _, heap_set_ne (heap_set_ne (heap_set_ne (heap_set_ne HR2.out (by simp) _) (by simp) _) (by simp) _) (by simp) _⟩
        case measure => simp [intOf]; omega
      · have hcv := cmpI_ge hv
        go_wp2_with fail
        go_region_held3 (fun w' => (∀ b o, b < wr.heap.size → w'.cell? ⟨b, o, none⟩ = wr.cell? ⟨b, o, none⟩) ∧ ∀ b o, b < wr.heap.size → w'.frozen? ⟨b, o, none⟩ = wr.frozen? ⟨b, o, none⟩) (first | exact ⟨fun _ _ _ => rfl, fun _ _ _ => rfl⟩ | exact bcell (W := wr.drew) hb1) (first | (go_at_call 197; refine (least1_any y m _).mono ?_; rintro e w1 ⟨rfl, hb1⟩))
        have hb1' : Below w.heap.size w w1 := hb.drew.trans (hb1.mono (by have := hb.size; exact this))
        have HG1 := heap_below (w := wr.drew) HG.out hb1
        have HR1 := heap_below (w := wr.drew) HR.out hb1
        have HG2 := Lib.hid HG1
        have HR2 := Lib.hid HR1
        have hsz1 : wr.heap.size ≤ w1.heap.size := hb1.size
        clear HG1 HR1
        go_wp2
        go_roundw
        case rel => exact ⟨k + 1, m, by omega, hlt, by go_num, hb1', by
            rw [Nat.add_sub_cancel]
            obtain ⟨q, rfl⟩ : ∃ q, k = q + 1 := ⟨k - 1, by omega⟩
            have h2 : t[q]? = some y := by simpa using Hx.out
            rw [List.take_add_one, h2, Option.toList, best_snoc]
            have := Hm.out; rw [Nat.add_sub_cancel] at this
            rw [← this, if_neg (Int.not_lt.2 hv)], HG2.out, HR2.out⟩
        case measure => simp [intOf]; omega
    · obtain rfl : k = n := by omega
      have hkn : decide ((k : Int) < k) = false := by simp
      go_wp2
      have hm2 : m = best t x := by
        have := Hm.out; rw [List.take_of_length_le (by have := Hn.out; simp at this; omega)] at this; exact this
      refine bodyPost_ret (v := .agg #[.int .i64 z.id, .int .i64 z.w, .int .i64 z.v, .int .i64 z.day]) (res_c _ _ w.heap.size 248 #[.int .i64 z.id, .int .i64 z.w, .int .i64 z.v, .int .i64 z.day] (0, 0) _ rfl rfl (by rw [← Hz.out, ← hm2]; exact heap_set (heap_set (heap_set (heap_set HR.out _) _) _) _) Tryz.underlying248 rfl (by kernel_rfl)) rfl ⟨rfl, ?_⟩
      exact ((((hb.setCell (by simp) _).setCell (by simp) _).setCell (by simp) _).setCell (by simp) _)
end Go.Proofs.YtlgkkolgdjgclaaGreat
/- A line in memory; contracts of the methods that leave its row as it is. -/
namespace Go.Proofs.YtlgkkolgdjgclaaGreat
open Go.RowKit
set_option linter.unusedVariables false
set_option linter.unusedSimpArgs false

/-- Block b (from B on) is a line: base, who has the core, the row of points. -/
structure LineAt (w : World) (B b : Nat) (a : Option Addr) (c : Nat) (base cur : Int) (l : List Pt) : Prop where
  hb : B ≤ b
  blk : ∃ T, w.heap[b]? = some (.cells #[.int .i64 base, .int .i64 cur, .slice a l.length c] T (0, 0))
  row : w.ownsRow B 248 4 (.slice a l.length c) l.length (flat Pt.enc l)
  apart : ∀ p, a = some p → p.block ≠ b

/-- A line's blocks. -/
def foot (b : Nat) (a : Option Addr) (k : Nat) : Prop := k = b ∨ ∃ p, a = some p ∧ p.block = k

theorem own_fr {w w' : World} {B e k n : Nat} {v : Value} {xs : List Value} {F : Nat → Prop} (h : w.ownsRow B e k v n xs) (hf : Fr F w w') (hn : ∀ g, v.ownBlock = some g → ¬ F g) : w'.ownsRow B e k v n xs := by
  refine ⟨h.1, ?_⟩
  rcases h.2 with h0 | ⟨g, cap, cur, rfl, hB, hg, rest⟩
  · exact .inl h0
  · exact .inr ⟨g, cap, cur, rfl, hB, heap_fr hg hf (hn g rfl), rest⟩
theorem LineAt.fr {w w' : World} {B b : Nat} {a : Option Addr} {c : Nat} {base cur : Int} {l : List Pt} {F : Nat → Prop} (h : LineAt w B b a c base cur l) (hf : Fr F w w') (hn : ∀ k, foot b a k → ¬ F k) : LineAt w' B b a c base cur l := by
  obtain ⟨T, hT⟩ := h.blk
  exact ⟨h.hb, ⟨T, heap_fr hT hf (hn b (.inl rfl))⟩, own_fr h.row hf (fun g hg => by
    cases a with
    | none => simp [Value.ownBlock] at hg
    | some p => simp [Value.ownBlock] at hg; exact hn g (.inr ⟨p, rfl, hg⟩)), h.apart⟩
theorem LineAt.below {w w' : World} {B b : Nat} {a : Option Addr} {c : Nat} {base cur : Int} {l : List Pt} (h : LineAt w B b a c base cur l) (hf : Below w.heap.size w w') : LineAt w' B b a c base cur l :=
  h.fr (F := fun _ => False) (Fr.of_below hf) (fun _ _ h => h)
theorem LineAt.sl {w : World} {B b : Nat} {a : Option Addr} {c : Nat} {base cur : Int} {l : List Pt} (h : LineAt w B b a c base cur l) : Sl Pt.enc 4 w a l := Sl.of_own Pt.len h.row
theorem LineAt.lt {w : World} {B b : Nat} {a : Option Addr} {c : Nat} {base cur : Int} {l : List Pt} (h : LineAt w B b a c base cur l) : b < w.heap.size := by
  obtain ⟨T, hT⟩ := h.blk; exact (Array.getElem?_eq_some_iff.1 hT).1
theorem LineAt.row_lt {w : World} {B b : Nat} {a : Option Addr} {c : Nat} {base cur : Int} {l : List Pt} (h : LineAt w B b a c base cur l) : ∀ p, a = some p → B ≤ p.block ∧ p.block < w.heap.size := by
  intro p hp; subst hp; exact h.row.lt p.block rfl
theorem LineAt.foot_lt {w : World} {B b : Nat} {a : Option Addr} {c : Nat} {base cur : Int} {l : List Pt} (h : LineAt w B b a c base cur l) : ∀ k, foot b a k → B ≤ k ∧ k < w.heap.size := by
  rintro k (rfl | ⟨p, hp, rfl⟩)
  · exact ⟨h.hb, h.lt⟩
  · exact h.row_lt p hp

theorem own_set {w : World} {B e k n b i : Nat} {v u : Value} {xs : List Value} (h : w.ownsRow B e k v n xs) (hn : v.ownBlock ≠ some b) : (w.setCell ⟨b, i, none⟩ u).ownsRow B e k v n xs :=
  own_fr (F := fun k => k = b) h ((Fr.refl (fun k => k = b) _).setCell (p := ⟨b, i, none⟩) (fun _ => rfl) u) (fun g hg e => hn (by rw [hg, e]))
theorem LineAt.own_ne {w : World} {B b : Nat} {a : Option Addr} {c : Nat} {base cur : Int} {l : List Pt} (h : LineAt w B b a c base cur l) : (Value.slice a l.length c).ownBlock ≠ some b := by
  cases a with
  | none => simp [Value.ownBlock]
  | some p => simpa [Value.ownBlock] using h.apart p rfl
theorem LineAt.set0 {w : World} {B b : Nat} {a : Option Addr} {c : Nat} {base cur : Int} {l : List Pt} (h : LineAt w B b a c base cur l) (base' : Int) : LineAt (w.setCell ⟨b, 0, none⟩ (.int .i64 base')) B b a c base' cur l := by
  obtain ⟨T, hT⟩ := h.blk
  exact ⟨h.hb, ⟨T, heap_set hT _⟩, own_set h.row h.own_ne, h.apart⟩
theorem LineAt.set1 {w : World} {B b : Nat} {a : Option Addr} {c : Nat} {base cur : Int} {l : List Pt} (h : LineAt w B b a c base cur l) (cur' : Int) : LineAt (w.setCell ⟨b, 1, none⟩ (.int .i64 cur')) B b a c base cur' l := by
  obtain ⟨T, hT⟩ := h.blk
  exact ⟨h.hb, ⟨T, heap_set hT _⟩, own_set h.row h.own_ne, h.apart⟩
theorem LineAt.alloc {w : World} {B b : Nat} {a : Option Addr} {c : Nat} {base cur : Int} {l : List Pt} (h : LineAt w B b a c base cur l) (o : Obj) : LineAt (w.alloc o) B b a c base cur l := h.below ((Below.refl _ _).alloc (Nat.le_refl _) _)
theorem LineAt.drew {w : World} {B b : Nat} {a : Option Addr} {c : Nat} {base cur : Int} {l : List Pt} (h : LineAt w B b a c base cur l) : LineAt w.drew B b a c base cur l := h.below (Below.refl _ _).drew

theorem flat_set4 (x' : Pt) : ∀ (l : List Pt) (j : Nat), j < l.length → ((((flat Pt.enc l).set (j * 4) (.int .i64 x'.id)).set (j * 4 + 1) (.int .i64 x'.w)).set (j * 4 + 2) (.int .i64 x'.v)).set (j * 4 + 3) (.int .i64 x'.day) = flat Pt.enc (l.set j x')
  | [], j, h => absurd h (Nat.not_lt_zero _)
  | y :: l, 0, _ => by simp [flat, Pt.enc]
  | y :: l, j + 1, h => by
    have := flat_set4 x' l j (by simpa using h)
    have e : (j + 1) * 4 = j * 4 + 4 := by omega
    have e1 : j * 4 + 4 + 1 = (j * 4 + 1) + 4 := by omega
    have e2 : j * 4 + 4 + 2 = (j * 4 + 2) + 4 := by omega
    have e3 : j * 4 + 4 + 3 = (j * 4 + 3) + 4 := by omega
    rw [e, e1, e2, e3]
    simp only [flat, List.flatMap_cons, Pt.enc, List.cons_append, List.nil_append, List.set_cons_succ, List.set_cons_zero] at this ⊢
    rw [this]
/-- Element j is another one. -/
theorem LineAt.setRow {w : World} {B b r o c : Nat} {s : Option Nat} {base cur : Int} {l : List Pt} (h : LineAt w B b (some ⟨r, o, s⟩) c base cur l) (j : Nat) (hj : j < l.length) (x : Pt) :
    o = 0 ∧ s = none ∧ LineAt ((((w.setCell ⟨r, j * 4, none⟩ (.int .i64 x.id)).setCell ⟨r, j * 4 + 1, none⟩ (.int .i64 x.w)).setCell ⟨r, j * 4 + 2, none⟩ (.int .i64 x.v)).setCell ⟨r, j * 4 + 3, none⟩ (.int .i64 x.day)) B b (some ⟨r, o, s⟩) c base cur (l.set j x) := by
  obtain ⟨T, hT⟩ := h.blk
  have hne := h.apart _ rfl
  simp only at hne
  have ho : o = 0 ∧ s = none := by
    rcases h.row.2 with ⟨hv, _⟩ | ⟨g, cap, cu, hv, _⟩
    · simp at hv
    · simp at hv; exact ⟨hv.1.2.1, hv.1.2.2⟩
  obtain ⟨rfl, rfl⟩ := ho
  refine ⟨rfl, rfl, h.hb, ⟨T, ?_⟩, ?_, h.apart⟩
  · rw [List.length_set]
    exact heap_set_ne (heap_set_ne (heap_set_ne (heap_set_ne hT hne.symm _) hne.symm _) hne.symm _) hne.symm _
  · have h4 := ((((h.row.stored (j * 4) (.int .i64 x.id)).1.stored (j * 4 + 1) (.int .i64 x.w)).1.stored (j * 4 + 2) (.int .i64 x.v)).1.stored (j * 4 + 3) (.int .i64 x.day)).1
    rw [flat_set4 x l j hj] at h4
    rw [List.length_set]
    exact h4
/-- What the walk reads of element j. -/
theorem LineAt.elem {w : World} {B b c : Nat} {a : Option Addr} {base cur : Int} {l : List Pt} (h : LineAt w B b a c base cur l) (j : Nat) (x : Pt) (hx : l[j]? = some x) :
    ∃ r, a = some ⟨r, 0, none⟩ ∧ w.cell? ⟨r, j * 4, none⟩ = some (.int .i64 x.id) ∧ w.cell? ⟨r, j * 4 + 1, none⟩ = some (.int .i64 x.w) ∧ w.cell? ⟨r, j * 4 + 2, none⟩ = some (.int .i64 x.v) ∧ w.cell? ⟨r, j * 4 + 3, none⟩ = some (.int .i64 x.day) ∧
      w.frozen? ⟨r, j * 4, none⟩ = false ∧ w.frozen? ⟨r, j * 4 + 1, none⟩ = false ∧ w.frozen? ⟨r, j * 4 + 2, none⟩ = false ∧ w.frozen? ⟨r, j * 4 + 3, none⟩ = false ∧ r ≠ b ∧ r < w.heap.size := by
  obtain ⟨r, off, rfl, hr, hc⟩ := h.sl (by intro h0; rw [h0] at hx; simp at hx)
  have hne := h.apart _ rfl
  have ho : off = 0 := by
    rcases h.row.2 with ⟨hv, _⟩ | ⟨g, cap, cu, hv, _⟩
    · simp at hv
    · simp at hv; exact hv.1.2
  subst ho
  have hfr := fun i => h.row.frozenAt i
  refine ⟨r, rfl, ?_, ?_, ?_, ?_, hfr _, hfr _, hfr _, hfr _, hne, hr⟩
  · simpa using hc j x hx 0 _ rfl
  · simpa using hc j x hx 1 _ rfl
  · simpa using hc j x hx 2 _ rfl
  · simpa using hc j x hx 3 _ rfl

set_option maxHeartbeats 400000 in
theorem find_any {w : World} {B b : Nat} {a : Option Addr} {c : Nat} {base cur : Int} {l : List Pt} (h : LineAt w B b a c base cur l) (hl : l.length ≤ 64) (id : Int) {v : Int} (hv : fi (isId id) l = v) :
    Calls Tryz.prog 191 #[.pointer (some ⟨b, 0, none⟩), .int .i64 id] w fun e w' => e = .returned (.int .i64 v) ∧ Below w.heap.size w w' := by
  subst hv
  obtain ⟨T, hT⟩ := h.blk
  obtain ⟨c0, c1, c2, f0, f1, f2, hlt⟩ := blk3 hT
  have hs := h.sl
  have hne : b ≠ w.heap.size := by omega
  have hs1 := hs.below ((Below.refl _ _).alloc (Nat.le_refl _) (.cells #[.int .i64 id] 3))
  have Hs := Lib.hid hs1
  clear h hT hs hs1
  go_enter Tryz.func191, Tryz.ntmps191
  go_wp2_with (go_at_call 199; refine (indexPt id l a c w.heap.size _ (by omega) Hs.out (by simp)).mono ?_; rintro e w1 ⟨rfl, hb1⟩)
  go_ret
  exact ⟨rfl, ((Below.refl _ _).alloc (Nat.le_refl _) _).trans (hb1.mono (by simp))⟩

set_option maxHeartbeats 400000 in
theorem Least_some {w : World} {B b : Nat} {a : Option Addr} {c : Nat} {base cur : Int} {l : List Pt} (h : LineAt w B b a c base cur l) (hl : l.length ≤ 64) (z : Pt) (hz : least l = some z) :
    Calls Tryz.prog 190 #[.pointer (some ⟨b, 0, none⟩)] w fun e w' => e = .returned (.tuple #[.agg #[.int .i64 z.id, .int .i64 z.w, .int .i64 z.v, .int .i64 z.day], .bool true]) ∧ Below w.heap.size w w' := by
  obtain ⟨x, t, rfl⟩ : ∃ x t, l = x :: t := by cases l with | nil => simp [least] at hz | cons x t => exact ⟨x, t, rfl⟩
  simp only [least, Option.some.injEq] at hz
  obtain ⟨T, hT⟩ := h.blk
  obtain ⟨c0, c1, c2, f0, f1, f2, hlt⟩ := blk3 hT
  have hne : b ≠ w.heap.size := by omega
  have hs1 := h.sl.below ((Below.refl _ _).alloc (Nat.le_refl _) (.cells #[.int .i64 0, .int .i64 0, .int .i64 0, .int .i64 0] 248))
  have Hs := Lib.hid hs1
  have hmin := fun W h => minPt x t z hz a c W (by omega) h
  clear h hT hs1 hz
  generalize hn : (x :: t).length = n at c2 hmin
  have hn0 : ((n : Int) == 0) = false := by rw [← hn]; simp; omega
  clear hn hl
  have Hmin := Lib.hid hmin
  clear hmin
  go_enter Tryz.func190, Tryz.ntmps190
  go_wp2_with (go_at_call 196; refine (Hmin.out _ Hs.out).mono ?_; rintro e w1 ⟨rfl, hb1⟩; obtain ⟨hc1, hf1⟩ := bcell hb1; have hgs := hb1.size; simp only [World.size_alloc] at hgs)
  have hr := heap_below (heap_new w (.cells #[.int .i64 0, .int .i64 0, .int .i64 0, .int .i64 0] 248)) hb1
  refine bodyPost_ret (res_ct _ _ w.heap.size 248 #[.int .i64 z.id, .int .i64 z.w, .int .i64 z.v, .int .i64 z.day] (0, 0) _ rfl rfl (heap_set (heap_set (heap_set (heap_set hr _) _) _) _) Tryz.underlying248 rfl (by kernel_rfl)) rfl ⟨rfl, ?_⟩
  exact ((((((Below.refl _ _).alloc (Nat.le_refl _) _).trans (hb1.mono (by simp))).setCell (by simp) _).setCell (by simp) _).setCell (by simp) _).setCell (by simp) _

theorem Least_none {w : World} {B b : Nat} {a : Option Addr} {c : Nat} {base cur : Int} (h : LineAt w B b a c base cur []) :
    Calls Tryz.prog 190 #[.pointer (some ⟨b, 0, none⟩)] w fun e w' => e = .returned (.tuple #[.agg #[.int .i64 0, .int .i64 0, .int .i64 0, .int .i64 0], .bool false]) ∧ Below w.heap.size w w' := by
  obtain ⟨T, hT⟩ := h.blk
  obtain ⟨c0, c1, c2, f0, f1, f2, hlt⟩ := blk3 hT
  have hne : b ≠ w.heap.size := by omega
  clear h hT
  simp only [List.length_nil] at c2
  go_enter Tryz.func190, Tryz.ntmps190
  go_wp2_with fail
  refine bodyPost_ret (res_ct _ _ w.heap.size 248 #[.int .i64 0, .int .i64 0, .int .i64 0, .int .i64 0] (0, 0) _ rfl rfl (heap_new _ _) Tryz.underlying248 rfl (by kernel_rfl)) rfl ⟨rfl, ?_⟩
  exact (Below.refl _ _).alloc (Nat.le_refl _) _

set_option maxHeartbeats 400000 in
/-- grow: the base, to the least point. -/
theorem grow_any {w : World} {B b : Nat} {a : Option Addr} {c : Nat} {base cur : Int} {l : List Pt} (h : LineAt w B b a c base cur l) (hl : l.length ≤ 64) :
    Calls Tryz.prog 192 #[.pointer (some ⟨b, 0, none⟩)] w fun e w' => e = .returned (.tuple #[]) ∧ LineAt w' B b a c (growB base l) cur l ∧ Fr (fun k => k = b) w w' := by
  have h0 := h
  have hlt := h.lt
  have hne : b ≠ w.heap.size := by omega
  cases hz : least l with
  | none =>
    obtain rfl : l = [] := by cases l with | nil => rfl | cons x t => simp [least] at hz
    have hg : growB base [] = base := rfl
    rw [hg]
    have h0' : LineAt w B b a c base cur [] := h0
    have H0 := Lib.hid h0
    clear hz hg h h0
    go_enter Tryz.func192, Tryz.ntmps192
    go_wp2_with (go_at_call 190; refine (Least_none H0.out).mono ?_; rintro e w1 ⟨rfl, hb1⟩)
    go_end0
    have hf : Fr (fun k => k = b) w w1 := Fr.of_below hb1
    exact ⟨rfl, (h0'.below hb1).below ((Below.refl _ _).alloc (Nat.le_refl _) _), hf.alloc _⟩
  | some z =>
    obtain ⟨T, hT⟩ := h.blk
    have hg : growB base l = max base z.v := by unfold growB; rw [hz]
    rw [hg]
    have HL2 := Lib.hid (Least_some h hl z hz)
    have H0 := Lib.hid h0
    have HT := Lib.hid hT
    clear hz hg h h0 hT
    go_enter Tryz.func192, Tryz.ntmps192
    go_wp2_with (go_at_call 190; refine HL2.out.mono ?_; rintro e w1 ⟨rfl, hb1⟩; obtain ⟨c0, c1, c2, f0, f1, f2, hlt1⟩ := blk3 (heap_below HT.out hb1); have hne1 : b ≠ w1.heap.size := by omega)
    go_region
    go_end0
    have hm : (if base < z.v then z.v else base) = max base z.v := by split <;> omega
    rw [hm]
    have hf : Fr (fun k => k = b) w w1 := Fr.of_below hb1
    exact ⟨rfl, (((H0.out.below hb1).set0 _).alloc _).drew, ((hf.setCell (fun _ => rfl) _).alloc _).drew⟩

/-- Take, Back, Now. -/
theorem Take_any {w : World} {B b : Nat} {a : Option Addr} {c : Nat} {base cur : Int} {l : List Pt} (h : LineAt w B b a c base cur l) (z : Pt) :
    Calls Tryz.prog 189 #[.pointer (some ⟨b, 0, none⟩), .agg #[.int .i64 z.id, .int .i64 z.w, .int .i64 z.v, .int .i64 z.day], .bool true] w fun e w' =>
      e = .returned (.tuple #[.int .i64 z.id, .bool true]) ∧ LineAt w' B b a c base z.id l ∧ Fr (fun k => k = b) w w' := by
  have h0 := h
  have hlt := h.lt
  have hne : b ≠ w.heap.size := by omega
  obtain ⟨T, hT⟩ := h.blk
  obtain ⟨c0, c1, c2, f0, f1, f2, hlt⟩ := blk3 hT
  have H0 := Lib.hid h0
  clear h hT h0
  go_enter Tryz.func189, Tryz.ntmps189
  go_wp2
  go_ret2
  exact ⟨rfl, ((H0.out.set1 _).set1 _).alloc _, (((Fr.refl (fun k => k = b) _).setCell (p := ⟨b, 1, none⟩) (fun _ => rfl) _).setCell (p := ⟨b, 1, none⟩) (fun _ => rfl) _).alloc _⟩
theorem Take_none {w : World} {B b : Nat} {a : Option Addr} {c : Nat} {base cur : Int} {l : List Pt} (h : LineAt w B b a c base cur l) (i0 i1 i2 i3 : Int) :
    Calls Tryz.prog 189 #[.pointer (some ⟨b, 0, none⟩), .agg #[.int .i64 i0, .int .i64 i1, .int .i64 i2, .int .i64 i3], .bool false] w fun e w' =>
      e = .returned (.tuple #[.int .i64 0, .bool false]) ∧ LineAt w' B b a c base (-1) l ∧ Fr (fun k => k = b) w w' := by
  have h0 := h
  have hlt := h.lt
  have hne : b ≠ w.heap.size := by omega
  obtain ⟨T, hT⟩ := h.blk
  obtain ⟨c0, c1, c2, f0, f1, f2, hlt⟩ := blk3 hT
  have H0 := Lib.hid h0
  clear h hT h0
  go_enter Tryz.func189, Tryz.ntmps189
  go_wp2
  go_ret2
  exact ⟨rfl, (H0.out.set1 _).alloc _, ((Fr.refl (fun k => k = b) _).setCell (p := ⟨b, 1, none⟩) (fun _ => rfl) _).alloc _⟩
def mayB (id w lag : Int) : Bool := decide (0 ≤ id ∧ id ≤ 1073741824 ∧ 1 ≤ w ∧ w ≤ 20 ∧ -1125899906842624 ≤ lag ∧ lag ≤ 1125899906842624)
theorem mayB_true {id w lag : Int} (h : mayB id w lag = true) : 0 ≤ id ∧ id ≤ 1073741824 ∧ 1 ≤ w ∧ w ≤ 20 ∧ -1125899906842624 ≤ lag ∧ lag ≤ 1125899906842624 := of_decide_eq_true h

theorem may_any (id tw lag : Int) (w : World) {r : Bool} (hr : mayB id tw lag = r) :
    Calls Tryz.prog 148 #[.agg #[.int .i64 id, .int .i64 tw, .int .i64 lag]] w fun e w' => e = .returned (.bool r) ∧ Below w.heap.size w w' := by
  subst hr
  by_cases g0 : 0 ≤ id
  · by_cases g1 : id ≤ 1073741824
    · by_cases g2 : 1 ≤ tw
      · by_cases g3 : tw ≤ 20
        · by_cases g4 : -1125899906842624 ≤ lag
          · by_cases g5 : lag ≤ 1125899906842624
            · have hv : mayB id tw lag = true := by unfold mayB; simp; omega
              rw [hv]; clear hv
              go_enter Tryz.func148, Tryz.ntmps148
              go_wp2
              go_ret
              exact ⟨rfl, (Below.refl _ _).alloc (Nat.le_refl _) _⟩
            · have hv : mayB id tw lag = false := by unfold mayB; simp; omega
              rw [hv]; clear hv
              go_enter Tryz.func148, Tryz.ntmps148
              go_wp2
              go_ret
              exact ⟨rfl, (Below.refl _ _).alloc (Nat.le_refl _) _⟩
          · have hv : mayB id tw lag = false := by unfold mayB; simp; omega
            rw [hv]; clear hv
            go_enter Tryz.func148, Tryz.ntmps148
            go_wp2
            go_ret
            exact ⟨rfl, (Below.refl _ _).alloc (Nat.le_refl _) _⟩
        · have hv : mayB id tw lag = false := by unfold mayB; simp; omega
          rw [hv]; clear hv
          go_enter Tryz.func148, Tryz.ntmps148
          go_wp2
          go_ret
          exact ⟨rfl, (Below.refl _ _).alloc (Nat.le_refl _) _⟩
      · have hv : mayB id tw lag = false := by unfold mayB; simp; omega
        rw [hv]; clear hv
        go_enter Tryz.func148, Tryz.ntmps148
        go_wp2
        go_ret
        exact ⟨rfl, (Below.refl _ _).alloc (Nat.le_refl _) _⟩
    · have hv : mayB id tw lag = false := by unfold mayB; simp; omega
      rw [hv]; clear hv
      go_enter Tryz.func148, Tryz.ntmps148
      go_wp2
      go_ret
      exact ⟨rfl, (Below.refl _ _).alloc (Nat.le_refl _) _⟩
  · have hv : mayB id tw lag = false := by unfold mayB; simp; omega
    rw [hv]; clear hv
    go_enter Tryz.func148, Tryz.ntmps148
    go_wp2
    go_ret
    exact ⟨rfl, (Below.refl _ _).alloc (Nat.le_refl _) _⟩

/-- Why a task may not come in. -/
def mayE (l : List Pt) (id w lag : Int) : Int := if mayB id w lag = true then (if l.any (isId id) then 4 else if l.length = 64 then 3 else 0) else 1

theorem May_any {w : World} {B b : Nat} {a : Option Addr} {c : Nat} {base cur : Int} {l : List Pt} (h : LineAt w B b a c base cur l) (hl : l.length ≤ 64) (id tw lag : Int) :
    Calls Tryz.prog 184 #[.pointer (some ⟨b, 0, none⟩), .int .i64 id, .int .i64 tw, .int .i64 lag] w fun e w' =>
      e = .returned (.int .i64 (mayE l id tw lag)) ∧ Below w.heap.size w w' := by
  obtain ⟨T, hT⟩ := h.blk
  have HT := Lib.hid hT
  have H0 := Lib.hid h
  have hlt := h.lt
  clear hT h
  by_cases hm : mayB id tw lag = true
  · have Hm := Lib.hid hm
    rcases fi_cases (isId id) l with ⟨h1, h2⟩ | ⟨j, x, h1, hj, hx, hp, _⟩
    · have ha : l.any (isId id) = false := by rw [List.any_eq_false]; intro x hx; rw [h2 x hx]; simp
      have H1 := Lib.hid h1
      by_cases h3 : l.length = 64
      · have he : mayE l id tw lag = 3 := by unfold mayE; rw [if_pos hm, ha, if_neg (by simp), if_pos h3]
        rw [he]
        rw [h3] at HT
        clear he ha h2 h1 hm h3
        go_enter Tryz.func184, Tryz.ntmps184
        go_wp2_with (first | (go_at_call 148; refine (may_any _ _ _ _ Hm.out).mono ?_; rintro e w1 ⟨rfl, hb1⟩; obtain ⟨c0, c1, c2, f0, f1, f2, hlt1⟩ := blk3 (heap_below HT.out hb1)) | (go_at_call 191; refine (find_any (H0.out.below hb1) hl id H1.out).mono ?_; rintro e w2 ⟨rfl, hb2⟩; obtain ⟨hc2, hf2⟩ := bcell hb2))
        go_ret
        exact ⟨rfl, hb1.trans (hb2.mono hb1.size)⟩
      · have he : mayE l id tw lag = 0 := by unfold mayE; rw [if_pos hm, ha, if_neg (by simp), if_neg h3]
        rw [he]
        have h4 : ((l.length : Int) == 64) = false := by simp; omega
        clear he ha h2 h1 hm h3
        go_enter Tryz.func184, Tryz.ntmps184
        go_wp2_with (first | (go_at_call 148; refine (may_any _ _ _ _ Hm.out).mono ?_; rintro e w1 ⟨rfl, hb1⟩; obtain ⟨c0, c1, c2, f0, f1, f2, hlt1⟩ := blk3 (heap_below HT.out hb1)) | (go_at_call 191; refine (find_any (H0.out.below hb1) hl id H1.out).mono ?_; rintro e w2 ⟨rfl, hb2⟩; obtain ⟨hc2, hf2⟩ := bcell hb2))
        go_ret
        exact ⟨rfl, hb1.trans (hb2.mono hb1.size)⟩
    · have ha : l.any (isId id) = true := List.any_eq_true.2 ⟨x, List.mem_of_getElem? hx, hp⟩
      have he : mayE l id tw lag = 4 := by unfold mayE; rw [if_pos hm, ha, if_pos rfl]
      rw [he]
      have H1 := Lib.hid h1
      clear he ha h1 hm hx hp
      go_enter Tryz.func184, Tryz.ntmps184
      go_wp2_with (first | (go_at_call 148; refine (may_any _ _ _ _ Hm.out).mono ?_; rintro e w1 ⟨rfl, hb1⟩; obtain ⟨c0, c1, c2, f0, f1, f2, hlt1⟩ := blk3 (heap_below HT.out hb1)) | (go_at_call 191; refine (find_any (H0.out.below hb1) hl id H1.out).mono ?_; rintro e w2 ⟨rfl, hb2⟩; obtain ⟨hc2, hf2⟩ := bcell hb2))
      go_ret
      exact ⟨rfl, hb1.trans (hb2.mono hb1.size)⟩
  · have he : mayE l id tw lag = 1 := by unfold mayE; rw [if_neg hm]
    have hm' : mayB id tw lag = false := by simpa using hm
    have Hm := Lib.hid hm'
    rw [he]
    clear he hm hm'
    go_enter Tryz.func184, Tryz.ntmps184
    go_wp2_with (first | (go_at_call 148; refine (may_any _ _ _ _ Hm.out).mono ?_; rintro e w1 ⟨rfl, hb1⟩; obtain ⟨c0, c1, c2, f0, f1, f2, hlt1⟩ := blk3 (heap_below HT.out hb1)) | fail)
    go_ret
    exact ⟨rfl, hb1⟩

end Go.Proofs.YtlgkkolgdjgclaaGreat
