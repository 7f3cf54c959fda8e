/- Contracts of package owed: Front. -/
import Derived.Test.YtfijedmdfkelnaaJ
namespace Go.Proofs.Ytfijedmdfkelnaa
open Go.RowKit
set_option linter.unusedVariables false
set_option linter.unusedSimpArgs false

/-- x is owed more than m, or as much and has the lesser ID. -/
def aheadF (x m : It) : Bool := decide (m.lag < x.lag ∨ (x.lag = m.lag ∧ x.id < m.id))
def cmpF (a b : It) : Int := if cmpI b.lag a.lag = 0 then cmpI a.id b.id else cmpI b.lag a.lag
theorem cmpF_is (a b : It) : decide (cmpF a b < 0) = aheadF a b := by
  unfold cmpF cmpI aheadF
  rw [decide_eq_decide]
  repeat' split
  all_goals omega
def bestF : List It → It → It
  | [], m => m
  | x :: r, m => bestF r (if aheadF x m = true then x else m)
theorem bestF_snoc (x : It) : ∀ (l : List It) (m : It), bestF (l ++ [x]) m = if aheadF x (bestF l m) = true then x else bestF l m
  | [], m => rfl
  | y :: l, m => by simp only [List.cons_append, bestF]; exact bestF_snoc x l _
theorem bestF_mem : ∀ (l : List It) (m : It), bestF l m = m ∨ bestF l m ∈ l
  | [], m => .inl rfl
  | x :: t, m => by
    unfold bestF
    rcases bestF_mem t (if aheadF x m = true then x else m) with h | h
    · rw [h]; split
      · exact .inr (by simp)
      · exact .inl rfl
    · exact .inr (by simp [h])
theorem bestF_le : ∀ (l : List It) (m : It), m.lag ≤ (bestF l m).lag ∧ ∀ x ∈ l, x.lag ≤ (bestF l m).lag
  | [], m => ⟨Int.le_refl _, fun x hx => by cases hx⟩
  | x :: t, m => by
    unfold bestF
    obtain ⟨h1, h2⟩ := bestF_le t (if aheadF x m = true then x else m)
    have h3 : m.lag ≤ (if aheadF x m = true then x else m).lag ∧ x.lag ≤ (if aheadF x m = true then x else m).lag := by
      by_cases h : aheadF x m = true
      · rw [if_pos h]
        have := of_decide_eq_true h
        omega
      · rw [if_neg h]
        have : ¬ (m.lag < x.lag ∨ (x.lag = m.lag ∧ x.id < m.id)) := fun h' => h (decide_eq_true h')
        omega
    refine ⟨by omega, fun y hy => ?_⟩
    rcases List.mem_cons.1 hy with rfl | hy
    · omega
    · exact h2 y hy

set_option maxHeartbeats 800000 in
theorem front1_any (p q : It) (w : World) :
    Calls Try.prog 40 #[.agg #[.int .i64 p.id, .int .i64 p.w, .int .i64 p.lag], .agg #[.int .i64 q.id, .int .i64 q.w, .int .i64 q.lag]] w fun e w' =>
      e = .returned (.int .i64 (cmpF p q)) ∧ Below w.heap.size w w' := by
  by_cases h : cmpI q.lag p.lag = 0
  · have e1 : cmpF p q = cmpI p.id q.id := by unfold cmpF; rw [if_pos h]
    rw [e1]
    have hb : (cmpI q.lag p.lag != 0) = false := by rw [h]; rfl
    have hb2 : (cmpI q.lag p.lag == 0) = true := by rw [h]; rfl
    clear e1 h
    go_enter Try.func40, Try.ntmps40
    go_wp2_with (first
      | (go_at_call 41; refine (cmp64_any _ _ _).mono ?_; rintro e w' ⟨rfl, rfl⟩)
      | (go_at_call 42; refine (cmpint_any _ _ _).mono ?_; rintro e w' ⟨rfl, rfl⟩))
    go_ret
    exact ⟨rfl, ((Below.refl _ _).alloc (Nat.le_refl _) _).alloc (by simp) _⟩
  · have e1 : cmpF p q = cmpI q.lag p.lag := by unfold cmpF; rw [if_neg h]
    rw [e1]
    have hb : (cmpI q.lag p.lag != 0) = true := by simpa using h
    have hb2 : (cmpI q.lag p.lag == 0) = false := by simpa using h
    clear e1 h
    go_enter Try.func40, Try.ntmps40
    go_wp2_with (first
      | (go_at_call 41; refine (cmp64_any _ _ _).mono ?_; rintro e w' ⟨rfl, rfl⟩)
      | (go_at_call 42; refine (cmpint_any _ _ _).mono ?_; rintro e w' ⟨rfl, rfl⟩))
    go_ret
    exact ⟨rfl, ((Below.refl _ _).alloc (Nat.le_refl _) _).alloc (by simp) _⟩
set_option maxHeartbeats 1600000 in
set_option maxRecDepth 100000 in
theorem minIt (x : It) (t : List It) (z : It) (hz : bestF t x = z) (a : Option Addr) (c : Nat) (w : World) (hl : (x :: t).length ≤ 4611686018427387904) (hs : Sl It.enc 3 w a (x :: t)) :
    Calls Try.prog 39 #[.slice a (x :: t).length c, .func (.func 40) #[] #[]] w fun e w' =>
      e = .returned (.agg #[.int .i64 z.id, .int .i64 z.w, .int .i64 z.lag]) ∧ Below w.heap.size w w' := by
  have Hz := Lib.hid hz
  clear hz
  obtain ⟨r, off, rfl, hr, hc⟩ := hs (by simp)
  generalize hn : (x :: t).length = n at hl
  have hn1 : 1 ≤ n := by rw [← hn]; simp
  have Hn := Lib.hid hn
  clear hn
  have e0 := hc 0 x rfl 0 _ rfl
  have e1 := hc 0 x rfl 1 _ rfl
  have e2 := hc 0 x rfl 2 _ rfl
  simp only [Nat.add_zero, Nat.zero_mul] at e0 e1 e2
  have Hc := Lib.hid hc
  clear hc hs
  have hlen : ((n : Int) < 1) = False := by simp; omega
  go_enter Try.func39, Try.ntmps39
  go_wp2_with fail
  go_loopw [6] (fun i wr => ∃ (k : Nat) (m : It), 1 ≤ k ∧ k ≤ n ∧ i = .int .i64 k ∧ Below w.heap.size w wr ∧ m = bestF (t.take (k - 1)) x ∧ wr.heap[w.heap.size + 1]? = some (.cells #[.int .i64 m.id, .int .i64 m.w, .int .i64 m.lag] 32 (0, 0)) ∧
      wr.heap[w.heap.size]? = some (.cells #[.int .i64 0, .int .i64 0, .int .i64 0] 32 (0, 0))) (fun i _ => n - (intOf i).toNat)
  case atStart => exact ⟨1, x, Nat.le_refl _, hn1, rfl, ((Below.refl _ _).alloc (Nat.le_refl _) _).alloc (by simp) _, rfl, heap_at (by simp) _, heap_alloc (heap_new _ _) _⟩
  case round =>
    obtain ⟨k, m, hk1, hk, rfl, hb, hm, hG, hR⟩ := hrel
    have Hm := Lib.hid hm
    have HG := Lib.hid hG
    have HR := Lib.hid hR
    obtain ⟨g0, g1, g2, z0, z1, z2, gsz⟩ := blk3 hG
    obtain ⟨r0, r1, r2, y0, y1, y2, rsz⟩ := blk3 hR
    clear hm hG hR
    by_cases hlt : k < n
    · obtain ⟨y, hx⟩ : ∃ y, (x :: t)[k]? = some y := ⟨_, List.getElem?_eq_getElem (by have := Hn.out; omega)⟩
      have d0 := (hb.cell (p := ⟨r, off + k * 3 + 0, none⟩) hr).trans (Hc.out k y hx 0 _ rfl)
      have d1 := (hb.cell (p := ⟨r, off + k * 3 + 1, none⟩) hr).trans (Hc.out k y hx 1 _ rfl)
      have d2 := (hb.cell (p := ⟨r, off + k * 3 + 2, none⟩) hr).trans (Hc.out k y hx 2 _ rfl)
      simp only [Nat.add_zero] at d0
      have Hx := Lib.hid hx
      clear hx e0 e1 e2
      have hk0 : (0 : Int) ≤ k := by omega
      have hrw : r < wr.heap.size := by have := hb.size; omega
      have hki : (k : Int) < n := by omega
      have hkn : decide ((k : Int) < n) = true := by simp; omega
      cases hv : aheadF y m with
      | true =>
        have hcv : decide (cmpF y m < 0) = true := (cmpF_is y m).trans hv
        go_wp2_with fail
        go_region_held3 (fun w' => (∀ b o, b < wr.heap.size → w'.cell? ⟨b, o, none⟩ = wr.cell? ⟨b, o, none⟩) ∧ ∀ b o, b < wr.heap.size → w'.frozen? ⟨b, o, none⟩ = wr.frozen? ⟨b, o, none⟩) (first | exact ⟨fun _ _ _ => rfl, fun _ _ _ => rfl⟩ | exact bcell (W := wr.drew) hb1) (first | (go_at_call 40; refine (front1_any y m _).mono ?_; rintro e w1 ⟨rfl, hb1⟩))
        have hb1' : Below w.heap.size w w1 := hb.drew.trans (hb1.mono (by have := hb.size; exact this))
        have HG1 := heap_below (w := wr.drew) HG.out hb1
        have HR1 := heap_below (w := wr.drew) HR.out hb1
        have HG2 := Lib.hid HG1
        have HR2 := Lib.hid HR1
        have hsz1 : wr.heap.size ≤ w1.heap.size := hb1.size
        clear HG1 HR1
        go_wp2
        go_roundw
        case rel => exact ⟨k + 1, y, by omega, hlt, by go_num, (((hb1'.setCell (by simp) _).setCell (by simp) _).setCell (by simp) _), by
            rw [Nat.add_sub_cancel]
            obtain ⟨q, rfl⟩ : ∃ q, k = q + 1 := ⟨k - 1, by omega⟩
            have h2 : t[q]? = some y := by simpa using Hx.out
            rw [List.take_add_one, h2, Option.toList, bestF_snoc]
            have := Hm.out; rw [Nat.add_sub_cancel] at this
            rw [← this, if_pos hv], heap_set (heap_set (heap_set HG2.out _) _) _, heap_set_ne (heap_set_ne (heap_set_ne HR2.out (by simp) _) (by simp) _) (by simp) _⟩
        case measure => simp [intOf]; omega
      | false =>
        have hcv : decide (cmpF y m < 0) = false := (cmpF_is y m).trans hv
        go_wp2_with fail
        go_region_held3 (fun w' => (∀ b o, b < wr.heap.size → w'.cell? ⟨b, o, none⟩ = wr.cell? ⟨b, o, none⟩) ∧ ∀ b o, b < wr.heap.size → w'.frozen? ⟨b, o, none⟩ = wr.frozen? ⟨b, o, none⟩) (first | exact ⟨fun _ _ _ => rfl, fun _ _ _ => rfl⟩ | exact bcell (W := wr.drew) hb1) (first | (go_at_call 40; refine (front1_any y m _).mono ?_; rintro e w1 ⟨rfl, hb1⟩))
        have hb1' : Below w.heap.size w w1 := hb.drew.trans (hb1.mono (by have := hb.size; exact this))
        have HG1 := heap_below (w := wr.drew) HG.out hb1
        have HR1 := heap_below (w := wr.drew) HR.out hb1
        have HG2 := Lib.hid HG1
        have HR2 := Lib.hid HR1
        have hsz1 : wr.heap.size ≤ w1.heap.size := hb1.size
        clear HG1 HR1
        go_wp2
        go_roundw
        case rel => exact ⟨k + 1, m, by omega, hlt, by go_num, hb1', by
            rw [Nat.add_sub_cancel]
            obtain ⟨q, rfl⟩ : ∃ q, k = q + 1 := ⟨k - 1, by omega⟩
            have h2 : t[q]? = some y := by simpa using Hx.out
            rw [List.take_add_one, h2, Option.toList, bestF_snoc]
            have := Hm.out; rw [Nat.add_sub_cancel] at this
            rw [← this, if_neg (by rw [hv]; decide)], HG2.out, HR2.out⟩
        case measure => simp [intOf]; omega
    · obtain rfl : k = n := by omega
      have hkn : decide ((k : Int) < k) = false := by simp
      go_wp2
      have hm2 : m = bestF t x := by
        have := Hm.out; rw [List.take_of_length_le (by have := Hn.out; simp at this; omega)] at this; exact this
      refine bodyPost_ret (v := .agg #[.int .i64 z.id, .int .i64 z.w, .int .i64 z.lag]) (res_c _ _ w.heap.size 32 #[.int .i64 z.id, .int .i64 z.w, .int .i64 z.lag] (0, 0) _ rfl rfl (by rw [← Hz.out, ← hm2]; exact heap_set (heap_set (heap_set HR.out _) _) _) Try.underlying32 rfl (by kernel_rfl)) rfl ⟨rfl, ?_⟩
      exact (((hb.setCell (by simp) _).setCell (by simp) _).setCell (by simp) _)

set_option maxHeartbeats 1600000 in
theorem FrontF_some (cur : Int) (x : It) (t : List It) (n : Nat) (a : Option Addr) (c : Nat) (w : World) (hn : (x :: t).length = n) (hl : n ≤ 4611686018427387904) (hs : Sl It.enc 3 w a (x :: t)) (z : It) (hz : bestF t x = z) :
    Calls Try.prog 11 #[.agg #[.int .i64 cur, .slice a n c]] w fun e w' => e = .returned (.tuple #[.agg #[.int .i64 z.id, .int .i64 z.w, .int .i64 z.lag], .bool true]) ∧ Below w.heap.size w w' := by
  have hb0 := ((Below.refl w.heap.size w).alloc (Nat.le_refl _) (.cells #[.int .i64 cur, .slice a n c] 24)).alloc (by simp) (.cells #[.int .i64 0, .int .i64 0, .int .i64 0] 32)
  have hmin := minIt x t z hz a c _ (by rw [hn]; exact hl) (hs.below hb0)
  rw [hn] at hmin
  have Hmin := Lib.hid hmin
  have HG2 := Lib.hid (heap_at (w := w.alloc (.cells #[.int .i64 cur, .slice a n c] 24)) (n := w.heap.size + 1) (by simp) (.cells #[.int .i64 0, .int .i64 0, .int .i64 0] 32))
  have Hb0 := Lib.hid hb0
  have hn0 : ((n : Int) == 0) = false := by rw [← hn]; simp; omega
  clear hs hn hz hb0 hmin
  go_enter Try.func11, Try.ntmps11
  go_wp2_with (go_at_call 39; refine Hmin.out.mono ?_; rintro e w1 ⟨rfl, hb1⟩
               have h2 := heap_below HG2.out hb1; obtain ⟨z0, z1, z2, v0, v1, v2, zl⟩ := blk3 h2
               have hbw := Hb0.out.trans (hb1.mono (by simp; omega))
               have H2 := Lib.hid h2
               have Hbw := Lib.hid hbw
               clear h2 hb1 hbw)
  refine bodyPost_ret (res_ct _ _ (w.heap.size + 1) 32 #[.int .i64 z.id, .int .i64 z.w, .int .i64 z.lag] (0, 0) _ rfl rfl (heap_set (heap_set (heap_set H2.out _) _) _) Try.underlying32 rfl (by kernel_rfl)) rfl ⟨rfl, ?_⟩
  exact ((Hbw.out.setCell (by simp) _).setCell (by simp) _).setCell (by simp) _
end Go.Proofs.Ytfijedmdfkelnaa
