/- Package owed: Same; the line's making. -/
import Derived.Test.YtlgkkolgdjgclaaGreatJ
namespace Go.Proofs.YtlgkkolgdjgclaaGreat
open Go.RowKit
set_option linter.unusedVariables false
set_option linter.unusedSimpArgs false

theorem It.ext' {x y : It} (h1 : x.id = y.id) (h2 : x.w = y.w) (h3 : x.lag = y.lag) : x = y := by cases x; cases y; simp at h1 h2 h3; simp [h1, h2, h3]

set_option maxHeartbeats 1600000 in
set_option maxRecDepth 100000 in
theorem equalIt (l1 l2 : List It) (n1 n2 : Nat) (a1 a2 : Option Addr) (d1 d2 : Nat) (w : World) (hn1 : l1.length = n1) (hn2 : l2.length = n2) (hl1 : n1 ≤ 4611686018427387904) (hl2 : n2 ≤ 4611686018427387904)
    (h1 : Sl It.enc 3 w a1 l1) (h2 : Sl It.enc 3 w a2 l2) {r : Bool} (hr : decide (l1 = l2) = r) :
    Calls Tryz.prog 49 #[.slice a1 n1 d1, .slice a2 n2 d2] w fun e w' => e = .returned (.bool r) ∧ Below w.heap.size w w' := by
  have Hr := Lib.hid hr
  have N1 := Lib.hid hn1
  have N2 := Lib.hid hn2
  by_cases hne : n1 = n2
  · subst hne
    have H1 := Lib.hid h1
    have H2 := Lib.hid h2
    clear hr hn1 hn2 h1 h2
    go_enter Tryz.func49, Tryz.ntmps49
    go_wp2_with fail
    go_loopw [13] (fun i wr => ∃ k : Nat, k ≤ n1 ∧ i = .int .i64 k ∧ Below w.heap.size w wr ∧ ∀ i, i < k → l1[i]? = l2[i]?) (fun i _ => n1 - (intOf i).toNat)
    case atStart => exact ⟨0, Nat.zero_le _, rfl, Below.refl _ _, fun i hi => absurd hi (Nat.not_lt_zero _)⟩
    case round =>
      obtain ⟨k, hk, rfl, hb, hno⟩ := hrel
      have Hno := Lib.hid hno
      clear hno
      by_cases hlt : k < n1
      · obtain ⟨r1, o1, rfl, hr1, hc1⟩ := H1.out (by intro h; have := N1.out; rw [h] at this; simp at this; omega)
        obtain ⟨r2, o2, rfl, hr2, hc2⟩ := H2.out (by intro h; have := N2.out; rw [h] at this; simp at this; omega)
        obtain ⟨x, hx⟩ : ∃ x, l1[k]? = some x := ⟨_, List.getElem?_eq_getElem (by rw [N1.out]; exact hlt)⟩
        obtain ⟨y, hy⟩ : ∃ y, l2[k]? = some y := ⟨_, List.getElem?_eq_getElem (by rw [N2.out]; exact hlt)⟩
        have e0 := (hb.cell (p := ⟨r1, o1 + k * 3 + 0, none⟩) hr1).trans (hc1 k x hx 0 _ rfl)
        have e1 := (hb.cell (p := ⟨r1, o1 + k * 3 + 1, none⟩) hr1).trans (hc1 k x hx 1 _ rfl)
        have e2 := (hb.cell (p := ⟨r1, o1 + k * 3 + 2, none⟩) hr1).trans (hc1 k x hx 2 _ rfl)
        have g0 := (hb.cell (p := ⟨r2, o2 + k * 3 + 0, none⟩) hr2).trans (hc2 k y hy 0 _ rfl)
        have g1 := (hb.cell (p := ⟨r2, o2 + k * 3 + 1, none⟩) hr2).trans (hc2 k y hy 1 _ rfl)
        have g2 := (hb.cell (p := ⟨r2, o2 + k * 3 + 2, none⟩) hr2).trans (hc2 k y hy 2 _ rfl)
        simp only [Nat.add_zero] at e0 g0
        have Hx := Lib.hid hx
        have Hy := Lib.hid hy
        clear hx hy hc1 hc2
        go_wp2_with fail
        refine wp_region_chain 26 [0, 0, 3, 7, 0, 0, 48, 112, 255] [(0, none), (1, none), (2, none), (3, none), (4, none), (5, none), (6, none), (7, none), (8, none)] (by kernel_rfl) (by kernel_rfl) (by rfl) ?_; simp only [chain, Obs, List.getElem?_toArray, List.getElem?_cons_zero, List.getElem?_cons_succ]
        go_wp2_with (first
          | (with_reducible refine And.intro (by first | with_reducible exact True.intro | with_reducible rfl | go_simp) ?_))
        all_goals refine NoPanic.normal ?_
        all_goals first
          | (have hxy : x = y := It.ext' (by assumption) (by assumption) (by assumption)
             go_wp2_with fail
             go_roundw
             case rel => exact ⟨k + 1, hlt, by go_num, hb.drew, fun i hi => by
               rcases Nat.lt_or_ge i k with h | h
               · exact Hno.out i h
               · obtain rfl : i = k := by omega
                 rw [Hx.out, Hy.out, hxy]⟩
             case measure => simp [intOf]; omega)
          | (have hxy : x ≠ y := (by
               first
                 | exact fun h => absurd (congrArg It.lag h) (by assumption)
                 | exact fun h => absurd (congrArg It.w h) (by assumption)
                 | exact fun h => absurd (congrArg It.id h) (by assumption))
             have Hxy := Lib.hid hxy
             clear hxy
             go_wp2_with fail
             go_ret
             refine ⟨ret_bool ?_, hb.drew⟩
             rw [← Hr.out]
             refine (decide_eq_false fun h => Hxy.out ?_).symm
             have := Hx.out
             rw [h, Hy.out] at this
             exact (Option.some.inj this).symm)
      · have hk2 : k = n1 := by omega
        subst hk2
        go_wp2_with fail
        go_ret
        refine ⟨ret_bool ?_, hb⟩
        rw [← Hr.out]
        refine (decide_eq_true (List.ext_getElem? fun i => ?_)).symm
        rcases Nat.lt_or_ge i k with h | h
        · exact Hno.out i h
        · rw [List.getElem?_eq_none (by rw [N1.out]; exact h), List.getElem?_eq_none (by rw [N2.out]; exact h)]
  · have hf : r = false := by rw [← hr]; exact decide_eq_false fun h => hne (by rw [← hn1, ← hn2, h])
    have hne' : ((n1 : Int) != n2) = true := by simp; omega
    have hne'' : ((n1 : Int) == n2) = false := by simp; omega
    subst hf
    clear hr hn1 hn2 h1 h2 hne
    go_enter Tryz.func49, Tryz.ntmps49
    go_wp2
    go_ret
    exact ⟨rfl, Below.refl _ _⟩

set_option maxHeartbeats 800000 in
theorem SameF_any (cu1 cu2 : Int) (l1 l2 : List It) (n1 n2 : Nat) (a1 a2 : Option Addr) (d1 d2 : Nat) (w : World) (hn1 : l1.length = n1) (hn2 : l2.length = n2) (hl1 : n1 ≤ 4611686018427387904) (hl2 : n2 ≤ 4611686018427387904)
    (h1 : Sl It.enc 3 w a1 l1) (h2 : Sl It.enc 3 w a2 l2) {r : Bool} (hr : decide (Fm.mk cu1 l1 = Fm.mk cu2 l2) = r) :
    Calls Tryz.prog 30 #[.agg #[.int .i64 cu1, .slice a1 n1 d1], .agg #[.int .i64 cu2, .slice a2 n2 d2]] w fun e w' => e = .returned (.bool r) ∧ Below w.heap.size w w' := by
  have hB : Below w.heap.size w ((w.alloc (.cells #[.int .i64 cu1, .slice a1 n1 d1] 41)).alloc (.cells #[.int .i64 cu2, .slice a2 n2 d2] 41)) := ((Below.refl _ _).alloc (Nat.le_refl _) _).alloc (by simp) _
  have He := Lib.hid (equalIt l1 l2 n1 n2 a1 a2 d1 d2 _ hn1 hn2 hl1 hl2 (h1.below hB) (h2.below hB) rfl)
  by_cases hc : cu1 = cu2
  · have hq : decide (l1 = l2) = r := by rw [← hr, hc]; simp
    rw [hq] at He
    have hc1 : (cu1 == cu2) = true := by simpa using hc
    clear hr hq h1 h2 hB hc hn1 hn2
    go_enter Tryz.func30, Tryz.ntmps30
    go_wp2_with (go_at_call 49; refine He.out.mono ?_; rintro e w1 ⟨rfl, hb1⟩)
    all_goals go_ret
    all_goals exact ⟨rfl, (((Below.refl _ _).alloc (Nat.le_refl _) _).alloc (by simp) _).trans (hb1.mono (by simp; omega))⟩
  · have hq : r = false := by rw [← hr]; exact decide_eq_false fun h => hc (by injection h)
    subst hq
    have hc1 : (cu1 == cu2) = false := by simpa using hc
    clear hr h1 h2 hB hc hn1 hn2 He
    go_enter Tryz.func30, Tryz.ntmps30
    go_wp2_with fail
    go_ret
    exact ⟨rfl, ((Below.refl _ _).alloc (Nat.le_refl _) _).alloc (by simp) _⟩
end Go.Proofs.YtlgkkolgdjgclaaGreat
