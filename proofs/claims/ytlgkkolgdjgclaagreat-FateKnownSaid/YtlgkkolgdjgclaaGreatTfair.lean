/- Package fair: Enter. -/
import Derived.Test.YtlgkkolgdjgclaaGreatfair
namespace Go.Proofs.YtlgkkolgdjgclaaGreat
open Go.RowKit
set_option linter.unusedVariables false
set_option linter.unusedSimpArgs false
theorem held_may_fair {l : List Pt} {id tw lag : Int} (h : mayE l id tw lag = 0) (hl : l.length ≤ 64) : mayE l id tw (heldfair lag) = 0 := by
  obtain ⟨h1, h2, h3⟩ := mayE_zero hl h
  have := mayB_true h1
  have hm : mayB id tw (heldfair lag) = true := by unfold mayB heldfair; simp only [decide_eq_true_eq]; omega
  have ha : l.any (isId id) = false := by
    rw [List.any_eq_false]; intro x hx; have := h2 x hx; simpa [isId] using this
  unfold mayE
  rw [if_pos hm, ha, if_neg (by simp), if_neg (by omega)]
section
variable {w : World} {F : Nat → Prop} {b : Nat} {S : Ln} {K : Int}
set_option maxHeartbeats 800000 in
theorem Enter_fair (h : Qm w F b S) (hk : OkS K S) (hK : K ≤ 1151795604700004352) (id tw lag : Int) {r : Int} (hr : mayE S.l id tw lag = r) :
    Calls Tryz.prog 217 #[.pointer (some ⟨b, 0, none⟩), .int .i64 id, .int .i64 tw, .int .i64 lag] w fun e w' => e = .returned (.int .i64 r) ∧ QPost w F b (enterR heldfair S id tw lag) w' := by
  obtain ⟨T, a, c, hT⟩ := h.cells
  obtain ⟨c0, c1, c2, f0, f1, f2, hlt⟩ := blk3 hT
  have HM := Lib.hid (mayL h hk id tw lag hr)
  have H0 := Lib.hid h
  by_cases h0 : r = 0
  · subst h0
    have hp : enterR heldfair S id tw lag = putR S id tw (heldfair lag) := by unfold enterR; rw [if_pos hr]
    rw [hp]
    have HP := Lib.hid (fun W (hW : Qm W F b S) => putL hW hk hK id tw (heldfair lag) (held_may_fair hr hk.len))
    clear h hk hr hT hp
    go_enter Tryz.func217, Tryz.ntmps217
    go_wp2_with (go_at_call 184; refine HM.out.mono ?_; rintro e w1 ⟨rfl, hb1⟩; have hb1 := hb1.drew)
    refine wp_region_chain 28 [0, 1, 3, 0, 0, 0, 32, 127, 255] [(0, none), (1, none), (2, none), (3, none), (4, none), (5, none), (6, some [0, 1, 2, 3, 4]), (7, some []), (8, none)] (by kernel_rfl) (by kernel_rfl) (by rfl) ?_; simp only [chain, Obs, List.getElem?_toArray, List.getElem?_cons_zero, List.getElem?_cons_succ]
    go_wp2_with (first
      | (with_reducible refine And.intro (by first | with_reducible exact True.intro | with_reducible rfl | go_simp) ?_)
      | (go_at_call 223; refine (Held_fair _ _).mono ?_; rintro e w2 ⟨rfl, rfl⟩; have hb12 := hb1)
      | (go_at_call 185; refine (HP.out _ (H0.out.below hb12)).mono ?_; rintro e w3 ⟨rfl, hq⟩; have hq := QPost.after hb12 hq))
    refine NoPanic.normal ?_
    go_wp2_with fail
    go_ret
    exact ⟨rfl, hq⟩
  · have hp : enterR heldfair S id tw lag = S := by unfold enterR; rw [if_neg (by rw [hr]; exact h0)]
    rw [hp]
    have hne : (r != 0) = true := by simpa using h0
    have hne' : (r == 0) = false := by simpa using h0
    clear h hk hr hT hp
    go_enter Tryz.func217, Tryz.ntmps217
    go_wp2_with (go_at_call 184; refine HM.out.mono ?_; rintro e w1 ⟨rfl, hb1⟩)
    go_ret
    exact ⟨rfl, H0.out.post hb1⟩
end
end Go.Proofs.YtlgkkolgdjgclaaGreat
