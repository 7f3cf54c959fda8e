/- Package stride: who comes in, who is picked. -/
import Derived.Test.YtlgkkolgdjgclaaGreatQstride
namespace Go.Proofs.YtlgkkolgdjgclaaGreat
open Go.RowKit
set_option linter.unusedVariables false
set_option linter.unusedSimpArgs false

def heldstride (lag : Int) : Int := min lag 0
def pickstride (S : Ln) : Ln × Int × Bool := takeR S (least S.l)
set_option maxHeartbeats 400000 in
theorem Held_stride (lag : Int) (w : World) : Calls Tryz.prog 186 #[.int .i64 lag] w fun e w' => e = .returned (.int .i64 (heldstride lag)) ∧ w = w' := by
  go_enter Tryz.func186, Tryz.ntmps186
  go_wp2
  all_goals go_ret
  all_goals (refine ⟨ret_int ?_, rfl⟩; unfold heldstride; try split)
  all_goals omega
section
variable {w : World} {F : Nat → Prop} {b : Nat} {S S' : Ln} {K : Int}
set_option maxHeartbeats 800000 in
theorem Pick_stride (h : Qm w F b S) (hk : OkS K S) {v : Int} {r : Bool} (hr : pickstride S = (S', v, r)) :
    Calls Tryz.prog 180 #[.pointer (some ⟨b, 0, none⟩)] w fun e w' => e = .returned (.tuple #[.int .i64 v, .bool r]) ∧ QPost w F b S' w' := by
  obtain ⟨T, a, c, hT⟩ := h.cells
  obtain ⟨c0, c1, c2, f0, f1, f2, hlt⟩ := blk3 hT
  unfold pickstride at hr
  have HL := Lib.hid (leastL (w := w.drew) (h.below (Below.refl _ _).drew) hk rfl)
  have H0 := Lib.hid h
  have Hr := Lib.hid hr
  clear h hk hT hr
  cases hz : least S.l with
  | none =>
    rw [hz] at Hr HL
    clear hz
    go_enter Tryz.func180, Tryz.ntmps180
    go_wp2_with fail
    refine wp_region_chain 16 [0, 1, 3, 0, 8, 24, 56, 120, 120, 511, 1023, 1023, 4095, 8191] [(0, none), (1, none), (2, none), (3, none), (4, none), (5, none), (6, some [0, 1, 2]), (7, none), (8, none), (9, some []), (10, none), (11, none), (12, none), (13, none)] (by kernel_rfl) (by kernel_rfl) (by rfl) ?_; simp only [chain, Obs, List.getElem?_toArray, List.getElem?_cons_zero, List.getElem?_cons_succ]
    go_wp2_with (first
      | (with_reducible refine And.intro (by first | with_reducible exact True.intro | with_reducible rfl | go_simp) ?_)
      | (go_at_call 190; refine HL.out.mono ?_; go_loud (simp only [leastV]); rintro e w1 ⟨rfl, hb1⟩; have hb1d := ((Below.refl w.heap.size w).drew).trans (hb1.mono (Nat.le_refl _)))
      | (go_at_call 189; refine (takeL (H0.out.below hb1d) none Hr.out _ _ rfl).mono ?_; rintro e w2 ⟨rfl, hq⟩; have hq := QPost.after hb1d hq))
    refine NoPanic.normal ?_
    go_wp2_with fail
    go_ret2
    exact ⟨rfl, hq⟩
  | some z =>
    rw [hz] at Hr HL
    clear hz
    go_enter Tryz.func180, Tryz.ntmps180
    go_wp2_with fail
    refine wp_region_chain 16 [0, 1, 3, 0, 8, 24, 56, 120, 120, 511, 1023, 1023, 4095, 8191] [(0, none), (1, none), (2, none), (3, none), (4, none), (5, none), (6, some [0, 1, 2]), (7, none), (8, none), (9, some []), (10, none), (11, none), (12, none), (13, none)] (by kernel_rfl) (by kernel_rfl) (by rfl) ?_; simp only [chain, Obs, List.getElem?_toArray, List.getElem?_cons_zero, List.getElem?_cons_succ]
    go_wp2_with (first
      | (with_reducible refine And.intro (by first | with_reducible exact True.intro | with_reducible rfl | go_simp) ?_)
      | (go_at_call 190; refine HL.out.mono ?_; go_loud (simp only [leastV]); rintro e w1 ⟨rfl, hb1⟩; have hb1d := ((Below.refl w.heap.size w).drew).trans (hb1.mono (Nat.le_refl _)))
      | (go_at_call 189; refine (takeL (H0.out.below hb1d) (some z) Hr.out _ _ rfl).mono ?_; rintro e w2 ⟨rfl, hq⟩; have hq := QPost.after hb1d hq))
    refine NoPanic.normal ?_
    go_wp2_with fail
    go_ret2
    exact ⟨rfl, hq⟩
end
end Go.Proofs.YtlgkkolgdjgclaaGreat
