/- Package fair: Enter. -/
import Derived.Test.YthdilellcaebfaaGreatDoorfair
namespace Go.Proofs.YthdilellcaebfaaGreatDoor
open Go.RowKit
set_option linter.unusedVariables false
set_option linter.unusedSimpArgs false
theorem held_may_fair {l : List Pt} {id tw lag : Int} (h : mayE l id tw lag = 0) (hl : l.length ≤ 64) : mayE l id tw (heldfair lag) = 0 := by
  obtain ⟨h1, h2, h3⟩ := mayE_zero hl h
  have := mayB_true h1
  have hm : mayB id tw (heldfair lag) = true := by unfold mayB heldfair; simp only [decide_eq_true_eq]; omega
  have ha : l.any (isId id) = false := by
    rw [List.any_eq_false]; intro x hx; have := h2 x hx; simpa [isId] using this
  unfold mayE
  rw [if_pos hm, ha, if_neg (by simp), if_neg (by omega)]
section
variable {w : World} {F : Nat → Prop} {b : Nat} {S : Ln} {K : Int}
end
end Go.Proofs.YthdilellcaebfaaGreatDoor
