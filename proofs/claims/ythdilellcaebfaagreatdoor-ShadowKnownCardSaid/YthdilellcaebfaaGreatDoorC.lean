/- Contracts of package owed's line: the least point. -/
import Derived.Test.YthdilellcaebfaaGreatDoorB
namespace Go.Proofs.YthdilellcaebfaaGreatDoor
open Go.RowKit
set_option linter.unusedVariables false
set_option linter.unusedSimpArgs false

def cmpI (a b : Int) : Int := if a < b then -1 else if b < a then 1 else 0
theorem cmpI_lt {a b : Int} (h : a < b) : decide (cmpI a b < 0) = true := by unfold cmpI; rw [if_pos h]; decide
theorem cmpI_ge {a b : Int} (h : ¬ a < b) : decide (cmpI a b < 0) = false := by unfold cmpI; rw [if_neg h]; split <;> decide

end Go.Proofs.YthdilellcaebfaaGreatDoor
