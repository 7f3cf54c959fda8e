/- Package fair: who comes in, who is picked. -/
import Derived.Test.YthdilellcaebfaaGreatDoorQfair
import Derived.Test.YthdilellcaebfaaGreatDoorPickM
namespace Go.Proofs.YthdilellcaebfaaGreatDoor
open Go.RowKit
set_option linter.unusedVariables false
set_option linter.unusedSimpArgs false

section
variable {w : World} {F : Nat → Prop} {b : Nat} {S S' : Ln} {K : Int}
end
end Go.Proofs.YthdilellcaebfaaGreatDoor
