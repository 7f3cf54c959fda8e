/- Package stride: who comes in, who is picked. -/
import Derived.Test.YthdilellcaebfaaGreatDoorQstride
namespace Go.Proofs.YthdilellcaebfaaGreatDoor
open Go.RowKit
set_option linter.unusedVariables false
set_option linter.unusedSimpArgs false

def heldstride (lag : Int) : Int := min lag 0
def pickstride (S : Ln) : Ln × Int × Bool := takeR S (least S.l)
section
variable {w : World} {F : Nat → Prop} {b : Nat} {S S' : Ln} {K : Int}
end
end Go.Proofs.YthdilellcaebfaaGreatDoor
