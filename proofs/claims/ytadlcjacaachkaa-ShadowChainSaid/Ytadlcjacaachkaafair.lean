/- Package fair: who comes in, who is picked. -/
import Derived.Test.YtadlcjacaachkaaQfair
import Derived.Test.YtadlcjacaachkaaPickM
namespace Go.Proofs.Ytadlcjacaachkaa
open Go.RowKit
set_option linter.unusedVariables false
set_option linter.unusedSimpArgs false

section
variable {w : World} {F : Nat → Prop} {b : Nat} {S S' : Ln} {K : Int}
end
end Go.Proofs.Ytadlcjacaachkaa
