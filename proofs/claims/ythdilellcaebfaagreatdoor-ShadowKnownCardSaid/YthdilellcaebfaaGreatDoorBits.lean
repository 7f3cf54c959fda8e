/- Words of 64 bits: a product's halves, a sum's carry; a number held between two. -/
import Derived.Test.YthdilellcaebfaaGreatDoorA
import Derived.Test.YthdilellcaebfaaGreatDoorProg
import Derived.Lib.Mul64
import Derived.Laws.Bits64b
import Derived.Laws.Externs
namespace Go.Proofs.YthdilellcaebfaaGreatDoor
open Go.RowKit
set_option linter.unusedVariables false
set_option linter.unusedSimpArgs false

end Go.Proofs.YthdilellcaebfaaGreatDoor
