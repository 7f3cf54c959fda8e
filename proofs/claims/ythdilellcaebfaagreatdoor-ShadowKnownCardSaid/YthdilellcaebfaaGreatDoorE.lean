/- Contracts of package owed's line: charging, weighing, telling. -/
import Derived.Test.YthdilellcaebfaaGreatDoorD
import Derived.Deep.DeepCutAuto
import Derived.KernelRfl
import Derived.Deep.CutBlock
namespace Go.Proofs.YthdilellcaebfaaGreatDoor
open Go.RowKit
set_option linter.unusedVariables false
set_option linter.unusedSimpArgs false

end Go.Proofs.YthdilellcaebfaaGreatDoor
