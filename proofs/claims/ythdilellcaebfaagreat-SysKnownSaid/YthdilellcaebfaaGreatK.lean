/- Package owed: Same; the line's making. -/
import Derived.Test.YthdilellcaebfaaGreatJ
namespace Go.Proofs.YthdilellcaebfaaGreat
open Go.RowKit
set_option linter.unusedVariables false
set_option linter.unusedSimpArgs false

theorem It.ext' {x y : It} (h1 : x.id = y.id) (h2 : x.w = y.w) (h3 : x.lag = y.lag) : x = y := by cases x; cases y; simp at h1 h2 h3; simp [h1, h2, h3]

end Go.Proofs.YthdilellcaebfaaGreat
