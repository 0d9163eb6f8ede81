/-
  A slice of strings that came in, as the walks want it: its texts, what its cells hold, and how long they are. No condition.
-/
import Derived.SliceStrings
import Derived.Carry
import Derived.ChangeOld
import Derived.SizedLaws
import Derived.ProofKit
import Derived.Test.YteahlapoeiikoaaDoorJoin0

namespace Go.Proofs.YteahlapoeiikoaaDoor.Seat
open Go.ChangeShapes Go.WideShapes Go.ChangeAt Go.RowKit Go.Proofs.YteahlapoeiikoaaDoorW.PrintWords
set_option linter.unusedVariables false

end Go.Proofs.YteahlapoeiikoaaDoor.Seat
