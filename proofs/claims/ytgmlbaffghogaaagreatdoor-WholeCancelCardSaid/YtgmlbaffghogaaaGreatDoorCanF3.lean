/- WholeCancel's row: a closed fact. -/
import Derived.Test.YtgmlbaffghogaaaGreatDoorCanF
set_option linter.unusedVariables false
set_option maxRecDepth 100000
namespace Go.Proofs.YtgmlbaffghogaaaGreatDoor.wholeCancel
open Go Go.RowKit
theorem k12 : ((rC.recurses == rP.recurses 3)) = true := by kernel_rfl
end Go.Proofs.YtgmlbaffghogaaaGreatDoor.wholeCancel
