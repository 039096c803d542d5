/- WholeCancel: a run, by the kernel. -/
import Derived.Test.YtgmlbaffghogaaaGreatDoorCanD
set_option linter.unusedVariables false
set_option linter.unusedSimpArgs false
set_option maxRecDepth 100000
namespace Go.Proofs.YtgmlbaffghogaaaGreatDoor
open Go Go.RowKit
theorem run_begF : chkF gV m723 bfE (K1 (.F 4 begVs (setAll (inB2 false) (emp8 none)) m1)) = true := by decide +kernel
end Go.Proofs.YtgmlbaffghogaaaGreatDoor
