/- WholeCancel: a run, by the kernel. -/
import Derived.Test.YtgmlbaffghogaaaGreatDoorCanD
set_option linter.unusedVariables false
set_option linter.unusedSimpArgs false
set_option maxRecDepth 100000
namespace Go.Proofs.YtgmlbaffghogaaaGreatDoor
open Go Go.RowKit
theorem run_rest : chkF (.t []) m20269 r4E (K1 (.F 20 [gV] (setAll d0E (emp8 none)) m19258)) = true := by decide +kernel
end Go.Proofs.YtgmlbaffghogaaaGreatDoor
