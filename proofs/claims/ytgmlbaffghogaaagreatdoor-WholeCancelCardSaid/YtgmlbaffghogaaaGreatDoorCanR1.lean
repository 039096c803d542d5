/- WholeCancel: a run, by the kernel. -/
import Derived.Test.YtgmlbaffghogaaaGreatDoorCanD
set_option linter.unusedVariables false
set_option linter.unusedSimpArgs false
set_option maxRecDepth 100000
namespace Go.Proofs.YtgmlbaffghogaaaGreatDoor
open Go Go.RowKit
theorem run_dec : chkG (decV m152 m17 m98 m109 m151 m35 m46 m57 m68 m85 m96 m127 m138 m149) ((m0, formO) :: decE m152 m17 m98 m109 m151 m35 m46 m57 m68 m85 m96 m127 m138 m149) (K0 (.F 64 [.s (.l m0 0 343 0 true)] (set8 m0 (some formO) (emp8 none)) m1)) = true := by decide +kernel
end Go.Proofs.YtgmlbaffghogaaaGreatDoor
