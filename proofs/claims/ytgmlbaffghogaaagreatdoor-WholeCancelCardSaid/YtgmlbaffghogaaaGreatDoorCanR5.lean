/- WholeCancel: a run, by the kernel. -/
import Derived.Test.YtgmlbaffghogaaaGreatDoorCanD
set_option linter.unusedVariables false
set_option linter.unusedSimpArgs false
set_option maxRecDepth 100000
namespace Go.Proofs.YtgmlbaffghogaaaGreatDoor
open Go Go.RowKit
theorem run_l1 : chkC .n (dS 24) m8080 d0E (iterK Tryz.prog 63 false dLoop K1 24 (envS (dS 0)) (setAll d0E (emp8 none)) m2248 []) = true := by decide +kernel
end Go.Proofs.YtgmlbaffghogaaaGreatDoor
