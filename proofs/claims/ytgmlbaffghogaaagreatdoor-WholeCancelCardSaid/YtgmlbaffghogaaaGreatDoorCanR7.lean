/- WholeCancel: a run, by the kernel. -/
import Derived.Test.YtgmlbaffghogaaaGreatDoorCanD
set_option linter.unusedVariables false
set_option linter.unusedSimpArgs false
set_option maxRecDepth 100000
namespace Go.Proofs.YtgmlbaffghogaaaGreatDoor
open Go Go.RowKit
theorem run_l3 : chkC (.x 6) [] m19258 d0E (evC Tryz.prog 63 false (.loop dLoop) K1 (envS (dS 48)) (setAll d0E (emp8 none)) m13912 []) = true := by decide +kernel
end Go.Proofs.YtgmlbaffghogaaaGreatDoor
