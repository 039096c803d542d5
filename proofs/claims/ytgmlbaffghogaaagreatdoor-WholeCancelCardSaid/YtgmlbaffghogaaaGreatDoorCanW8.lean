/- WholeCancel: a run, by the kernel. -/
import Derived.Test.YtgmlbaffghogaaaGreatDoorCanD
set_option linter.unusedVariables false
set_option linter.unusedSimpArgs false
set_option maxRecDepth 100000
namespace Go.Proofs.YtgmlbaffghogaaaGreatDoor
open Go Go.RowKit
theorem run_f1f : chkG (.s (.b true)) [] (K3 (.F 3 [.s (.b false), .s (.x (.par .u8 1)), .s (.b false)] (emp8 none) m0)) = true := by decide +kernel
end Go.Proofs.YtgmlbaffghogaaaGreatDoor
