/- WholeCancel: a run, by the kernel. -/
import Derived.Test.YtgmlbaffghogaaaGreatDoorCanD
set_option linter.unusedVariables false
set_option linter.unusedSimpArgs false
set_option maxRecDepth 100000
namespace Go.Proofs.YtgmlbaffghogaaaGreatDoor
open Go Go.RowKit
theorem run_dA : chkC .n [(0, gV)] m2248 d0E (evC Tryz.prog 63 false (fstC dBody) K1 (envFrom [gV] 0 noEnv) (setAll s1E (emp8 none)) m2003 []) = true := by decide +kernel
theorem run_dR : chkC .n (dS 0) m2248 d0E (evC Tryz.prog 63 false (fstC (sndC dBody)) K1 (envS [(0, gV)]) (setAll d0E (emp8 none)) m2248 []) = true := by decide +kernel
end Go.Proofs.YtgmlbaffghogaaaGreatDoor
