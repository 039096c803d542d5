/- WholeFar: FarWe. -/
import Derived.Test.YtpcdcemcjbeajaaGreatDoorWf31
set_option linter.unusedVariables false
set_option linter.unusedSimpArgs false
set_option maxRecDepth 100000
namespace Go.Proofs.YtpcdcemcjbeajaaGreatDoor
open Go Go.RowKit
theorem run_l2 : chkC .n (dS 48) (mn 13912) wkD (iterK Tryz.prog 63 false dLoop KD 24 (envS (dS 24)) (setAll wkD (emp8 none)) (mn 8080) []) = true := by decide +kernel
end Go.Proofs.YtpcdcemcjbeajaaGreatDoor
