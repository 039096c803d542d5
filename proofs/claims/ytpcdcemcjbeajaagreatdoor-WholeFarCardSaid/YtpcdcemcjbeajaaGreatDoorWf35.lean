/- WholeFar: FarWf. -/
import Derived.Test.YtpcdcemcjbeajaaGreatDoorWf31
set_option linter.unusedVariables false
set_option linter.unusedSimpArgs false
set_option maxRecDepth 100000
namespace Go.Proofs.YtpcdcemcjbeajaaGreatDoor
open Go Go.RowKit
theorem run_l3 : chkC (.x 6) [] (mn 19258) wkD (evC Tryz.prog 63 false (.loop dLoop) KD (envS (dS 48)) (setAll wkD (emp8 none)) (mn 13912) []) = true := by decide +kernel
end Go.Proofs.YtpcdcemcjbeajaaGreatDoor
