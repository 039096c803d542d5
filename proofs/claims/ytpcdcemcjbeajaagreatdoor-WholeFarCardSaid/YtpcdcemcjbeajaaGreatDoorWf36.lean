/- WholeFar: FarWg. -/
import Derived.Test.YtpcdcemcjbeajaaGreatDoorWf31
set_option linter.unusedVariables false
set_option linter.unusedSimpArgs false
set_option maxRecDepth 100000
namespace Go.Proofs.YtpcdcemcjbeajaaGreatDoor
open Go Go.RowKit
theorem run_rest : chkF (.t []) (mn 20269) wkR (KD (.F 16 [gW] (setAll wkD (emp8 none)) (mn 19258))) = true := by decide +kernel
theorem run_wk : chkG (.s (.b true)) [] (KW (.F 5 [] (emp8 none) (mn 0))) = true := by decide +kernel
end Go.Proofs.YtpcdcemcjbeajaaGreatDoor
