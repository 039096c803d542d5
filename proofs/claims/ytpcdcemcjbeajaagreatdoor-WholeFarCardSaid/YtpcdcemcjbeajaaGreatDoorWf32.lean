/- WholeFar: FarWa, FarWb. -/
import Derived.Test.YtpcdcemcjbeajaaGreatDoorWf31
section
set_option linter.unusedVariables false
set_option linter.unusedSimpArgs false
set_option maxRecDepth 100000
namespace Go.Proofs.YtpcdcemcjbeajaaGreatDoor
open Go Go.RowKit
theorem run_beg : chkF gW (mn 723) wkB (KD (.F 4 begA (setAll begI (emp8 none)) (mn 1))) = true := by decide +kernel
end Go.Proofs.YtpcdcemcjbeajaaGreatDoor
end
section
set_option linter.unusedVariables false
set_option linter.unusedSimpArgs false
set_option maxRecDepth 100000
namespace Go.Proofs.YtpcdcemcjbeajaaGreatDoor
open Go Go.RowKit
theorem run_dA : chkC .n [(0, gW)] (mn 2248) wkD (evC Tryz.prog 63 false (fstC dBody) KD (envFrom [gW] 0 noEnv) (setAll wkS (emp8 none)) (mn 2003) []) = true := by decide +kernel
theorem run_dR : chkC .n (dS 0) (mn 2248) wkD (evC Tryz.prog 63 false (fstC (sndC dBody)) KD (envS [(0, gW)]) (setAll wkD (emp8 none)) (mn 2248) []) = true := by decide +kernel
end Go.Proofs.YtpcdcemcjbeajaaGreatDoor
end
