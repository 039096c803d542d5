/- WholeFar: WlF1. -/
import Derived.Test.YtpcdcemcjbeajaaGreatDoorWf41
set_option linter.unusedVariables false
set_option maxRecDepth 100000
namespace Go.Proofs.YtpcdcemcjbeajaaGreatDoor.wholeFar
open Go Go.RowKit
theorem k10 : ((rC.inPlace == rP.inPlace 3)) = true := by kernel_rfl
end Go.Proofs.YtpcdcemcjbeajaaGreatDoor.wholeFar
