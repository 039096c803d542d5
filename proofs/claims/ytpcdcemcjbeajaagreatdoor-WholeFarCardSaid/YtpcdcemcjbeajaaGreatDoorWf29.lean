/- WholeFar: FarSe. -/
import Derived.Test.YtpcdcemcjbeajaaGreatDoorWf25
import Derived.Test.YtpcdcemcjbeajaaGreatDoorWf28
set_option maxRecDepth 100000
namespace Go.Proofs.YtpcdcemcjbeajaaGreatDoor
open Go Go.RowKit
theorem ch0 : chn KA 0 (.c 4 1 1 [bF]) 1 = true := by decide +kernel
theorem ch2 : chn KA 2 (.c 4 1 3 [bF, tK 1, tK 2]) 3 = true := by decide +kernel
end Go.Proofs.YtpcdcemcjbeajaaGreatDoor
