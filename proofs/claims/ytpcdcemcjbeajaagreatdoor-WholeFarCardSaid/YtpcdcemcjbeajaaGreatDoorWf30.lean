/- WholeFar: FarSf. -/
import Derived.KernelRfl
import Derived.Test.YtpcdcemcjbeajaaGreatDoorWf25
import Derived.Test.YtpcdcemcjbeajaaGreatDoorWf28
set_option maxRecDepth 100000
namespace Go.Proofs.YtpcdcemcjbeajaaGreatDoor
open Go Go.RowKit
theorem ch3 : (fun (n : Nat) (rest : List S) => chn KS 3 (.c 4 1 (n + 5) (bF :: tK 1 :: tK 2 :: tK 3 :: rest)) (n + 5)) = fun _ _ => true := by kernel_rfl
theorem ch3a : chn KS 3 (.c 4 1 4 [bF, tK 1, tK 2, tK 3]) 4 = true := by decide +kernel
end Go.Proofs.YtpcdcemcjbeajaaGreatDoor
