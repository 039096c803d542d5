/- WholeFar: WlG. -/
import Derived.Test.YtpcdcemcjbeajaaGreatDoorWf42
import Derived.Test.YtpcdcemcjbeajaaGreatDoorWf43
import Derived.Test.YtpcdcemcjbeajaaGreatDoorWf44
import Derived.Test.YtpcdcemcjbeajaaGreatDoorWf45
set_option linter.unusedVariables false
set_option maxRecDepth 100000
namespace Go.Proofs.YtpcdcemcjbeajaaGreatDoor.wholeFar
open Go Go.RowKit
theorem and_t {a b : Bool} (ha : a = true) (hb : b = true) : (a && b) = true := by rw [ha, hb]; rfl
theorem closed : joinedFacts Tryz.pinned.checked.prog 3 Tryz.f3 Rows.wholeFarSpec Rows.wholeFarRow = true := (and_t (and_t (and_t (and_t (and_t (and_t (and_t (and_t (and_t (and_t (and_t (and_t (and_t (and_t (and_t (and_t (and_t (and_t (and_t (and_t (and_t (and_t (and_t (and_t (and_t (and_t (and_t (and_t (and_t (and_t (and_t k1 k2) k3) k4) k5) k6) k7) k8) k9) k10) k11) k12) k13) k14) k15) k16) k17) k18) k19) k20) k21) k22) k23) k24) k25) k26) k27) k28) k29) k30) k31) k32)
end Go.Proofs.YtpcdcemcjbeajaaGreatDoor.wholeFar
