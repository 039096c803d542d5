/- WholeFar: WlLa. -/
import Derived.Below
import Derived.ChangeOld
import Derived.LaidMore
import Derived.OpenShut
import Derived.ProofKit
import Derived.ShutString
import Derived.SizedLaws
import Derived.Stop.Joined
import Derived.Test.YtpcdcemcjbeajaaGreatDoorRows
import Derived.WalkKit
set_option linter.unusedVariables false
namespace Go.Proofs.YtpcdcemcjbeajaaGreatDoor.wholeFar
open Go.ChangeShapes Go.WideShapes Go.ChangeAt Go.RowKit
theorem own : ownKnob Tryz.prog.godebug = none := by kernel_rfl
abbrev laid3 : List (String × DataW Unit) := Rows.wholeFarRow.laid
theorem door_met (os : Os) (args : Array Value) : laidMetH Tryz.prog laid3 ((World.doorLaid Tryz.prog 400 os).forCall (fun _ _ => 0) ⟨#[], args, []⟩).memory :=
  laidMetH_of_parts3 (fuel := 8) (laidMet_of_run' 8 (by kernel_rfl) (by kernel_rfl)) (by kernel_rfl) (by kernel_rfl)
end Go.Proofs.YtpcdcemcjbeajaaGreatDoor.wholeFar
