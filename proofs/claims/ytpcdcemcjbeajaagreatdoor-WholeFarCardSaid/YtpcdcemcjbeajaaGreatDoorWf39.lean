/- WholeFar: WlLb. -/
import Derived.Below
import Derived.ChangeOld
import Derived.LaidMore
import Derived.OpenShut
import Derived.ProofKit
import Derived.ShutString
import Derived.SizedLaws
import Derived.Stop.Joined
import Derived.Test.YtpcdcemcjbeajaaGreatDoorRows
import Derived.WalkKit
set_option linter.unusedVariables false
namespace Go.Proofs.YtpcdcemcjbeajaaGreatDoor.wholeFar
open Go.ChangeShapes Go.WideShapes Go.ChangeAt Go.RowKit
noncomputable abbrev doorW (os : Os) (args : Array Value) : World := (World.doorLaid Tryz.prog 400 os).forCall (fun _ _ => 0) ⟨#[], args, []⟩
abbrev args0 : Array Value := #[.slice none 0 0, .slice none 0 0, .slice none 0 0]
theorem shaped (os : Os) : (doorW os args0).Shaped Tryz.prog := World.shaped_of_RefB (by kernel_rfl) (by kernel_rfl)
end Go.Proofs.YtpcdcemcjbeajaaGreatDoor.wholeFar
