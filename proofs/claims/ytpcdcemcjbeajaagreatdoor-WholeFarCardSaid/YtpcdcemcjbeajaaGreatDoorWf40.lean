/- WholeFar: WlLe. -/
import Derived.Below
import Derived.ChangeOld
import Derived.LaidMore
import Derived.OpenShut
import Derived.ProofKit
import Derived.ShutString
import Derived.SizedLaws
import Derived.Stop.Joined
import Derived.Test.YtpcdcemcjbeajaaGreatDoorRows
import Derived.WalkKit
set_option linter.unusedVariables false
namespace Go.Proofs.YtpcdcemcjbeajaaGreatDoor.wholeFar
open Go.ChangeShapes Go.WideShapes Go.ChangeAt Go.RowKit
noncomputable abbrev doorX (os : Os) (args : Array Value) : World := (World.doorLaid Tryz.prog 400 os).forCall (fun _ _ => 0) ⟨#[], args, []⟩
abbrev args1 : Array Value := #[.slice none 0 0, .slice none 0 0, .slice none 0 0]
theorem first (os : Os) (H : Type) (enc : TypeId × Value → H) : Input.okWideB Tryz.prog (doorX os args1) 3 ⟨#[], args1, []⟩ = true ∧ Rows.wholeFarSpec.preB enc Tryz.prog Tryz.f3 [] false (doorX os args1).memory args1 8 = true ∧ Rows.wholeFarSpec.sizedB enc Tryz.prog Tryz.f3 false (doorX os args1).memory args1 8 = true :=
  ⟨by kernel_rfl, by kernel_rfl, by kernel_rfl⟩
end Go.Proofs.YtpcdcemcjbeajaaGreatDoor.wholeFar
