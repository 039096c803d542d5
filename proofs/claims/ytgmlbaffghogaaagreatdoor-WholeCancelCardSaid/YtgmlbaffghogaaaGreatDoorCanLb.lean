/- WholeCancel's row: that heap is in shape. -/
import Derived.Test.YtgmlbaffghogaaaGreatDoorRows
import Derived.WalkKit
import Derived.ProofKit
import Derived.OpenShut
import Derived.ShutString
import Derived.ChangeOld
import Derived.Below
import Derived.SizedLaws
import Derived.LaidMore
import Derived.Stop.Joined
set_option linter.unusedVariables false
namespace Go.Proofs.YtgmlbaffghogaaaGreatDoor.wholeCancel
open Go.ChangeShapes Go.WideShapes Go.ChangeAt Go.RowKit
noncomputable abbrev doorW (os : Os) (args : Array Value) : World := (World.doorLaid Tryz.prog 400 os).forCall (fun _ _ => 0) ⟨#[], args, []⟩
abbrev args0 : Array Value := #[.bool false, .int .u8 0, .bool false]
theorem shaped (os : Os) : (doorW os args0).Shaped Tryz.prog := World.shaped_of_RefB (by kernel_rfl) (by kernel_rfl)
end Go.Proofs.YtgmlbaffghogaaaGreatDoor.wholeCancel
