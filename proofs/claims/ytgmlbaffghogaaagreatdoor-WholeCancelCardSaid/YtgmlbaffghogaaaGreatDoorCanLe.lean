/- WholeCancel's row: a first call, in that heap. -/
import Derived.Test.YtgmlbaffghogaaaGreatDoorRows
import Derived.WalkKit
import Derived.ProofKit
import Derived.OpenShut
import Derived.ShutString
import Derived.ChangeOld
import Derived.Below
import Derived.SizedLaws
import Derived.LaidMore
import Derived.Stop.Joined
set_option linter.unusedVariables false
namespace Go.Proofs.YtgmlbaffghogaaaGreatDoor.wholeCancel
open Go.ChangeShapes Go.WideShapes Go.ChangeAt Go.RowKit
noncomputable abbrev doorX (os : Os) (args : Array Value) : World := (World.doorLaid Tryz.prog 400 os).forCall (fun _ _ => 0) ⟨#[], args, []⟩
abbrev args1 : Array Value := #[.bool false, .int .u8 0, .bool false]
theorem first (os : Os) (H : Type) (enc : TypeId × Value → H) : Input.okWideB Tryz.prog (doorX os args1) 3 ⟨#[], args1, []⟩ = true ∧ Rows.wholeCancelSpec.preB enc Tryz.prog Tryz.f3 [] false (doorX os args1).memory args1 8 = true ∧ Rows.wholeCancelSpec.sizedB enc Tryz.prog Tryz.f3 false (doorX os args1).memory args1 8 = true :=
  ⟨by kernel_rfl, by kernel_rfl, by kernel_rfl⟩
end Go.Proofs.YtgmlbaffghogaaaGreatDoor.wholeCancel
