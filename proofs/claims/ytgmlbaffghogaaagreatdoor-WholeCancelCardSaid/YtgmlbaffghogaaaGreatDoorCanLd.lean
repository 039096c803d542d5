/- The row of WholeCancel: for every input, without conditions, the law returns true and the input reads as it did. -/
import Derived.Test.YtgmlbaffghogaaaGreatDoorCanLc
import Derived.Test.YtgmlbaffghogaaaGreatDoorCanG
import Derived.WalkKit
import Derived.ProofKit
import Derived.OpenShut
import Derived.ShutString
import Derived.ChangeOld
import Derived.Below
import Derived.SizedLaws
import Derived.LaidMore
import Derived.Stop.Joined
set_option linter.unusedVariables false
namespace Go.Proofs.YtgmlbaffghogaaaGreatDoor.wholeCancel
open Go.ChangeShapes Go.WideShapes Go.ChangeAt Go.RowKit
theorem over : Rows.wholeCancelRow.holds Tryz.pinned (OpenSpec.ofChange Rows.wholeCancelSpec) :=
  OpenClaim.holds_of_wide 3 Tryz.f3 rfl rfl rfl rfl rfl rfl rfl ⟨rfl, rfl, rfl, rfl, rfl⟩ rfl rfl rfl rfl rfl (by kernel_rfl) Tryz.func3 closed
    (of_decide_eq_true (by kernel_rfl)) (by unfold Func.isWrapper; first | (rw [if_pos (by decide +kernel)]; kernel_rfl) | (rw [if_neg (by decide +kernel)]; exact ⟨rfl, rfl⟩))
    (fun os started H enc _ => lifted os started H enc)
end Go.Proofs.YtgmlbaffghogaaaGreatDoor.wholeCancel
