/- WholeFar: WlF. -/
import Derived.ClosedOfChecked
import Derived.JoinedOf
import Derived.KernelRfl
import Derived.ProofKit
import Derived.Test.YtpcdcemcjbeajaaGreatDoorRows
import Derived.WalkKit
set_option linter.unusedVariables false
set_option maxRecDepth 100000
namespace Go.Proofs.YtpcdcemcjbeajaaGreatDoor.wholeFar
open Go Go.RowKit
noncomputable abbrev rP : Program := Tryz.pinned.checked.prog
noncomputable abbrev rF : Func := Tryz.f3
noncomputable abbrev rC : OpenClaim := Rows.wholeFarRow
noncomputable abbrev rS : ChangeSpec := Rows.wholeFarSpec
theorem closed23 : laidOutB rP = true ∧ mapsRowed rP = true := have H := ClosedOfChecked.allSpec_of Tryz.pinned.checked.wellFormed (by kernel_rfl); ⟨ClosedOfChecked.laidOutB_of H (by kernel_rfl), ClosedOfChecked.mapsRowed_of H⟩
theorem k2 : laidOutB rP = true := closed23.1
theorem k3 : mapsRowed rP = true := closed23.2
theorem k1 : (rC.wf (OpenSpec.ofChange rS)) = true := by kernel_rfl
theorem k4 : (rF.params.all (rP.readableRec ·)) = true := by kernel_rfl
theorem k5 : (namedTie rP rC.named rS.vars) = true := by kernel_rfl
theorem k6 : ((rC.stops == [])) = true := by kernel_rfl
theorem k7 : ((rP.stops == [])) = true := by kernel_rfl
theorem k8 : ((rC.knobs == [])) = true := by kernel_rfl
theorem k9 : ((rP.stopKnobs == [])) = true := by kernel_rfl
theorem k14 : ((rC.maps == (rF.params.toList ++ rS.plain.varTypes rP).any (rP.mapsRec ·))) = true := by kernel_rfl
theorem k15 : ((rC.ifaces == (rF.params.toList ++ rS.plain.varTypes rP).any (rP.ifacesRec ·))) = true := by kernel_rfl
theorem k16 : ((rC.mapsOut == rP.mapsAmong rF.resultTypes.toList)) = true := by kernel_rfl
theorem k17 : ((rC.loops == (rF.params.toList ++ rS.plain.varTypes rP).any (rP.loopsFrom ·))) = true := by kernel_rfl
theorem k18 : ((rC.wideKeys == (rF.params.toList ++ rS.plain.varTypes rP ++ rF.resultTypes.toList).any (rP.wideKeysFrom ·))) = true := by kernel_rfl
theorem k19 : (rS.vars.all (rP.varReadable ·)) = true := by kernel_rfl
theorem k20 : (rF.resultTypes.all (fun t => rP.readableRec t && decide (t < rP.types.size))) = true := by kernel_rfl
theorem k21 : ((rC.ifacesOut == rF.resultTypes.toList.any (rP.ifacesRec ·))) = true := by kernel_rfl
theorem k22 : ((rC.loopsOut == rF.resultTypes.toList.any (rP.loopsFrom ·))) = true := by kernel_rfl
theorem k23 : ((rC.plainKeys == rP.plainKeys)) = true := by kernel_rfl
theorem k24 : (rC.shortTexts.isNone) = true := by kernel_rfl
theorem k25 : (rP.stopsHeard) = true := by kernel_rfl
theorem k26 : (rP.mayEnter) = true := by kernel_rfl
theorem k27 : ((rC.lifted == rP.liftsFinal)) = true := by kernel_rfl
theorem k28 : ((rP.make == some rC.make)) = true := by kernel_rfl
theorem k29 : ((rC.kinds == (if rC.domain.isEmpty then [] else rF.params.toList.map fun t => match rP.underlying t with | some (.int k) => some k | _ => none))) = true := by kernel_rfl
theorem k30 : ((rC.pinned == rC.pinnedBy)) = true := by kernel_rfl
theorem k31 : ((rC.veiled == (rF.params.toList ++ rS.plain.varTypes rP ++ rF.resultTypes.toList).any (rP.veiledRec ·))) = true := by kernel_rfl
theorem k32 : (rC.veiledFits rP rF.params.toList (rF.params.toList ++ rS.plain.varTypes rP ++ rF.resultTypes.toList)) = true := by kernel_rfl
end Go.Proofs.YtpcdcemcjbeajaaGreatDoor.wholeFar
