/-
  No cell of these rows narrows 'for every input' (looked for: loops, veiled, ifaces, maps, wideKeys, modest, calm, conditions, laid).
  DERIVED. THE GIVEN ROWS OF THIS SEAT. 6 by the template 'for every input the law returns true; each argument reads behind the call as it read before'; 0 by the template 'total and deterministic' (their statements: YtjaibkfmkhfjfaaTotals.lean).
  GIVEN WITH THE SEED: the statements are not yours to turn. If you find one false, say at which input.
  Laid BY PROGRAM, IN A SANDBOX (cutbox-rows.mjs): the forced cells as the released guide's own fill.sh prints them over the translation 88e1f4e5ae904d77… (all of the seat's roots in one cut). By AI agents, Wed Nov 11 2026. No macro, syntax, notation, axiom, sorry.
-/
import Derived.Test.YtjaibkfmkhfjfaaChecked
import GoSem.Claim
import GoSem.ClaimJoined
import GoSem.ClaimMapViews
import Derived.JoinedTies
import Derived.KernelRfl
namespace Go.Proofs.Ytjaibkfmkhfjfaa
/- THE CELL 'sum', in the pinned program and in every row, IS THE sha256 OF THE DUMP (.gsa) THAT YtjaibkfmkhfjfaaProg.lean LOADS. Nothing in Lean hashes anything: it is a label: what it is worth is what the hold of that sum in a sandbox is worth. -/
noncomputable def Try.pinned : Pinned := { name := "ytjaibkfmkhfjfaa", sum := "88e1f4e5ae904d77686d992c043240d537155c01ce242a6ef31d649cbef52171", checked := Try.checked }
namespace Rows
def none {H : Type} : Left H := { results := [], args := [] }

/-- 'tenonlaw04.FacesChecks': WHATEVER THE INPUT: true; the input reads as it did. -/
def facesChecksSpec : ChangeSpec := { name := "facesChecks", fn := fun _ => fun
  | [d] => { results := [.lit (.bool true)], args := [d] }
  | _ => none }
def facesChecksRow : OpenClaim := { program := "ytjaibkfmkhfjfaa", sum := "88e1f4e5ae904d77686d992c043240d537155c01ce242a6ef31d649cbef52171", func := "tenon/tenonlaw04.FacesChecks", spec := "facesChecks", unfollowed := true, recurses := true, apart := false }
def FacesChecksSaid : Prop := facesChecksRow.holds Try.pinned (OpenSpec.ofChange facesChecksSpec)

/-- ITS FALSE NEIGHBOUR: 'it returns false'. Refute it at one input. -/
def facesChecksWrong : ChangeSpec := { name := "facesChecks", fn := fun _ => fun
  | [d] => { results := [.lit (.bool false)], args := [d] }
  | _ => none }
def FacesChecksWrongFalsely : Prop := facesChecksRow.holds Try.pinned (OpenSpec.ofChange facesChecksWrong)

/-- 'tenonlaw04.FacesLines': WHATEVER THE INPUT: true; the input reads as it did. -/
def facesLinesSpec : ChangeSpec := { name := "facesLines", fn := fun _ => fun
  | [d1, d2, d3] => { results := [.lit (.bool true)], args := [d1, d2, d3] }
  | _ => none }
def facesLinesRow : OpenClaim := { program := "ytjaibkfmkhfjfaa", sum := "88e1f4e5ae904d77686d992c043240d537155c01ce242a6ef31d649cbef52171", func := "tenon/tenonlaw04.FacesLines", spec := "facesLines", unfollowed := true, recurses := true, apart := false }
def FacesLinesSaid : Prop := facesLinesRow.holds Try.pinned (OpenSpec.ofChange facesLinesSpec)

/-- ITS FALSE NEIGHBOUR: 'it returns false'. Refute it at one input. -/
def facesLinesWrong : ChangeSpec := { name := "facesLines", fn := fun _ => fun
  | [d1, d2, d3] => { results := [.lit (.bool false)], args := [d1, d2, d3] }
  | _ => none }
def FacesLinesWrongFalsely : Prop := facesLinesRow.holds Try.pinned (OpenSpec.ofChange facesLinesWrong)

/-- 'tenonlaw04.FacesPrefix': WHATEVER THE INPUT: true; the input reads as it did. -/
def facesPrefixSpec : ChangeSpec := { name := "facesPrefix", fn := fun _ => fun
  | [d1, d2, d3] => { results := [.lit (.bool true)], args := [d1, d2, d3] }
  | _ => none }
def facesPrefixRow : OpenClaim := { program := "ytjaibkfmkhfjfaa", sum := "88e1f4e5ae904d77686d992c043240d537155c01ce242a6ef31d649cbef52171", func := "tenon/tenonlaw04.FacesPrefix", spec := "facesPrefix", unfollowed := true, recurses := true, apart := false }
def FacesPrefixSaid : Prop := facesPrefixRow.holds Try.pinned (OpenSpec.ofChange facesPrefixSpec)

/-- ITS FALSE NEIGHBOUR: 'it returns false'. Refute it at one input. -/
def facesPrefixWrong : ChangeSpec := { name := "facesPrefix", fn := fun _ => fun
  | [d1, d2, d3] => { results := [.lit (.bool false)], args := [d1, d2, d3] }
  | _ => none }
def FacesPrefixWrongFalsely : Prop := facesPrefixRow.holds Try.pinned (OpenSpec.ofChange facesPrefixWrong)

/-- 'tenonlaw04.FacesCommon': WHATEVER THE INPUT: true; the input reads as it did. -/
def facesCommonSpec : ChangeSpec := { name := "facesCommon", fn := fun _ => fun
  | [d1, d2, d3, d4] => { results := [.lit (.bool true)], args := [d1, d2, d3, d4] }
  | _ => none }
def facesCommonRow : OpenClaim := { program := "ytjaibkfmkhfjfaa", sum := "88e1f4e5ae904d77686d992c043240d537155c01ce242a6ef31d649cbef52171", func := "tenon/tenonlaw04.FacesCommon", spec := "facesCommon", unfollowed := true, recurses := true, apart := false }
def FacesCommonSaid : Prop := facesCommonRow.holds Try.pinned (OpenSpec.ofChange facesCommonSpec)

/-- ITS FALSE NEIGHBOUR: 'it returns false'. Refute it at one input. -/
def facesCommonWrong : ChangeSpec := { name := "facesCommon", fn := fun _ => fun
  | [d1, d2, d3, d4] => { results := [.lit (.bool false)], args := [d1, d2, d3, d4] }
  | _ => none }
def FacesCommonWrongFalsely : Prop := facesCommonRow.holds Try.pinned (OpenSpec.ofChange facesCommonWrong)

/-- 'tenonlaw04.FacesRight': WHATEVER THE INPUT: true; the input reads as it did. -/
def facesRightSpec : ChangeSpec := { name := "facesRight", fn := fun _ => fun
  | [d1, d2, d3, d4] => { results := [.lit (.bool true)], args := [d1, d2, d3, d4] }
  | _ => none }
def facesRightRow : OpenClaim := { program := "ytjaibkfmkhfjfaa", sum := "88e1f4e5ae904d77686d992c043240d537155c01ce242a6ef31d649cbef52171", func := "tenon/tenonlaw04.FacesRight", spec := "facesRight", unfollowed := true, recurses := true, apart := false }
def FacesRightSaid : Prop := facesRightRow.holds Try.pinned (OpenSpec.ofChange facesRightSpec)

/-- ITS FALSE NEIGHBOUR: 'it returns false'. Refute it at one input. -/
def facesRightWrong : ChangeSpec := { name := "facesRight", fn := fun _ => fun
  | [d1, d2, d3, d4] => { results := [.lit (.bool false)], args := [d1, d2, d3, d4] }
  | _ => none }
def FacesRightWrongFalsely : Prop := facesRightRow.holds Try.pinned (OpenSpec.ofChange facesRightWrong)

/-- 'tenonlaw04.FacesFinds': WHATEVER THE INPUT: true; the input reads as it did. -/
def facesFindsSpec : ChangeSpec := { name := "facesFinds", fn := fun _ => fun
  | [d1, d2] => { results := [.lit (.bool true)], args := [d1, d2] }
  | _ => none }
def facesFindsRow : OpenClaim := { program := "ytjaibkfmkhfjfaa", sum := "88e1f4e5ae904d77686d992c043240d537155c01ce242a6ef31d649cbef52171", func := "tenon/tenonlaw04.FacesFinds", spec := "facesFinds", unfollowed := true, recurses := true, apart := false }
def FacesFindsSaid : Prop := facesFindsRow.holds Try.pinned (OpenSpec.ofChange facesFindsSpec)

/-- ITS FALSE NEIGHBOUR: 'it returns false'. Refute it at one input. -/
def facesFindsWrong : ChangeSpec := { name := "facesFinds", fn := fun _ => fun
  | [d1, d2] => { results := [.lit (.bool false)], args := [d1, d2] }
  | _ => none }
def FacesFindsWrongFalsely : Prop := facesFindsRow.holds Try.pinned (OpenSpec.ofChange facesFindsWrong)

/- THE SECOND FORM. 'bulk': how many values and letters a reading holds, each counted each time it is reached (what is shared counts as often as it is met; a slice's spare places count too). A statement '..UptoSaid' is the law's where the arguments, and the package variables that the reading takes, are together of bulk at most 1048576: NARROWER than '..Said'. Prove '..Said' where nothing that the law and all that it calls make is longer than what came in: it says more and counts as full. Else prove '..UptoSaid'. A law counts once. -/
mutual
def uptoBulk {H : Type} : DataW H → Nat
  | .lit (.string bytes) => bytes.length + 1
  | .lit _ => 1
  | .nil => 1
  | .ptr d => uptoBulk d + 1
  | .slice elems spare => uptoBulkAll elems + uptoBulkAll spare + 1
  | .agg parts => uptoBulkAll parts + 1
  | .iface _ d => uptoBulk d + 1
  | .map entries => uptoBulkEntries entries + 1
  | .held _ => 1
def uptoBulkAll {H : Type} : List (DataW H) → Nat
  | [] => 0
  | d :: r => uptoBulk d + uptoBulkAll r
def uptoBulkEntries {H : Type} : List (Lit × DataW H) → Nat
  | [] => 0
  | x :: r => uptoBulkEntry x + uptoBulkEntries r
def uptoBulkEntry {H : Type} : Lit × DataW H → Nat
  | (.string bytes, d) => bytes.length + uptoBulk d + 1
  | (_, d) => uptoBulk d + 1
 end
def uptoSmall : (H : Type) → List (DataW H) → Bool := fun _ ds => decide (uptoBulkAll ds ≤ 1048576)
def OpenSpec.upto (s : _root_.Go.ChangeSpec) : _root_.Go.OpenSpec := { _root_.Go.OpenSpec.ofChange s with cond := some uptoSmall }

/-- 'tenonlaw04.FacesChecks', WHERE WHAT IT READS IS OF BULK AT MOST 1048576: true; the input reads as it did. -/
def facesChecksUptoRow : OpenClaim := { program := "ytjaibkfmkhfjfaa", sum := "88e1f4e5ae904d77686d992c043240d537155c01ce242a6ef31d649cbef52171", func := "tenon/tenonlaw04.FacesChecks", spec := "facesChecks", unfollowed := true, recurses := true, apart := false, narrowed := true }
def FacesChecksUptoSaid : Prop := facesChecksUptoRow.holds Try.pinned (OpenSpec.upto facesChecksSpec)

/-- 'tenonlaw04.FacesLines', WHERE WHAT IT READS IS OF BULK AT MOST 1048576: true; the input reads as it did. -/
def facesLinesUptoRow : OpenClaim := { program := "ytjaibkfmkhfjfaa", sum := "88e1f4e5ae904d77686d992c043240d537155c01ce242a6ef31d649cbef52171", func := "tenon/tenonlaw04.FacesLines", spec := "facesLines", unfollowed := true, recurses := true, apart := false, narrowed := true }
def FacesLinesUptoSaid : Prop := facesLinesUptoRow.holds Try.pinned (OpenSpec.upto facesLinesSpec)

/-- 'tenonlaw04.FacesPrefix', WHERE WHAT IT READS IS OF BULK AT MOST 1048576: true; the input reads as it did. -/
def facesPrefixUptoRow : OpenClaim := { program := "ytjaibkfmkhfjfaa", sum := "88e1f4e5ae904d77686d992c043240d537155c01ce242a6ef31d649cbef52171", func := "tenon/tenonlaw04.FacesPrefix", spec := "facesPrefix", unfollowed := true, recurses := true, apart := false, narrowed := true }
def FacesPrefixUptoSaid : Prop := facesPrefixUptoRow.holds Try.pinned (OpenSpec.upto facesPrefixSpec)

/-- 'tenonlaw04.FacesCommon', WHERE WHAT IT READS IS OF BULK AT MOST 1048576: true; the input reads as it did. -/
def facesCommonUptoRow : OpenClaim := { program := "ytjaibkfmkhfjfaa", sum := "88e1f4e5ae904d77686d992c043240d537155c01ce242a6ef31d649cbef52171", func := "tenon/tenonlaw04.FacesCommon", spec := "facesCommon", unfollowed := true, recurses := true, apart := false, narrowed := true }
def FacesCommonUptoSaid : Prop := facesCommonUptoRow.holds Try.pinned (OpenSpec.upto facesCommonSpec)

/-- 'tenonlaw04.FacesRight', WHERE WHAT IT READS IS OF BULK AT MOST 1048576: true; the input reads as it did. -/
def facesRightUptoRow : OpenClaim := { program := "ytjaibkfmkhfjfaa", sum := "88e1f4e5ae904d77686d992c043240d537155c01ce242a6ef31d649cbef52171", func := "tenon/tenonlaw04.FacesRight", spec := "facesRight", unfollowed := true, recurses := true, apart := false, narrowed := true }
def FacesRightUptoSaid : Prop := facesRightUptoRow.holds Try.pinned (OpenSpec.upto facesRightSpec)

/-- 'tenonlaw04.FacesFinds', WHERE WHAT IT READS IS OF BULK AT MOST 1048576: true; the input reads as it did. -/
def facesFindsUptoRow : OpenClaim := { program := "ytjaibkfmkhfjfaa", sum := "88e1f4e5ae904d77686d992c043240d537155c01ce242a6ef31d649cbef52171", func := "tenon/tenonlaw04.FacesFinds", spec := "facesFinds", unfollowed := true, recurses := true, apart := false, narrowed := true }
def FacesFindsUptoSaid : Prop := facesFindsUptoRow.holds Try.pinned (OpenSpec.upto facesFindsSpec)

end Rows
end Go.Proofs.Ytjaibkfmkhfjfaa
