/-
  No cell of these rows narrows 'for every input' (looked for: loops, veiled, ifaces, maps, wideKeys, modest, calm, conditions, laid).
  DERIVED. THE GIVEN ROWS OF THIS SEAT. 5 by the template 'for every input the law returns true; each argument reads behind the call as it read before'; 0 by the template 'total and deterministic' (their statements: YtdnnnbjmjjdcfaaTotals.lean).
  GIVEN WITH THE SEED: the statements are not yours to turn. If you find one false, say at which input.
  Laid BY PROGRAM, IN A SANDBOX (cutbox-rows.mjs): the forced cells as the released guide's own fill.sh prints them over the translation 6f079c4c514c83ed… (all of the seat's roots in one cut). By AI agents, Wed Nov 11 2026. No macro, syntax, notation, axiom, sorry.
-/
import Derived.Test.YtdnnnbjmjjdcfaaChecked
import GoSem.Claim
import GoSem.ClaimJoined
import GoSem.ClaimMapViews
import Derived.JoinedTies
import Derived.KernelRfl
namespace Go.Proofs.Ytdnnnbjmjjdcfaa
/- THE CELL 'sum', in the pinned program and in every row, IS THE sha256 OF THE DUMP (.gsa) THAT YtdnnnbjmjjdcfaaProg.lean LOADS. Nothing in Lean hashes anything: it is a label: what it is worth is what the hold of that sum in a sandbox is worth. -/
noncomputable def Try.pinned : Pinned := { name := "ytdnnnbjmjjdcfaa", sum := "6f079c4c514c83ed32a58befb0ed1ff6c65c96481f2047e64639ff557c1227ae", checked := Try.checked }
namespace Rows
def none {H : Type} : Left H := { results := [], args := [] }

/-- 'tenonlaw10.ClassChecks': WHATEVER THE INPUT: true; the input reads as it did. -/
def classChecksSpec : ChangeSpec := { name := "classChecks", fn := fun _ => fun
  | [d] => { results := [.lit (.bool true)], args := [d] }
  | _ => none }
def classChecksRow : OpenClaim := { program := "ytdnnnbjmjjdcfaa", sum := "6f079c4c514c83ed32a58befb0ed1ff6c65c96481f2047e64639ff557c1227ae", func := "tenon/tenonlaw10.ClassChecks", spec := "classChecks", unfollowed := true, recurses := true, apart := false }
def ClassChecksSaid : Prop := classChecksRow.holds Try.pinned (OpenSpec.ofChange classChecksSpec)

/-- ITS FALSE NEIGHBOUR: 'it returns false'. Refute it at one input. -/
def classChecksWrong : ChangeSpec := { name := "classChecks", fn := fun _ => fun
  | [d] => { results := [.lit (.bool false)], args := [d] }
  | _ => none }
def ClassChecksWrongFalsely : Prop := classChecksRow.holds Try.pinned (OpenSpec.ofChange classChecksWrong)

/-- 'tenonlaw10.ClassEncodes': WHATEVER THE INPUT: true; the input reads as it did. -/
def classEncodesSpec : ChangeSpec := { name := "classEncodes", fn := fun _ => fun
  | [d] => { results := [.lit (.bool true)], args := [d] }
  | _ => none }
def classEncodesRow : OpenClaim := { program := "ytdnnnbjmjjdcfaa", sum := "6f079c4c514c83ed32a58befb0ed1ff6c65c96481f2047e64639ff557c1227ae", func := "tenon/tenonlaw10.ClassEncodes", spec := "classEncodes", unfollowed := true, recurses := true, apart := false }
def ClassEncodesSaid : Prop := classEncodesRow.holds Try.pinned (OpenSpec.ofChange classEncodesSpec)

/-- ITS FALSE NEIGHBOUR: 'it returns false'. Refute it at one input. -/
def classEncodesWrong : ChangeSpec := { name := "classEncodes", fn := fun _ => fun
  | [d] => { results := [.lit (.bool false)], args := [d] }
  | _ => none }
def ClassEncodesWrongFalsely : Prop := classEncodesRow.holds Try.pinned (OpenSpec.ofChange classEncodesWrong)

/-- 'tenonlaw10.ClassDecodes': WHATEVER THE INPUT: true; the input reads as it did. -/
def classDecodesSpec : ChangeSpec := { name := "classDecodes", fn := fun _ => fun
  | [d] => { results := [.lit (.bool true)], args := [d] }
  | _ => none }
def classDecodesRow : OpenClaim := { program := "ytdnnnbjmjjdcfaa", sum := "6f079c4c514c83ed32a58befb0ed1ff6c65c96481f2047e64639ff557c1227ae", func := "tenon/tenonlaw10.ClassDecodes", spec := "classDecodes", unfollowed := true, recurses := true, apart := false }
def ClassDecodesSaid : Prop := classDecodesRow.holds Try.pinned (OpenSpec.ofChange classDecodesSpec)

/-- ITS FALSE NEIGHBOUR: 'it returns false'. Refute it at one input. -/
def classDecodesWrong : ChangeSpec := { name := "classDecodes", fn := fun _ => fun
  | [d] => { results := [.lit (.bool false)], args := [d] }
  | _ => none }
def ClassDecodesWrongFalsely : Prop := classDecodesRow.holds Try.pinned (OpenSpec.ofChange classDecodesWrong)

/-- 'tenonlaw10.ClassBack': WHATEVER THE INPUT: true; the input reads as it did. -/
def classBackSpec : ChangeSpec := { name := "classBack", fn := fun _ => fun
  | [d1, d2, d3] => { results := [.lit (.bool true)], args := [d1, d2, d3] }
  | _ => none }
def classBackRow : OpenClaim := { program := "ytdnnnbjmjjdcfaa", sum := "6f079c4c514c83ed32a58befb0ed1ff6c65c96481f2047e64639ff557c1227ae", func := "tenon/tenonlaw10.ClassBack", spec := "classBack", unfollowed := true, recurses := true, apart := false }
def ClassBackSaid : Prop := classBackRow.holds Try.pinned (OpenSpec.ofChange classBackSpec)

/-- ITS FALSE NEIGHBOUR: 'it returns false'. Refute it at one input. -/
def classBackWrong : ChangeSpec := { name := "classBack", fn := fun _ => fun
  | [d1, d2, d3] => { results := [.lit (.bool false)], args := [d1, d2, d3] }
  | _ => none }
def ClassBackWrongFalsely : Prop := classBackRow.holds Try.pinned (OpenSpec.ofChange classBackWrong)

/-- 'tenonlaw10.ClassFinds': WHATEVER THE INPUT: true; the input reads as it did. -/
def classFindsSpec : ChangeSpec := { name := "classFinds", fn := fun _ => fun
  | [d1, d2, d3] => { results := [.lit (.bool true)], args := [d1, d2, d3] }
  | _ => none }
def classFindsRow : OpenClaim := { program := "ytdnnnbjmjjdcfaa", sum := "6f079c4c514c83ed32a58befb0ed1ff6c65c96481f2047e64639ff557c1227ae", func := "tenon/tenonlaw10.ClassFinds", spec := "classFinds", unfollowed := true, recurses := true, apart := false }
def ClassFindsSaid : Prop := classFindsRow.holds Try.pinned (OpenSpec.ofChange classFindsSpec)

/-- ITS FALSE NEIGHBOUR: 'it returns false'. Refute it at one input. -/
def classFindsWrong : ChangeSpec := { name := "classFinds", fn := fun _ => fun
  | [d1, d2, d3] => { results := [.lit (.bool false)], args := [d1, d2, d3] }
  | _ => none }
def ClassFindsWrongFalsely : Prop := classFindsRow.holds Try.pinned (OpenSpec.ofChange classFindsWrong)

/- THE SECOND FORM. 'bulk': how many values and letters a reading holds, each counted each time it is reached (what is shared counts as often as it is met; a slice's spare places count too). A statement '..UptoSaid' is the law's where the arguments, and the package variables that the reading takes, are together of bulk at most 1048576: NARROWER than '..Said'. Prove '..Said' where nothing that the law and all that it calls make is longer than what came in: it says more and counts as full. Else prove '..UptoSaid'. A law counts once. -/
mutual
def uptoBulk {H : Type} : DataW H → Nat
  | .lit (.string bytes) => bytes.length + 1
  | .lit _ => 1
  | .nil => 1
  | .ptr d => uptoBulk d + 1
  | .slice elems spare => uptoBulkAll elems + uptoBulkAll spare + 1
  | .agg parts => uptoBulkAll parts + 1
  | .iface _ d => uptoBulk d + 1
  | .map entries => uptoBulkEntries entries + 1
  | .held _ => 1
def uptoBulkAll {H : Type} : List (DataW H) → Nat
  | [] => 0
  | d :: r => uptoBulk d + uptoBulkAll r
def uptoBulkEntries {H : Type} : List (Lit × DataW H) → Nat
  | [] => 0
  | x :: r => uptoBulkEntry x + uptoBulkEntries r
def uptoBulkEntry {H : Type} : Lit × DataW H → Nat
  | (.string bytes, d) => bytes.length + uptoBulk d + 1
  | (_, d) => uptoBulk d + 1
 end
def uptoSmall : (H : Type) → List (DataW H) → Bool := fun _ ds => decide (uptoBulkAll ds ≤ 1048576)
def OpenSpec.upto (s : _root_.Go.ChangeSpec) : _root_.Go.OpenSpec := { _root_.Go.OpenSpec.ofChange s with cond := some uptoSmall }

/-- 'tenonlaw10.ClassChecks', WHERE WHAT IT READS IS OF BULK AT MOST 1048576: true; the input reads as it did. -/
def classChecksUptoRow : OpenClaim := { program := "ytdnnnbjmjjdcfaa", sum := "6f079c4c514c83ed32a58befb0ed1ff6c65c96481f2047e64639ff557c1227ae", func := "tenon/tenonlaw10.ClassChecks", spec := "classChecks", unfollowed := true, recurses := true, apart := false, narrowed := true }
def ClassChecksUptoSaid : Prop := classChecksUptoRow.holds Try.pinned (OpenSpec.upto classChecksSpec)

/-- 'tenonlaw10.ClassEncodes', WHERE WHAT IT READS IS OF BULK AT MOST 1048576: true; the input reads as it did. -/
def classEncodesUptoRow : OpenClaim := { program := "ytdnnnbjmjjdcfaa", sum := "6f079c4c514c83ed32a58befb0ed1ff6c65c96481f2047e64639ff557c1227ae", func := "tenon/tenonlaw10.ClassEncodes", spec := "classEncodes", unfollowed := true, recurses := true, apart := false, narrowed := true }
def ClassEncodesUptoSaid : Prop := classEncodesUptoRow.holds Try.pinned (OpenSpec.upto classEncodesSpec)

/-- 'tenonlaw10.ClassDecodes', WHERE WHAT IT READS IS OF BULK AT MOST 1048576: true; the input reads as it did. -/
def classDecodesUptoRow : OpenClaim := { program := "ytdnnnbjmjjdcfaa", sum := "6f079c4c514c83ed32a58befb0ed1ff6c65c96481f2047e64639ff557c1227ae", func := "tenon/tenonlaw10.ClassDecodes", spec := "classDecodes", unfollowed := true, recurses := true, apart := false, narrowed := true }
def ClassDecodesUptoSaid : Prop := classDecodesUptoRow.holds Try.pinned (OpenSpec.upto classDecodesSpec)

/-- 'tenonlaw10.ClassBack', WHERE WHAT IT READS IS OF BULK AT MOST 1048576: true; the input reads as it did. -/
def classBackUptoRow : OpenClaim := { program := "ytdnnnbjmjjdcfaa", sum := "6f079c4c514c83ed32a58befb0ed1ff6c65c96481f2047e64639ff557c1227ae", func := "tenon/tenonlaw10.ClassBack", spec := "classBack", unfollowed := true, recurses := true, apart := false, narrowed := true }
def ClassBackUptoSaid : Prop := classBackUptoRow.holds Try.pinned (OpenSpec.upto classBackSpec)

/-- 'tenonlaw10.ClassFinds', WHERE WHAT IT READS IS OF BULK AT MOST 1048576: true; the input reads as it did. -/
def classFindsUptoRow : OpenClaim := { program := "ytdnnnbjmjjdcfaa", sum := "6f079c4c514c83ed32a58befb0ed1ff6c65c96481f2047e64639ff557c1227ae", func := "tenon/tenonlaw10.ClassFinds", spec := "classFinds", unfollowed := true, recurses := true, apart := false, narrowed := true }
def ClassFindsUptoSaid : Prop := classFindsUptoRow.holds Try.pinned (OpenSpec.upto classFindsSpec)

end Rows
end Go.Proofs.Ytdnnnbjmjjdcfaa
