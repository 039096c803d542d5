/-
  No cell of these rows narrows 'for every input' (looked for: loops, veiled, ifaces, maps, wideKeys, modest, calm, conditions, laid).
  DERIVED. THE GIVEN ROWS OF THIS SEAT. 6 by the template 'for every input the law returns true; each argument reads behind the call as it read before'; 0 by the template 'total and deterministic' (their statements: YtaklegcphmfghaaTotals.lean).
  GIVEN WITH THE SEED: the statements are not yours to turn. If you find one false, say at which input.
  Laid BY PROGRAM, IN A SANDBOX (cutbox-rows.mjs): the forced cells as the released guide's own fill.sh prints them over the translation d19f3c8397575449… (all of the seat's roots in one cut). By AI agents, Wed Nov 11 2026. No macro, syntax, notation, axiom, sorry.
-/
import Derived.Test.YtaklegcphmfghaaChecked
import GoSem.Claim
import GoSem.ClaimJoined
import GoSem.ClaimMapViews
import Derived.JoinedTies
import Derived.KernelRfl
namespace Go.Proofs.Ytaklegcphmfghaa
/- THE CELL 'sum', in the pinned program and in every row, IS THE sha256 OF THE DUMP (.gsa) THAT YtaklegcphmfghaaProg.lean LOADS. Nothing in Lean hashes anything: it is a label: what it is worth is what the hold of that sum in a sandbox is worth. -/
noncomputable def Try.pinned : Pinned := { name := "ytaklegcphmfghaa", sum := "d19f3c83975754496ce58a84086074d2293e4b5f54bc951c597b562f469d4910", checked := Try.checked }
namespace Rows
def none {H : Type} : Left H := { results := [], args := [] }

/-- 'tenonlaw09.CodeChecks': WHATEVER THE INPUT: true; the input reads as it did. -/
def codeChecksSpec : ChangeSpec := { name := "codeChecks", fn := fun _ => fun
  | [d1, d2] => { results := [.lit (.bool true)], args := [d1, d2] }
  | _ => none }
def codeChecksRow : OpenClaim := { program := "ytaklegcphmfghaa", sum := "d19f3c83975754496ce58a84086074d2293e4b5f54bc951c597b562f469d4910", func := "tenon/tenonlaw09.CodeChecks", spec := "codeChecks", unfollowed := true, recurses := true, apart := false }
def CodeChecksSaid : Prop := codeChecksRow.holds Try.pinned (OpenSpec.ofChange codeChecksSpec)

/-- ITS FALSE NEIGHBOUR: 'it returns false'. Refute it at one input. -/
def codeChecksWrong : ChangeSpec := { name := "codeChecks", fn := fun _ => fun
  | [d1, d2] => { results := [.lit (.bool false)], args := [d1, d2] }
  | _ => none }
def CodeChecksWrongFalsely : Prop := codeChecksRow.holds Try.pinned (OpenSpec.ofChange codeChecksWrong)

/-- 'tenonlaw09.CodeRuns': WHATEVER THE INPUT: true; the input reads as it did. -/
def codeRunsSpec : ChangeSpec := { name := "codeRuns", fn := fun _ => fun
  | [d1, d2, d3] => { results := [.lit (.bool true)], args := [d1, d2, d3] }
  | _ => none }
def codeRunsRow : OpenClaim := { program := "ytaklegcphmfghaa", sum := "d19f3c83975754496ce58a84086074d2293e4b5f54bc951c597b562f469d4910", func := "tenon/tenonlaw09.CodeRuns", spec := "codeRuns", unfollowed := true, recurses := true, apart := false }
def CodeRunsSaid : Prop := codeRunsRow.holds Try.pinned (OpenSpec.ofChange codeRunsSpec)

/-- ITS FALSE NEIGHBOUR: 'it returns false'. Refute it at one input. -/
def codeRunsWrong : ChangeSpec := { name := "codeRuns", fn := fun _ => fun
  | [d1, d2, d3] => { results := [.lit (.bool false)], args := [d1, d2, d3] }
  | _ => none }
def CodeRunsWrongFalsely : Prop := codeRunsRow.holds Try.pinned (OpenSpec.ofChange codeRunsWrong)

/-- 'tenonlaw09.CodeShort': WHATEVER THE INPUT: true; the input reads as it did. -/
def codeShortSpec : ChangeSpec := { name := "codeShort", fn := fun _ => fun
  | [d1, d2] => { results := [.lit (.bool true)], args := [d1, d2] }
  | _ => none }
def codeShortRow : OpenClaim := { program := "ytaklegcphmfghaa", sum := "d19f3c83975754496ce58a84086074d2293e4b5f54bc951c597b562f469d4910", func := "tenon/tenonlaw09.CodeShort", spec := "codeShort", unfollowed := true, recurses := true, apart := false }
def CodeShortSaid : Prop := codeShortRow.holds Try.pinned (OpenSpec.ofChange codeShortSpec)

/-- ITS FALSE NEIGHBOUR: 'it returns false'. Refute it at one input. -/
def codeShortWrong : ChangeSpec := { name := "codeShort", fn := fun _ => fun
  | [d1, d2] => { results := [.lit (.bool false)], args := [d1, d2] }
  | _ => none }
def CodeShortWrongFalsely : Prop := codeShortRow.holds Try.pinned (OpenSpec.ofChange codeShortWrong)

/-- 'tenonlaw09.CodeMore': WHATEVER THE INPUT: true; the input reads as it did. -/
def codeMoreSpec : ChangeSpec := { name := "codeMore", fn := fun _ => fun
  | [d1, d2, d3] => { results := [.lit (.bool true)], args := [d1, d2, d3] }
  | _ => none }
def codeMoreRow : OpenClaim := { program := "ytaklegcphmfghaa", sum := "d19f3c83975754496ce58a84086074d2293e4b5f54bc951c597b562f469d4910", func := "tenon/tenonlaw09.CodeMore", spec := "codeMore", unfollowed := true, recurses := true, apart := false }
def CodeMoreSaid : Prop := codeMoreRow.holds Try.pinned (OpenSpec.ofChange codeMoreSpec)

/-- ITS FALSE NEIGHBOUR: 'it returns false'. Refute it at one input. -/
def codeMoreWrong : ChangeSpec := { name := "codeMore", fn := fun _ => fun
  | [d1, d2, d3] => { results := [.lit (.bool false)], args := [d1, d2, d3] }
  | _ => none }
def CodeMoreWrongFalsely : Prop := codeMoreRow.holds Try.pinned (OpenSpec.ofChange codeMoreWrong)

/-- 'tenonlaw09.CodeHeights': WHATEVER THE INPUT: true; the input reads as it did. -/
def codeHeightsSpec : ChangeSpec := { name := "codeHeights", fn := fun _ => fun
  | [d1, d2] => { results := [.lit (.bool true)], args := [d1, d2] }
  | _ => none }
def codeHeightsRow : OpenClaim := { program := "ytaklegcphmfghaa", sum := "d19f3c83975754496ce58a84086074d2293e4b5f54bc951c597b562f469d4910", func := "tenon/tenonlaw09.CodeHeights", spec := "codeHeights", unfollowed := true, recurses := true, apart := false }
def CodeHeightsSaid : Prop := codeHeightsRow.holds Try.pinned (OpenSpec.ofChange codeHeightsSpec)

/-- ITS FALSE NEIGHBOUR: 'it returns false'. Refute it at one input. -/
def codeHeightsWrong : ChangeSpec := { name := "codeHeights", fn := fun _ => fun
  | [d1, d2] => { results := [.lit (.bool false)], args := [d1, d2] }
  | _ => none }
def CodeHeightsWrongFalsely : Prop := codeHeightsRow.holds Try.pinned (OpenSpec.ofChange codeHeightsWrong)

/-- 'tenonlaw09.CodeNames': WHATEVER THE INPUT: true; the input reads as it did. -/
def codeNamesSpec : ChangeSpec := { name := "codeNames", fn := fun _ => fun
  | [d1, d2] => { results := [.lit (.bool true)], args := [d1, d2] }
  | _ => none }
def codeNamesRow : OpenClaim := { program := "ytaklegcphmfghaa", sum := "d19f3c83975754496ce58a84086074d2293e4b5f54bc951c597b562f469d4910", func := "tenon/tenonlaw09.CodeNames", spec := "codeNames", unfollowed := true, recurses := true, apart := false }
def CodeNamesSaid : Prop := codeNamesRow.holds Try.pinned (OpenSpec.ofChange codeNamesSpec)

/-- ITS FALSE NEIGHBOUR: 'it returns false'. Refute it at one input. -/
def codeNamesWrong : ChangeSpec := { name := "codeNames", fn := fun _ => fun
  | [d1, d2] => { results := [.lit (.bool false)], args := [d1, d2] }
  | _ => none }
def CodeNamesWrongFalsely : Prop := codeNamesRow.holds Try.pinned (OpenSpec.ofChange codeNamesWrong)

/- THE SECOND FORM. 'bulk': how many values and letters a reading holds, each counted each time it is reached (what is shared counts as often as it is met; a slice's spare places count too). A statement '..UptoSaid' is the law's where the arguments, and the package variables that the reading takes, are together of bulk at most 1048576: NARROWER than '..Said'. Prove '..Said' where nothing that the law and all that it calls make is longer than what came in: it says more and counts as full. Else prove '..UptoSaid'. A law counts once. -/
mutual
def uptoBulk {H : Type} : DataW H → Nat
  | .lit (.string bytes) => bytes.length + 1
  | .lit _ => 1
  | .nil => 1
  | .ptr d => uptoBulk d + 1
  | .slice elems spare => uptoBulkAll elems + uptoBulkAll spare + 1
  | .agg parts => uptoBulkAll parts + 1
  | .iface _ d => uptoBulk d + 1
  | .map entries => uptoBulkEntries entries + 1
  | .held _ => 1
def uptoBulkAll {H : Type} : List (DataW H) → Nat
  | [] => 0
  | d :: r => uptoBulk d + uptoBulkAll r
def uptoBulkEntries {H : Type} : List (Lit × DataW H) → Nat
  | [] => 0
  | x :: r => uptoBulkEntry x + uptoBulkEntries r
def uptoBulkEntry {H : Type} : Lit × DataW H → Nat
  | (.string bytes, d) => bytes.length + uptoBulk d + 1
  | (_, d) => uptoBulk d + 1
 end
def uptoSmall : (H : Type) → List (DataW H) → Bool := fun _ ds => decide (uptoBulkAll ds ≤ 1048576)
def OpenSpec.upto (s : _root_.Go.ChangeSpec) : _root_.Go.OpenSpec := { _root_.Go.OpenSpec.ofChange s with cond := some uptoSmall }

/-- 'tenonlaw09.CodeChecks', WHERE WHAT IT READS IS OF BULK AT MOST 1048576: true; the input reads as it did. -/
def codeChecksUptoRow : OpenClaim := { program := "ytaklegcphmfghaa", sum := "d19f3c83975754496ce58a84086074d2293e4b5f54bc951c597b562f469d4910", func := "tenon/tenonlaw09.CodeChecks", spec := "codeChecks", unfollowed := true, recurses := true, apart := false, narrowed := true }
def CodeChecksUptoSaid : Prop := codeChecksUptoRow.holds Try.pinned (OpenSpec.upto codeChecksSpec)

/-- 'tenonlaw09.CodeRuns', WHERE WHAT IT READS IS OF BULK AT MOST 1048576: true; the input reads as it did. -/
def codeRunsUptoRow : OpenClaim := { program := "ytaklegcphmfghaa", sum := "d19f3c83975754496ce58a84086074d2293e4b5f54bc951c597b562f469d4910", func := "tenon/tenonlaw09.CodeRuns", spec := "codeRuns", unfollowed := true, recurses := true, apart := false, narrowed := true }
def CodeRunsUptoSaid : Prop := codeRunsUptoRow.holds Try.pinned (OpenSpec.upto codeRunsSpec)

/-- 'tenonlaw09.CodeShort', WHERE WHAT IT READS IS OF BULK AT MOST 1048576: true; the input reads as it did. -/
def codeShortUptoRow : OpenClaim := { program := "ytaklegcphmfghaa", sum := "d19f3c83975754496ce58a84086074d2293e4b5f54bc951c597b562f469d4910", func := "tenon/tenonlaw09.CodeShort", spec := "codeShort", unfollowed := true, recurses := true, apart := false, narrowed := true }
def CodeShortUptoSaid : Prop := codeShortUptoRow.holds Try.pinned (OpenSpec.upto codeShortSpec)

/-- 'tenonlaw09.CodeMore', WHERE WHAT IT READS IS OF BULK AT MOST 1048576: true; the input reads as it did. -/
def codeMoreUptoRow : OpenClaim := { program := "ytaklegcphmfghaa", sum := "d19f3c83975754496ce58a84086074d2293e4b5f54bc951c597b562f469d4910", func := "tenon/tenonlaw09.CodeMore", spec := "codeMore", unfollowed := true, recurses := true, apart := false, narrowed := true }
def CodeMoreUptoSaid : Prop := codeMoreUptoRow.holds Try.pinned (OpenSpec.upto codeMoreSpec)

/-- 'tenonlaw09.CodeHeights', WHERE WHAT IT READS IS OF BULK AT MOST 1048576: true; the input reads as it did. -/
def codeHeightsUptoRow : OpenClaim := { program := "ytaklegcphmfghaa", sum := "d19f3c83975754496ce58a84086074d2293e4b5f54bc951c597b562f469d4910", func := "tenon/tenonlaw09.CodeHeights", spec := "codeHeights", unfollowed := true, recurses := true, apart := false, narrowed := true }
def CodeHeightsUptoSaid : Prop := codeHeightsUptoRow.holds Try.pinned (OpenSpec.upto codeHeightsSpec)

/-- 'tenonlaw09.CodeNames', WHERE WHAT IT READS IS OF BULK AT MOST 1048576: true; the input reads as it did. -/
def codeNamesUptoRow : OpenClaim := { program := "ytaklegcphmfghaa", sum := "d19f3c83975754496ce58a84086074d2293e4b5f54bc951c597b562f469d4910", func := "tenon/tenonlaw09.CodeNames", spec := "codeNames", unfollowed := true, recurses := true, apart := false, narrowed := true }
def CodeNamesUptoSaid : Prop := codeNamesUptoRow.holds Try.pinned (OpenSpec.upto codeNamesSpec)

end Rows
end Go.Proofs.Ytaklegcphmfghaa
