/-
  No cell of these rows narrows 'for every input' (looked for: loops, veiled, ifaces, maps, wideKeys, modest, calm, conditions, laid).
  DERIVED. THE GIVEN ROWS OF THIS SEAT. 6 by the template 'for every input the law returns true; each argument reads behind the call as it read before'; 0 by the template 'total and deterministic' (their statements: YtnebpklmbefmfaaTotals.lean).
  GIVEN WITH THE SEED: the statements are not yours to turn. If you find one false, say at which input.
  Laid BY PROGRAM, IN A SANDBOX (cutbox-rows.mjs): the forced cells as the released guide's own fill.sh prints them over the translation 534d35aea35d100b… (all of the seat's roots in one cut). By AI agents, Wed Nov 11 2026. No macro, syntax, notation, axiom, sorry.
-/
import Derived.Test.YtnebpklmbefmfaaChecked
import GoSem.Claim
import GoSem.ClaimJoined
import GoSem.ClaimMapViews
import Derived.JoinedTies
import Derived.KernelRfl
namespace Go.Proofs.Ytnebpklmbefmfaa
/- THE CELL 'sum', in the pinned program and in every row, IS THE sha256 OF THE DUMP (.gsa) THAT YtnebpklmbefmfaaProg.lean LOADS. Nothing in Lean hashes anything: it is a label: what it is worth is what the hold of that sum in a sandbox is worth. -/
noncomputable def Try.pinned : Pinned := { name := "ytnebpklmbefmfaa", sum := "534d35aea35d100b6c4450db33fa9b8b3a981d2e97e21b4af1aef7ffbf521136", checked := Try.checked }
namespace Rows
def none {H : Type} : Left H := { results := [], args := [] }

/-- 'tenonlaw20.RegistrySafe': WHATEVER THE INPUT: true; the input reads as it did. -/
def registrySafeSpec : ChangeSpec := { name := "registrySafe", fn := fun _ => fun
  | [d1, d2] => { results := [.lit (.bool true)], args := [d1, d2] }
  | _ => none }
def registrySafeRow : OpenClaim := { program := "ytnebpklmbefmfaa", sum := "534d35aea35d100b6c4450db33fa9b8b3a981d2e97e21b4af1aef7ffbf521136", func := "tenon/tenonlaw20.RegistrySafe", spec := "registrySafe", unfollowed := true, recurses := true, apart := false }
def RegistrySafeSaid : Prop := registrySafeRow.holds Try.pinned (OpenSpec.ofChange registrySafeSpec)

/-- ITS FALSE NEIGHBOUR: 'it returns false'. Refute it at one input. -/
def registrySafeWrong : ChangeSpec := { name := "registrySafe", fn := fun _ => fun
  | [d1, d2] => { results := [.lit (.bool false)], args := [d1, d2] }
  | _ => none }
def RegistrySafeWrongFalsely : Prop := registrySafeRow.holds Try.pinned (OpenSpec.ofChange registrySafeWrong)

/-- 'tenonlaw20.RegistryAgain': WHATEVER THE INPUT: true; the input reads as it did. -/
def registryAgainSpec : ChangeSpec := { name := "registryAgain", fn := fun _ => fun
  | [d1, d2, d3] => { results := [.lit (.bool true)], args := [d1, d2, d3] }
  | _ => none }
def registryAgainRow : OpenClaim := { program := "ytnebpklmbefmfaa", sum := "534d35aea35d100b6c4450db33fa9b8b3a981d2e97e21b4af1aef7ffbf521136", func := "tenon/tenonlaw20.RegistryAgain", spec := "registryAgain", unfollowed := true, recurses := true, apart := false }
def RegistryAgainSaid : Prop := registryAgainRow.holds Try.pinned (OpenSpec.ofChange registryAgainSpec)

/-- ITS FALSE NEIGHBOUR: 'it returns false'. Refute it at one input. -/
def registryAgainWrong : ChangeSpec := { name := "registryAgain", fn := fun _ => fun
  | [d1, d2, d3] => { results := [.lit (.bool false)], args := [d1, d2, d3] }
  | _ => none }
def RegistryAgainWrongFalsely : Prop := registryAgainRow.holds Try.pinned (OpenSpec.ofChange registryAgainWrong)

/-- 'tenonlaw20.RegistryPlays': WHATEVER THE INPUT: true; the input reads as it did. -/
def registryPlaysSpec : ChangeSpec := { name := "registryPlays", fn := fun _ => fun
  | [d1, d2, d3] => { results := [.lit (.bool true)], args := [d1, d2, d3] }
  | _ => none }
def registryPlaysRow : OpenClaim := { program := "ytnebpklmbefmfaa", sum := "534d35aea35d100b6c4450db33fa9b8b3a981d2e97e21b4af1aef7ffbf521136", func := "tenon/tenonlaw20.RegistryPlays", spec := "registryPlays", unfollowed := true, recurses := true, apart := false }
def RegistryPlaysSaid : Prop := registryPlaysRow.holds Try.pinned (OpenSpec.ofChange registryPlaysSpec)

/-- ITS FALSE NEIGHBOUR: 'it returns false'. Refute it at one input. -/
def registryPlaysWrong : ChangeSpec := { name := "registryPlays", fn := fun _ => fun
  | [d1, d2, d3] => { results := [.lit (.bool false)], args := [d1, d2, d3] }
  | _ => none }
def RegistryPlaysWrongFalsely : Prop := registryPlaysRow.holds Try.pinned (OpenSpec.ofChange registryPlaysWrong)

/-- 'tenonlaw20.RegistryFinds': WHATEVER THE INPUT: true; the input reads as it did. -/
def registryFindsSpec : ChangeSpec := { name := "registryFinds", fn := fun _ => fun
  | [d1, d2, d3, d4, d5] => { results := [.lit (.bool true)], args := [d1, d2, d3, d4, d5] }
  | _ => none }
def registryFindsRow : OpenClaim := { program := "ytnebpklmbefmfaa", sum := "534d35aea35d100b6c4450db33fa9b8b3a981d2e97e21b4af1aef7ffbf521136", func := "tenon/tenonlaw20.RegistryFinds", spec := "registryFinds", unfollowed := true, recurses := true, apart := false }
def RegistryFindsSaid : Prop := registryFindsRow.holds Try.pinned (OpenSpec.ofChange registryFindsSpec)

/-- ITS FALSE NEIGHBOUR: 'it returns false'. Refute it at one input. -/
def registryFindsWrong : ChangeSpec := { name := "registryFinds", fn := fun _ => fun
  | [d1, d2, d3, d4, d5] => { results := [.lit (.bool false)], args := [d1, d2, d3, d4, d5] }
  | _ => none }
def RegistryFindsWrongFalsely : Prop := registryFindsRow.holds Try.pinned (OpenSpec.ofChange registryFindsWrong)

/-- 'tenonlaw20.RegistryTells': WHATEVER THE INPUT: true; the input reads as it did. -/
def registryTellsSpec : ChangeSpec := { name := "registryTells", fn := fun _ => fun
  | [d1, d2] => { results := [.lit (.bool true)], args := [d1, d2] }
  | _ => none }
def registryTellsRow : OpenClaim := { program := "ytnebpklmbefmfaa", sum := "534d35aea35d100b6c4450db33fa9b8b3a981d2e97e21b4af1aef7ffbf521136", func := "tenon/tenonlaw20.RegistryTells", spec := "registryTells", unfollowed := true, recurses := true, apart := false }
def RegistryTellsSaid : Prop := registryTellsRow.holds Try.pinned (OpenSpec.ofChange registryTellsSpec)

/-- ITS FALSE NEIGHBOUR: 'it returns false'. Refute it at one input. -/
def registryTellsWrong : ChangeSpec := { name := "registryTells", fn := fun _ => fun
  | [d1, d2] => { results := [.lit (.bool false)], args := [d1, d2] }
  | _ => none }
def RegistryTellsWrongFalsely : Prop := registryTellsRow.holds Try.pinned (OpenSpec.ofChange registryTellsWrong)

/-- 'tenonlaw20.RegistryNil': WHATEVER THE INPUT: true; the input reads as it did. -/
def registryNilSpec : ChangeSpec := { name := "registryNil", fn := fun _ => fun
  | [d1, d2, d3, d4] => { results := [.lit (.bool true)], args := [d1, d2, d3, d4] }
  | _ => none }
def registryNilRow : OpenClaim := { program := "ytnebpklmbefmfaa", sum := "534d35aea35d100b6c4450db33fa9b8b3a981d2e97e21b4af1aef7ffbf521136", func := "tenon/tenonlaw20.RegistryNil", spec := "registryNil", unfollowed := true, recurses := true, apart := false }
def RegistryNilSaid : Prop := registryNilRow.holds Try.pinned (OpenSpec.ofChange registryNilSpec)

/-- ITS FALSE NEIGHBOUR: 'it returns false'. Refute it at one input. -/
def registryNilWrong : ChangeSpec := { name := "registryNil", fn := fun _ => fun
  | [d1, d2, d3, d4] => { results := [.lit (.bool false)], args := [d1, d2, d3, d4] }
  | _ => none }
def RegistryNilWrongFalsely : Prop := registryNilRow.holds Try.pinned (OpenSpec.ofChange registryNilWrong)

/- THE SECOND FORM. 'bulk': how many values and letters a reading holds, each counted each time it is reached (what is shared counts as often as it is met; a slice's spare places count too). A statement '..UptoSaid' is the law's where the arguments, and the package variables that the reading takes, are together of bulk at most 1048576: NARROWER than '..Said'. Prove '..Said' where nothing that the law and all that it calls make is longer than what came in: it says more and counts as full. Else prove '..UptoSaid'. A law counts once. -/
mutual
def uptoBulk {H : Type} : DataW H → Nat
  | .lit (.string bytes) => bytes.length + 1
  | .lit _ => 1
  | .nil => 1
  | .ptr d => uptoBulk d + 1
  | .slice elems spare => uptoBulkAll elems + uptoBulkAll spare + 1
  | .agg parts => uptoBulkAll parts + 1
  | .iface _ d => uptoBulk d + 1
  | .map entries => uptoBulkEntries entries + 1
  | .held _ => 1
def uptoBulkAll {H : Type} : List (DataW H) → Nat
  | [] => 0
  | d :: r => uptoBulk d + uptoBulkAll r
def uptoBulkEntries {H : Type} : List (Lit × DataW H) → Nat
  | [] => 0
  | x :: r => uptoBulkEntry x + uptoBulkEntries r
def uptoBulkEntry {H : Type} : Lit × DataW H → Nat
  | (.string bytes, d) => bytes.length + uptoBulk d + 1
  | (_, d) => uptoBulk d + 1
 end
def uptoSmall : (H : Type) → List (DataW H) → Bool := fun _ ds => decide (uptoBulkAll ds ≤ 1048576)
def OpenSpec.upto (s : _root_.Go.ChangeSpec) : _root_.Go.OpenSpec := { _root_.Go.OpenSpec.ofChange s with cond := some uptoSmall }

/-- 'tenonlaw20.RegistrySafe', WHERE WHAT IT READS IS OF BULK AT MOST 1048576: true; the input reads as it did. -/
def registrySafeUptoRow : OpenClaim := { program := "ytnebpklmbefmfaa", sum := "534d35aea35d100b6c4450db33fa9b8b3a981d2e97e21b4af1aef7ffbf521136", func := "tenon/tenonlaw20.RegistrySafe", spec := "registrySafe", unfollowed := true, recurses := true, apart := false, narrowed := true }
def RegistrySafeUptoSaid : Prop := registrySafeUptoRow.holds Try.pinned (OpenSpec.upto registrySafeSpec)

/-- 'tenonlaw20.RegistryAgain', WHERE WHAT IT READS IS OF BULK AT MOST 1048576: true; the input reads as it did. -/
def registryAgainUptoRow : OpenClaim := { program := "ytnebpklmbefmfaa", sum := "534d35aea35d100b6c4450db33fa9b8b3a981d2e97e21b4af1aef7ffbf521136", func := "tenon/tenonlaw20.RegistryAgain", spec := "registryAgain", unfollowed := true, recurses := true, apart := false, narrowed := true }
def RegistryAgainUptoSaid : Prop := registryAgainUptoRow.holds Try.pinned (OpenSpec.upto registryAgainSpec)

/-- 'tenonlaw20.RegistryPlays', WHERE WHAT IT READS IS OF BULK AT MOST 1048576: true; the input reads as it did. -/
def registryPlaysUptoRow : OpenClaim := { program := "ytnebpklmbefmfaa", sum := "534d35aea35d100b6c4450db33fa9b8b3a981d2e97e21b4af1aef7ffbf521136", func := "tenon/tenonlaw20.RegistryPlays", spec := "registryPlays", unfollowed := true, recurses := true, apart := false, narrowed := true }
def RegistryPlaysUptoSaid : Prop := registryPlaysUptoRow.holds Try.pinned (OpenSpec.upto registryPlaysSpec)

/-- 'tenonlaw20.RegistryFinds', WHERE WHAT IT READS IS OF BULK AT MOST 1048576: true; the input reads as it did. -/
def registryFindsUptoRow : OpenClaim := { program := "ytnebpklmbefmfaa", sum := "534d35aea35d100b6c4450db33fa9b8b3a981d2e97e21b4af1aef7ffbf521136", func := "tenon/tenonlaw20.RegistryFinds", spec := "registryFinds", unfollowed := true, recurses := true, apart := false, narrowed := true }
def RegistryFindsUptoSaid : Prop := registryFindsUptoRow.holds Try.pinned (OpenSpec.upto registryFindsSpec)

/-- 'tenonlaw20.RegistryTells', WHERE WHAT IT READS IS OF BULK AT MOST 1048576: true; the input reads as it did. -/
def registryTellsUptoRow : OpenClaim := { program := "ytnebpklmbefmfaa", sum := "534d35aea35d100b6c4450db33fa9b8b3a981d2e97e21b4af1aef7ffbf521136", func := "tenon/tenonlaw20.RegistryTells", spec := "registryTells", unfollowed := true, recurses := true, apart := false, narrowed := true }
def RegistryTellsUptoSaid : Prop := registryTellsUptoRow.holds Try.pinned (OpenSpec.upto registryTellsSpec)

/-- 'tenonlaw20.RegistryNil', WHERE WHAT IT READS IS OF BULK AT MOST 1048576: true; the input reads as it did. -/
def registryNilUptoRow : OpenClaim := { program := "ytnebpklmbefmfaa", sum := "534d35aea35d100b6c4450db33fa9b8b3a981d2e97e21b4af1aef7ffbf521136", func := "tenon/tenonlaw20.RegistryNil", spec := "registryNil", unfollowed := true, recurses := true, apart := false, narrowed := true }
def RegistryNilUptoSaid : Prop := registryNilUptoRow.holds Try.pinned (OpenSpec.upto registryNilSpec)

end Rows
end Go.Proofs.Ytnebpklmbefmfaa
