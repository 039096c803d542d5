/-
  DERIVED. GIVEN WITH THE SEED: THE CARDS: each row of YtgmlbaffghogaaaGreatDoorRows.lean that lists a variable, with what it lists TIED to the program's text (the seventh form; the later family's looks); each row that meets fmt, with fmt's text TOLD by the authors' own Lean function (tested against real Go, not proved from fmt's source: count such statements apart). THE CARD IS WHAT COUNTS. Prove the row's statement (the work); the ties are given (YtgmlbaffghogaaaGreatDoorTie.lean); close each card by the builder's one call (the guide's Derived/Test/ToyasCard.lean, 'card_holds'). Laid BY PROGRAM, IN A SANDBOX (cutbox-door.mjs). By AI agents, Wed Nov 11 2026. No macro, syntax, notation, axiom, sorry.
-/
import Derived.Test.YtgmlbaffghogaaaGreatDoorRows
import GoSem.ClaimSeven
namespace Go.Proofs.YtgmlbaffghogaaaGreatDoor
namespace Rows

/-- THE TIED CARD OF 'tenontop.WholeCancel'. -/
def wholeCancelCard : Claim7 := { stood := { row := wholeCancelRow, standIns := [], harness := (true, "a1893e7ef04d028d8eb74452c880cb23c1da680a22b5f6f45b7c6dd413243187"), looks := true }, kinds := [], alts := [], laidByText := true, laidKinds := [.data, .data, .data], laidTests := true, laidLooks := .later }
def WholeCancelCardSaid : Prop := Claim7.holds Tryz.pinned (.plain (OpenSpec.ofChange wholeCancelSpec)) wholeCancelCard

/-- THE SECOND FORM's CARD OF 'tenontop.WholeCancel'. -/
def wholeCancelUptoCard : Claim7 := { stood := { row := wholeCancelUptoRow, standIns := [], harness := (true, "a1893e7ef04d028d8eb74452c880cb23c1da680a22b5f6f45b7c6dd413243187"), looks := true }, kinds := [], alts := [], laidByText := true, laidKinds := [.data, .data, .data], laidTests := true, laidLooks := .later }
def WholeCancelUptoCardSaid : Prop := Claim7.holds Tryz.pinned (.plain (OpenSpec.upto wholeCancelSpec)) wholeCancelUptoCard
end Rows
end Go.Proofs.YtgmlbaffghogaaaGreatDoor
