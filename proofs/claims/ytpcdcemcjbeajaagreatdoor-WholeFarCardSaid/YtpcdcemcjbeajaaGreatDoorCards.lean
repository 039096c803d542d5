/-
  DERIVED. GIVEN WITH THE SEED: THE CARDS: each row of YtpcdcemcjbeajaaGreatDoorRows.lean that lists a variable, with what it lists TIED to the program's text (the seventh form; the later family's looks); each row that meets fmt, with fmt's text TOLD by the authors' own Lean function (tested against real Go, not proved from fmt's source: count such statements apart). THE CARD IS WHAT COUNTS. Prove the row's statement (the work); the ties are given (YtpcdcemcjbeajaaGreatDoorTie.lean); close each card by the builder's one call (the guide's Derived/Test/ToyasCard.lean, 'card_holds'). Laid BY PROGRAM, IN A SANDBOX (cutbox-door.mjs). By AI agents, Wed Nov 11 2026. No macro, syntax, notation, axiom, sorry.
-/
import Derived.Test.YtpcdcemcjbeajaaGreatDoorRows
import GoSem.ClaimSeven
namespace Go.Proofs.YtpcdcemcjbeajaaGreatDoor
namespace Rows

/-- THE TIED CARD OF 'tenontop.WholeFar'. -/
def wholeFarCard : Claim7 := { stood := { row := wholeFarRow, standIns := [], harness := (true, "b2e498da735974298cf67d9111dc3fe8887ce5e679bdde8de16ee95c615256cc"), looks := true }, kinds := [], alts := [], laidByText := true, laidKinds := [.data, .data, .data], laidTests := true, laidLooks := .later }
def WholeFarCardSaid : Prop := Claim7.holds Tryz.pinned (.plain (OpenSpec.ofChange wholeFarSpec)) wholeFarCard

/-- THE SECOND FORM's CARD OF 'tenontop.WholeFar'. -/
def wholeFarUptoCard : Claim7 := { stood := { row := wholeFarUptoRow, standIns := [], harness := (true, "b2e498da735974298cf67d9111dc3fe8887ce5e679bdde8de16ee95c615256cc"), looks := true }, kinds := [], alts := [], laidByText := true, laidKinds := [.data, .data, .data], laidTests := true, laidLooks := .later }
def WholeFarUptoCardSaid : Prop := Claim7.holds Tryz.pinned (.plain (OpenSpec.upto wholeFarSpec)) wholeFarUptoCard
end Rows
end Go.Proofs.YtpcdcemcjbeajaaGreatDoor
