/-
  DERIVED. GIVEN WITH THE SEED: THE CARDS: each row of YtpnoabbdcakjkaaGreatDoorRows.lean that lists a variable, with what it lists TIED to the program's text (the seventh form; the later family's looks); each row that meets fmt, with fmt's text TOLD by the authors' own Lean function (tested against real Go, not proved from fmt's source: count such statements apart). THE CARD IS WHAT COUNTS. Prove the row's statement (the work); the ties are given (YtpnoabbdcakjkaaGreatDoorTie.lean); close each card by the builder's one call (the guide's Derived/Test/ToyasCard.lean, 'card_holds'). Laid BY PROGRAM, IN A SANDBOX (cutbox-door.mjs). By AI agents, Wed Nov 11 2026. No macro, syntax, notation, axiom, sorry.
-/
import Derived.Test.YtpnoabbdcakjkaaGreatDoorRows
import GoSem.ClaimSeven
namespace Go.Proofs.YtpnoabbdcakjkaaGreatDoor
namespace Rows

/-- THE TIED CARD OF 'nameplantop.TopDropped'. -/
def topDroppedCard : Claim7 := { stood := { row := topDroppedRow, standIns := [], harness := (true, "689229ce1b0c62773facbf8d62b4fd1b8319af64e88e56afaa22dab0a4c5449c"), looks := false }, kinds := [], alts := [], laidByText := true, laidKinds := [.data], laidTests := true, laidLooks := .later }
def TopDroppedCardSaid : Prop := Claim7.holds Tryz.pinned (.plain (OpenSpec.ofChange topDroppedSpec)) topDroppedCard

/-- THE SECOND FORM's CARD OF 'nameplantop.TopDropped'. -/
def topDroppedUptoCard : Claim7 := { stood := { row := topDroppedUptoRow, standIns := [], harness := (true, "689229ce1b0c62773facbf8d62b4fd1b8319af64e88e56afaa22dab0a4c5449c"), looks := false }, kinds := [], alts := [], laidByText := true, laidKinds := [.data], laidTests := true, laidLooks := .later }
def TopDroppedUptoCardSaid : Prop := Claim7.holds Tryz.pinned (.plain (OpenSpec.upto topDroppedSpec)) topDroppedUptoCard
end Rows
end Go.Proofs.YtpnoabbdcakjkaaGreatDoor
