/-
  DERIVED. GIVEN WITH THE SEED: THE CARDS: each row of YthabgdbhgcgemaaGreatDoorRows.lean that lists a variable, with what it lists TIED to the program's text (the seventh form; the later family's looks); each row that meets fmt, with fmt's text TOLD by the authors' own Lean function (tested against real Go, not proved from fmt's source: count such statements apart). THE CARD IS WHAT COUNTS. Prove the row's statement (the work); the ties are given (YthabgdbhgcgemaaGreatDoorTie.lean); close each card by the builder's one call (the guide's Derived/Test/ToyasCard.lean, 'card_holds'). Laid BY PROGRAM, IN A SANDBOX (cutbox-door.mjs). By AI agents, Wed Nov 11 2026. No macro, syntax, notation, axiom, sorry.
-/
import Derived.Test.YthabgdbhgcgemaaGreatDoorRows
import GoSem.ClaimSeven
namespace Go.Proofs.YthabgdbhgcgemaaGreatDoor
namespace Rows

/-- THE TIED CARD OF 'nameplantop.TopSpread'. -/
def topSpreadCard : Claim7 := { stood := { row := topSpreadRow, standIns := [], harness := (true, "a728dc2446b41e7df4e3ca8c6e6b28b4d93492ee5640d7dd2c800e2fa3f39c4e"), looks := false }, kinds := [], alts := [], laidByText := true, laidKinds := [.data], laidTests := true, laidLooks := .later }
def TopSpreadCardSaid : Prop := Claim7.holds Tryz.pinned (.plain (OpenSpec.ofChange topSpreadSpec)) topSpreadCard

/-- THE SECOND FORM's CARD OF 'nameplantop.TopSpread'. -/
def topSpreadUptoCard : Claim7 := { stood := { row := topSpreadUptoRow, standIns := [], harness := (true, "a728dc2446b41e7df4e3ca8c6e6b28b4d93492ee5640d7dd2c800e2fa3f39c4e"), looks := false }, kinds := [], alts := [], laidByText := true, laidKinds := [.data], laidTests := true, laidLooks := .later }
def TopSpreadUptoCardSaid : Prop := Claim7.holds Tryz.pinned (.plain (OpenSpec.upto topSpreadSpec)) topSpreadUptoCard
end Rows
end Go.Proofs.YthabgdbhgcgemaaGreatDoor
