/-
  DERIVED. GIVEN WITH THE SEED: THE CARDS: each row of YtepljgpikfeklaaGreatDoorRows.lean that lists a variable, with what it lists TIED to the program's text (the seventh form; the later family's looks); each row that meets fmt, with fmt's text TOLD by the authors' own Lean function (tested against real Go, not proved from fmt's source: count such statements apart). THE CARD IS WHAT COUNTS. Prove the row's statement (the work); the ties are given (YtepljgpikfeklaaGreatDoorTie.lean); close each card by the builder's one call (the guide's Derived/Test/ToyasCard.lean, 'card_holds'). Laid BY PROGRAM, IN A SANDBOX (cutbox-door.mjs). By AI agents, Wed Nov 11 2026. No macro, syntax, notation, axiom, sorry.
-/
import Derived.Test.YtepljgpikfeklaaGreatDoorRows
import GoSem.ClaimSeven
namespace Go.Proofs.YtepljgpikfeklaaGreatDoor
namespace Rows

/-- THE TIED CARD OF 'nameplantop.TopClocks'. -/
def topClocksCard : Claim7 := { stood := { row := topClocksRow, standIns := [], harness := (true, "5f2048637be16ea762b7970184f6fde2423c8866bfdbc1c5ea5702f5c67df17b"), looks := false }, kinds := [], alts := [], laidByText := true, laidKinds := [.data, .data, .data, .data], laidTests := true, laidLooks := .later }
def TopClocksCardSaid : Prop := Claim7.holds Tryz.pinned (.plain (OpenSpec.ofChange topClocksSpec)) topClocksCard

/-- THE SECOND FORM's CARD OF 'nameplantop.TopClocks'. -/
def topClocksUptoCard : Claim7 := { stood := { row := topClocksUptoRow, standIns := [], harness := (true, "5f2048637be16ea762b7970184f6fde2423c8866bfdbc1c5ea5702f5c67df17b"), looks := false }, kinds := [], alts := [], laidByText := true, laidKinds := [.data, .data, .data, .data], laidTests := true, laidLooks := .later }
def TopClocksUptoCardSaid : Prop := Claim7.holds Tryz.pinned (.plain (OpenSpec.upto topClocksSpec)) topClocksUptoCard
end Rows
end Go.Proofs.YtepljgpikfeklaaGreatDoor
