/-
  DERIVED. GIVEN WITH THE SEED: THE CARDS: each row of YtogcofeencgipaaDoorRows.lean that lists a variable, with what it lists TIED to the program's text (the seventh form; the later family's looks); each row that meets fmt, with fmt's text TOLD by the authors' own Lean function (tested against real Go, not proved from fmt's source: count such statements apart). THE CARD IS WHAT COUNTS. Prove the row's statement (the work); the ties are given (YtogcofeencgipaaDoorTie.lean); close each card by the builder's one call (the guide's Derived/Test/ToyasCard.lean, 'card_holds'). Laid BY PROGRAM, IN A SANDBOX (cutbox-door.mjs). By AI agents, Wed Nov 11 2026. No macro, syntax, notation, axiom, sorry.
-/
import Derived.Test.YtogcofeencgipaaDoorRows
import GoSem.ClaimSeven
namespace Go.Proofs.YtogcofeencgipaaDoor
namespace Rows

/-- THE TIED CARD OF 'nameplanlaw26.PacketDamage'. -/
def packetDamageCard : Claim7 := { stood := { row := packetDamageRow, standIns := [], harness := (true, "1e4af9e4249652f0f01281664a47980c7db4fa71098cfe7d49f05c8a2d2d6fad"), looks := false }, kinds := [], alts := [], laidByText := true, laidKinds := [.sentinel, .data], laidTests := true, laidLooks := .later }
def PacketDamageCardSaid : Prop := Claim7.holds Tryd.pinned (.plain (OpenSpec.ofChange packetDamageSpec)) packetDamageCard

/-- THE TIED CARD OF 'nameplanlaw26.PacketCut'. -/
def packetCutCard : Claim7 := { stood := { row := packetCutRow, standIns := [], harness := (true, "1e4af9e4249652f0f01281664a47980c7db4fa71098cfe7d49f05c8a2d2d6fad"), looks := false }, kinds := [], alts := [], laidByText := true, laidKinds := [.sentinel, .data], laidTests := true, laidLooks := .later }
def PacketCutCardSaid : Prop := Claim7.holds Tryd.pinned (.plain (OpenSpec.ofChange packetCutSpec)) packetCutCard

/-- THE SECOND FORM's CARD OF 'nameplanlaw26.PacketDamage'. -/
def packetDamageUptoCard : Claim7 := { stood := { row := packetDamageUptoRow, standIns := [], harness := (true, "1e4af9e4249652f0f01281664a47980c7db4fa71098cfe7d49f05c8a2d2d6fad"), looks := false }, kinds := [], alts := [], laidByText := true, laidKinds := [.sentinel, .data], laidTests := true, laidLooks := .later }
def PacketDamageUptoCardSaid : Prop := Claim7.holds Tryd.pinned (.plain (OpenSpec.upto packetDamageSpec)) packetDamageUptoCard

/-- THE SECOND FORM's CARD OF 'nameplanlaw26.PacketCut'. -/
def packetCutUptoCard : Claim7 := { stood := { row := packetCutUptoRow, standIns := [], harness := (true, "1e4af9e4249652f0f01281664a47980c7db4fa71098cfe7d49f05c8a2d2d6fad"), looks := false }, kinds := [], alts := [], laidByText := true, laidKinds := [.sentinel, .data], laidTests := true, laidLooks := .later }
def PacketCutUptoCardSaid : Prop := Claim7.holds Tryd.pinned (.plain (OpenSpec.upto packetCutSpec)) packetCutUptoCard
end Rows
end Go.Proofs.YtogcofeencgipaaDoor
