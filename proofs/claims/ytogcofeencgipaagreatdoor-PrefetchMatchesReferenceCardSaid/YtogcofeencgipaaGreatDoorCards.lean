/-
  DERIVED. GIVEN WITH THE SEED: THE CARDS: each row of YtogcofeencgipaaGreatDoorRows.lean that lists a variable, with what it lists TIED to the program's text (the seventh form; the later family's looks); each row that meets fmt, with fmt's text TOLD by the authors' own Lean function (tested against real Go, not proved from fmt's source: count such statements apart). THE CARD IS WHAT COUNTS. Prove the row's statement (the work); the ties are given (YtogcofeencgipaaGreatDoorTie.lean); close each card by the builder's one call (the guide's Derived/Test/ToyasCard.lean, 'card_holds'). Laid BY PROGRAM, IN A SANDBOX (cutbox-door.mjs). By AI agents, Wed Nov 11 2026. No macro, syntax, notation, axiom, sorry.
-/
import Derived.Test.YtogcofeencgipaaGreatDoorRows
import GoSem.ClaimSeven
namespace Go.Proofs.YtogcofeencgipaaGreatDoor
namespace Rows

/-- THE TIED CARD OF 'nameplanlaw26.PacketMatchesReference'. -/
def packetMatchesReferenceCard : Claim7 := { stood := { row := packetMatchesReferenceRow, standIns := [], harness := (true, "cfe396a5d50549440b0175483d6a1786814fca1b7a0a7e0ceea967071e4db563"), looks := false }, kinds := [], alts := [], laidByText := true, laidKinds := [.sentinel, .data], laidTests := true, laidLooks := .later }
def PacketMatchesReferenceCardSaid : Prop := Claim7.holds Tryz.pinned (.plain (OpenSpec.ofChange packetMatchesReferenceSpec)) packetMatchesReferenceCard

/-- THE TIED CARD OF 'nameplanlaw26.PacketBytes'. -/
def packetBytesCard : Claim7 := { stood := { row := packetBytesRow, standIns := [], harness := (true, "cfe396a5d50549440b0175483d6a1786814fca1b7a0a7e0ceea967071e4db563"), looks := false }, kinds := [], alts := [], laidByText := true, laidKinds := [.sentinel, .data], laidTests := true, laidLooks := .later }
def PacketBytesCardSaid : Prop := Claim7.holds Tryz.pinned (.plain (OpenSpec.ofChange packetBytesSpec)) packetBytesCard

/-- THE TIED CARD OF 'nameplanlaw26.PacketMatches'. -/
def packetMatchesCard : Claim7 := { stood := { row := packetMatchesRow, standIns := [], harness := (true, "cfe396a5d50549440b0175483d6a1786814fca1b7a0a7e0ceea967071e4db563"), looks := false }, kinds := [], alts := [], laidByText := true, laidKinds := [.sentinel, .data], laidTests := true, laidLooks := .later }
def PacketMatchesCardSaid : Prop := Claim7.holds Tryz.pinned (.plain (OpenSpec.ofChange packetMatchesSpec)) packetMatchesCard

/-- THE TIED CARD OF 'nameplanlaw26.PacketForged'. -/
def packetForgedCard : Claim7 := { stood := { row := packetForgedRow, standIns := [], harness := (true, "cfe396a5d50549440b0175483d6a1786814fca1b7a0a7e0ceea967071e4db563"), looks := false }, kinds := [], alts := [], laidByText := true, laidKinds := [.sentinel, .data], laidTests := true, laidLooks := .later }
def PacketForgedCardSaid : Prop := Claim7.holds Tryz.pinned (.plain (OpenSpec.ofChange packetForgedSpec)) packetForgedCard

/-- THE TIED CARD OF 'nameplanlaw32.PrefetchMatchesReference'. -/
def prefetchMatchesReferenceCard : Claim7 := { stood := { row := prefetchMatchesReferenceRow, standIns := [], harness := (true, "cfe396a5d50549440b0175483d6a1786814fca1b7a0a7e0ceea967071e4db563"), looks := false }, kinds := [], alts := [], laidByText := true, laidKinds := [.data], laidTests := true, laidLooks := .later }
def PrefetchMatchesReferenceCardSaid : Prop := Claim7.holds Tryz.pinned (.plain (OpenSpec.ofChange prefetchMatchesReferenceSpec)) prefetchMatchesReferenceCard

/-- THE TIED CARD OF 'nameplanlaw32.PrefetchDue'. -/
def prefetchDueCard : Claim7 := { stood := { row := prefetchDueRow, standIns := [], harness := (true, "cfe396a5d50549440b0175483d6a1786814fca1b7a0a7e0ceea967071e4db563"), looks := false }, kinds := [], alts := [], laidByText := true, laidKinds := [.data], laidTests := true, laidLooks := .later }
def PrefetchDueCardSaid : Prop := Claim7.holds Tryz.pinned (.plain (OpenSpec.ofChange prefetchDueSpec)) prefetchDueCard

/-- THE TIED CARD OF 'nameplanlaw32.PrefetchCounts'. -/
def prefetchCountsCard : Claim7 := { stood := { row := prefetchCountsRow, standIns := [], harness := (true, "cfe396a5d50549440b0175483d6a1786814fca1b7a0a7e0ceea967071e4db563"), looks := false }, kinds := [], alts := [], laidByText := true, laidKinds := [.data], laidTests := true, laidLooks := .later }
def PrefetchCountsCardSaid : Prop := Claim7.holds Tryz.pinned (.plain (OpenSpec.ofChange prefetchCountsSpec)) prefetchCountsCard

/-- THE TIED CARD OF 'nameplanlaw32.PrefetchLearns'. -/
def prefetchLearnsCard : Claim7 := { stood := { row := prefetchLearnsRow, standIns := [], harness := (true, "cfe396a5d50549440b0175483d6a1786814fca1b7a0a7e0ceea967071e4db563"), looks := false }, kinds := [], alts := [], laidByText := true, laidKinds := [.data], laidTests := true, laidLooks := .later }
def PrefetchLearnsCardSaid : Prop := Claim7.holds Tryz.pinned (.plain (OpenSpec.ofChange prefetchLearnsSpec)) prefetchLearnsCard

/-- THE TIED CARD OF 'nameplanlaw32.PrefetchDenies'. -/
def prefetchDeniesCard : Claim7 := { stood := { row := prefetchDeniesRow, standIns := [], harness := (true, "cfe396a5d50549440b0175483d6a1786814fca1b7a0a7e0ceea967071e4db563"), looks := false }, kinds := [], alts := [], laidByText := true, laidKinds := [.data], laidTests := true, laidLooks := .later }
def PrefetchDeniesCardSaid : Prop := Claim7.holds Tryz.pinned (.plain (OpenSpec.ofChange prefetchDeniesSpec)) prefetchDeniesCard

/-- THE TIED CARD OF 'nameplanlaw32.PrefetchOthers'. -/
def prefetchOthersCard : Claim7 := { stood := { row := prefetchOthersRow, standIns := [], harness := (true, "cfe396a5d50549440b0175483d6a1786814fca1b7a0a7e0ceea967071e4db563"), looks := false }, kinds := [], alts := [], laidByText := true, laidKinds := [.data], laidTests := true, laidLooks := .later }
def PrefetchOthersCardSaid : Prop := Claim7.holds Tryz.pinned (.plain (OpenSpec.ofChange prefetchOthersSpec)) prefetchOthersCard

/-- THE SECOND FORM's CARD OF 'nameplanlaw26.PacketMatchesReference'. -/
def packetMatchesReferenceUptoCard : Claim7 := { stood := { row := packetMatchesReferenceUptoRow, standIns := [], harness := (true, "cfe396a5d50549440b0175483d6a1786814fca1b7a0a7e0ceea967071e4db563"), looks := false }, kinds := [], alts := [], laidByText := true, laidKinds := [.sentinel, .data], laidTests := true, laidLooks := .later }
def PacketMatchesReferenceUptoCardSaid : Prop := Claim7.holds Tryz.pinned (.plain (OpenSpec.upto packetMatchesReferenceSpec)) packetMatchesReferenceUptoCard

/-- THE SECOND FORM's CARD OF 'nameplanlaw26.PacketBytes'. -/
def packetBytesUptoCard : Claim7 := { stood := { row := packetBytesUptoRow, standIns := [], harness := (true, "cfe396a5d50549440b0175483d6a1786814fca1b7a0a7e0ceea967071e4db563"), looks := false }, kinds := [], alts := [], laidByText := true, laidKinds := [.sentinel, .data], laidTests := true, laidLooks := .later }
def PacketBytesUptoCardSaid : Prop := Claim7.holds Tryz.pinned (.plain (OpenSpec.upto packetBytesSpec)) packetBytesUptoCard

/-- THE SECOND FORM's CARD OF 'nameplanlaw26.PacketMatches'. -/
def packetMatchesUptoCard : Claim7 := { stood := { row := packetMatchesUptoRow, standIns := [], harness := (true, "cfe396a5d50549440b0175483d6a1786814fca1b7a0a7e0ceea967071e4db563"), looks := false }, kinds := [], alts := [], laidByText := true, laidKinds := [.sentinel, .data], laidTests := true, laidLooks := .later }
def PacketMatchesUptoCardSaid : Prop := Claim7.holds Tryz.pinned (.plain (OpenSpec.upto packetMatchesSpec)) packetMatchesUptoCard

/-- THE SECOND FORM's CARD OF 'nameplanlaw26.PacketForged'. -/
def packetForgedUptoCard : Claim7 := { stood := { row := packetForgedUptoRow, standIns := [], harness := (true, "cfe396a5d50549440b0175483d6a1786814fca1b7a0a7e0ceea967071e4db563"), looks := false }, kinds := [], alts := [], laidByText := true, laidKinds := [.sentinel, .data], laidTests := true, laidLooks := .later }
def PacketForgedUptoCardSaid : Prop := Claim7.holds Tryz.pinned (.plain (OpenSpec.upto packetForgedSpec)) packetForgedUptoCard

/-- THE SECOND FORM's CARD OF 'nameplanlaw32.PrefetchMatchesReference'. -/
def prefetchMatchesReferenceUptoCard : Claim7 := { stood := { row := prefetchMatchesReferenceUptoRow, standIns := [], harness := (true, "cfe396a5d50549440b0175483d6a1786814fca1b7a0a7e0ceea967071e4db563"), looks := false }, kinds := [], alts := [], laidByText := true, laidKinds := [.data], laidTests := true, laidLooks := .later }
def PrefetchMatchesReferenceUptoCardSaid : Prop := Claim7.holds Tryz.pinned (.plain (OpenSpec.upto prefetchMatchesReferenceSpec)) prefetchMatchesReferenceUptoCard

/-- THE SECOND FORM's CARD OF 'nameplanlaw32.PrefetchDue'. -/
def prefetchDueUptoCard : Claim7 := { stood := { row := prefetchDueUptoRow, standIns := [], harness := (true, "cfe396a5d50549440b0175483d6a1786814fca1b7a0a7e0ceea967071e4db563"), looks := false }, kinds := [], alts := [], laidByText := true, laidKinds := [.data], laidTests := true, laidLooks := .later }
def PrefetchDueUptoCardSaid : Prop := Claim7.holds Tryz.pinned (.plain (OpenSpec.upto prefetchDueSpec)) prefetchDueUptoCard

/-- THE SECOND FORM's CARD OF 'nameplanlaw32.PrefetchCounts'. -/
def prefetchCountsUptoCard : Claim7 := { stood := { row := prefetchCountsUptoRow, standIns := [], harness := (true, "cfe396a5d50549440b0175483d6a1786814fca1b7a0a7e0ceea967071e4db563"), looks := false }, kinds := [], alts := [], laidByText := true, laidKinds := [.data], laidTests := true, laidLooks := .later }
def PrefetchCountsUptoCardSaid : Prop := Claim7.holds Tryz.pinned (.plain (OpenSpec.upto prefetchCountsSpec)) prefetchCountsUptoCard

/-- THE SECOND FORM's CARD OF 'nameplanlaw32.PrefetchLearns'. -/
def prefetchLearnsUptoCard : Claim7 := { stood := { row := prefetchLearnsUptoRow, standIns := [], harness := (true, "cfe396a5d50549440b0175483d6a1786814fca1b7a0a7e0ceea967071e4db563"), looks := false }, kinds := [], alts := [], laidByText := true, laidKinds := [.data], laidTests := true, laidLooks := .later }
def PrefetchLearnsUptoCardSaid : Prop := Claim7.holds Tryz.pinned (.plain (OpenSpec.upto prefetchLearnsSpec)) prefetchLearnsUptoCard

/-- THE SECOND FORM's CARD OF 'nameplanlaw32.PrefetchDenies'. -/
def prefetchDeniesUptoCard : Claim7 := { stood := { row := prefetchDeniesUptoRow, standIns := [], harness := (true, "cfe396a5d50549440b0175483d6a1786814fca1b7a0a7e0ceea967071e4db563"), looks := false }, kinds := [], alts := [], laidByText := true, laidKinds := [.data], laidTests := true, laidLooks := .later }
def PrefetchDeniesUptoCardSaid : Prop := Claim7.holds Tryz.pinned (.plain (OpenSpec.upto prefetchDeniesSpec)) prefetchDeniesUptoCard

/-- THE SECOND FORM's CARD OF 'nameplanlaw32.PrefetchOthers'. -/
def prefetchOthersUptoCard : Claim7 := { stood := { row := prefetchOthersUptoRow, standIns := [], harness := (true, "cfe396a5d50549440b0175483d6a1786814fca1b7a0a7e0ceea967071e4db563"), looks := false }, kinds := [], alts := [], laidByText := true, laidKinds := [.data], laidTests := true, laidLooks := .later }
def PrefetchOthersUptoCardSaid : Prop := Claim7.holds Tryz.pinned (.plain (OpenSpec.upto prefetchOthersSpec)) prefetchOthersUptoCard
end Rows
end Go.Proofs.YtogcofeencgipaaGreatDoor
