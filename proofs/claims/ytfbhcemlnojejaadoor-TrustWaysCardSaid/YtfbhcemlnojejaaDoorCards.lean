/-
  DERIVED. GIVEN WITH THE SEED: THE CARDS: each row of YtfbhcemlnojejaaDoorRows.lean that lists a variable, with what it lists TIED to the program's text (the seventh form; the later family's looks); each row that meets fmt, with fmt's text TOLD by the authors' own Lean function (tested against real Go, not proved from fmt's source: count such statements apart). THE CARD IS WHAT COUNTS. Prove the row's statement (the work); the ties are given (YtfbhcemlnojejaaDoorTie.lean); close each card by the builder's one call (the guide's Derived/Test/ToyasCard.lean, 'card_holds'). Laid BY PROGRAM, IN A SANDBOX (cutbox-door.mjs). By AI agents, Wed Nov 11 2026. No macro, syntax, notation, axiom, sorry.
-/
import Derived.Test.YtfbhcemlnojejaaDoorRows
import GoSem.ClaimSeven
namespace Go.Proofs.YtfbhcemlnojejaaDoor
namespace Rows

/-- THE TIED CARD OF 'nameplanlaw10.TrustMatchesReference'. -/
def trustMatchesReferenceCard : Claim7 := { stood := { row := trustMatchesReferenceRow, standIns := [], harness := (true, "9c92e60b9b612e1d4f5d6aebc3b7ef664d9070161e0df08edab36c9a5bbaf2ca"), looks := false }, kinds := [], alts := [], laidByText := true, laidKinds := [.data], laidTests := true, laidLooks := .later }
def TrustMatchesReferenceCardSaid : Prop := Claim7.holds Tryd.pinned (.plain (OpenSpec.ofChange trustMatchesReferenceSpec)) trustMatchesReferenceCard

/-- THE TIED CARD OF 'nameplanlaw10.TrustSigned'. -/
def trustSignedCard : Claim7 := { stood := { row := trustSignedRow, standIns := [], harness := (true, "9c92e60b9b612e1d4f5d6aebc3b7ef664d9070161e0df08edab36c9a5bbaf2ca"), looks := false }, kinds := [], alts := [], laidByText := true, laidKinds := [.data], laidTests := true, laidLooks := .later }
def TrustSignedCardSaid : Prop := Claim7.holds Tryd.pinned (.plain (OpenSpec.ofChange trustSignedSpec)) trustSignedCard

/-- THE TIED CARD OF 'nameplanlaw10.TrustTimes'. -/
def trustTimesCard : Claim7 := { stood := { row := trustTimesRow, standIns := [], harness := (true, "9c92e60b9b612e1d4f5d6aebc3b7ef664d9070161e0df08edab36c9a5bbaf2ca"), looks := false }, kinds := [], alts := [], laidByText := true, laidKinds := [.data], laidTests := true, laidLooks := .later }
def TrustTimesCardSaid : Prop := Claim7.holds Tryd.pinned (.plain (OpenSpec.ofChange trustTimesSpec)) trustTimesCard

/-- THE TIED CARD OF 'nameplanlaw10.TrustChains'. -/
def trustChainsCard : Claim7 := { stood := { row := trustChainsRow, standIns := [], harness := (true, "9c92e60b9b612e1d4f5d6aebc3b7ef664d9070161e0df08edab36c9a5bbaf2ca"), looks := false }, kinds := [], alts := [], laidByText := true, laidKinds := [.data], laidTests := true, laidLooks := .later }
def TrustChainsCardSaid : Prop := Claim7.holds Tryd.pinned (.plain (OpenSpec.ofChange trustChainsSpec)) trustChainsCard

/-- THE TIED CARD OF 'nameplanlaw10.TrustFurther'. -/
def trustFurtherCard : Claim7 := { stood := { row := trustFurtherRow, standIns := [], harness := (true, "9c92e60b9b612e1d4f5d6aebc3b7ef664d9070161e0df08edab36c9a5bbaf2ca"), looks := false }, kinds := [], alts := [], laidByText := true, laidKinds := [.data], laidTests := true, laidLooks := .later }
def TrustFurtherCardSaid : Prop := Claim7.holds Tryd.pinned (.plain (OpenSpec.ofChange trustFurtherSpec)) trustFurtherCard

/-- THE TIED CARD OF 'nameplanlaw10.TrustWays'. -/
def trustWaysCard : Claim7 := { stood := { row := trustWaysRow, standIns := [], harness := (true, "9c92e60b9b612e1d4f5d6aebc3b7ef664d9070161e0df08edab36c9a5bbaf2ca"), looks := false }, kinds := [], alts := [], laidByText := true, laidKinds := [.data], laidTests := true, laidLooks := .later }
def TrustWaysCardSaid : Prop := Claim7.holds Tryd.pinned (.plain (OpenSpec.ofChange trustWaysSpec)) trustWaysCard

/-- THE TIED CARD OF 'nameplanlaw28.IterateMatchesReference'. -/
def iterateMatchesReferenceCard : Claim7 := { stood := { row := iterateMatchesReferenceRow, standIns := [], harness := (true, "9c92e60b9b612e1d4f5d6aebc3b7ef664d9070161e0df08edab36c9a5bbaf2ca"), looks := false }, kinds := [], alts := [], laidByText := true, laidKinds := [.data], laidTests := true, laidLooks := .later }
def IterateMatchesReferenceCardSaid : Prop := Claim7.holds Tryd.pinned (.plain (OpenSpec.ofChange iterateMatchesReferenceSpec)) iterateMatchesReferenceCard

/-- THE TIED CARD OF 'nameplanlaw28.IterateKnown'. -/
def iterateKnownCard : Claim7 := { stood := { row := iterateKnownRow, standIns := [], harness := (true, "9c92e60b9b612e1d4f5d6aebc3b7ef664d9070161e0df08edab36c9a5bbaf2ca"), looks := false }, kinds := [], alts := [], laidByText := true, laidKinds := [.data], laidTests := true, laidLooks := .later }
def IterateKnownCardSaid : Prop := Claim7.holds Tryd.pinned (.plain (OpenSpec.ofChange iterateKnownSpec)) iterateKnownCard

/-- THE TIED CARD OF 'nameplanlaw28.IterateAsks'. -/
def iterateAsksCard : Claim7 := { stood := { row := iterateAsksRow, standIns := [], harness := (true, "9c92e60b9b612e1d4f5d6aebc3b7ef664d9070161e0df08edab36c9a5bbaf2ca"), looks := false }, kinds := [], alts := [], laidByText := true, laidKinds := [.data], laidTests := true, laidLooks := .later }
def IterateAsksCardSaid : Prop := Claim7.holds Tryd.pinned (.plain (OpenSpec.ofChange iterateAsksSpec)) iterateAsksCard

/-- THE TIED CARD OF 'nameplanlaw28.IterateServers'. -/
def iterateServersCard : Claim7 := { stood := { row := iterateServersRow, standIns := [], harness := (true, "9c92e60b9b612e1d4f5d6aebc3b7ef664d9070161e0df08edab36c9a5bbaf2ca"), looks := false }, kinds := [], alts := [], laidByText := true, laidKinds := [.data], laidTests := true, laidLooks := .later }
def IterateServersCardSaid : Prop := Claim7.holds Tryd.pinned (.plain (OpenSpec.ofChange iterateServersSpec)) iterateServersCard

/-- THE TIED CARD OF 'nameplanlaw28.IterateZones'. -/
def iterateZonesCard : Claim7 := { stood := { row := iterateZonesRow, standIns := [], harness := (true, "9c92e60b9b612e1d4f5d6aebc3b7ef664d9070161e0df08edab36c9a5bbaf2ca"), looks := false }, kinds := [], alts := [], laidByText := true, laidKinds := [.data], laidTests := true, laidLooks := .later }
def IterateZonesCardSaid : Prop := Claim7.holds Tryd.pinned (.plain (OpenSpec.ofChange iterateZonesSpec)) iterateZonesCard

/-- THE SECOND FORM's CARD OF 'nameplanlaw10.TrustMatchesReference'. -/
def trustMatchesReferenceUptoCard : Claim7 := { stood := { row := trustMatchesReferenceUptoRow, standIns := [], harness := (true, "9c92e60b9b612e1d4f5d6aebc3b7ef664d9070161e0df08edab36c9a5bbaf2ca"), looks := false }, kinds := [], alts := [], laidByText := true, laidKinds := [.data], laidTests := true, laidLooks := .later }
def TrustMatchesReferenceUptoCardSaid : Prop := Claim7.holds Tryd.pinned (.plain (OpenSpec.upto trustMatchesReferenceSpec)) trustMatchesReferenceUptoCard

/-- THE SECOND FORM's CARD OF 'nameplanlaw10.TrustSigned'. -/
def trustSignedUptoCard : Claim7 := { stood := { row := trustSignedUptoRow, standIns := [], harness := (true, "9c92e60b9b612e1d4f5d6aebc3b7ef664d9070161e0df08edab36c9a5bbaf2ca"), looks := false }, kinds := [], alts := [], laidByText := true, laidKinds := [.data], laidTests := true, laidLooks := .later }
def TrustSignedUptoCardSaid : Prop := Claim7.holds Tryd.pinned (.plain (OpenSpec.upto trustSignedSpec)) trustSignedUptoCard

/-- THE SECOND FORM's CARD OF 'nameplanlaw10.TrustTimes'. -/
def trustTimesUptoCard : Claim7 := { stood := { row := trustTimesUptoRow, standIns := [], harness := (true, "9c92e60b9b612e1d4f5d6aebc3b7ef664d9070161e0df08edab36c9a5bbaf2ca"), looks := false }, kinds := [], alts := [], laidByText := true, laidKinds := [.data], laidTests := true, laidLooks := .later }
def TrustTimesUptoCardSaid : Prop := Claim7.holds Tryd.pinned (.plain (OpenSpec.upto trustTimesSpec)) trustTimesUptoCard

/-- THE SECOND FORM's CARD OF 'nameplanlaw10.TrustChains'. -/
def trustChainsUptoCard : Claim7 := { stood := { row := trustChainsUptoRow, standIns := [], harness := (true, "9c92e60b9b612e1d4f5d6aebc3b7ef664d9070161e0df08edab36c9a5bbaf2ca"), looks := false }, kinds := [], alts := [], laidByText := true, laidKinds := [.data], laidTests := true, laidLooks := .later }
def TrustChainsUptoCardSaid : Prop := Claim7.holds Tryd.pinned (.plain (OpenSpec.upto trustChainsSpec)) trustChainsUptoCard

/-- THE SECOND FORM's CARD OF 'nameplanlaw10.TrustFurther'. -/
def trustFurtherUptoCard : Claim7 := { stood := { row := trustFurtherUptoRow, standIns := [], harness := (true, "9c92e60b9b612e1d4f5d6aebc3b7ef664d9070161e0df08edab36c9a5bbaf2ca"), looks := false }, kinds := [], alts := [], laidByText := true, laidKinds := [.data], laidTests := true, laidLooks := .later }
def TrustFurtherUptoCardSaid : Prop := Claim7.holds Tryd.pinned (.plain (OpenSpec.upto trustFurtherSpec)) trustFurtherUptoCard

/-- THE SECOND FORM's CARD OF 'nameplanlaw10.TrustWays'. -/
def trustWaysUptoCard : Claim7 := { stood := { row := trustWaysUptoRow, standIns := [], harness := (true, "9c92e60b9b612e1d4f5d6aebc3b7ef664d9070161e0df08edab36c9a5bbaf2ca"), looks := false }, kinds := [], alts := [], laidByText := true, laidKinds := [.data], laidTests := true, laidLooks := .later }
def TrustWaysUptoCardSaid : Prop := Claim7.holds Tryd.pinned (.plain (OpenSpec.upto trustWaysSpec)) trustWaysUptoCard

/-- THE SECOND FORM's CARD OF 'nameplanlaw28.IterateMatchesReference'. -/
def iterateMatchesReferenceUptoCard : Claim7 := { stood := { row := iterateMatchesReferenceUptoRow, standIns := [], harness := (true, "9c92e60b9b612e1d4f5d6aebc3b7ef664d9070161e0df08edab36c9a5bbaf2ca"), looks := false }, kinds := [], alts := [], laidByText := true, laidKinds := [.data], laidTests := true, laidLooks := .later }
def IterateMatchesReferenceUptoCardSaid : Prop := Claim7.holds Tryd.pinned (.plain (OpenSpec.upto iterateMatchesReferenceSpec)) iterateMatchesReferenceUptoCard

/-- THE SECOND FORM's CARD OF 'nameplanlaw28.IterateKnown'. -/
def iterateKnownUptoCard : Claim7 := { stood := { row := iterateKnownUptoRow, standIns := [], harness := (true, "9c92e60b9b612e1d4f5d6aebc3b7ef664d9070161e0df08edab36c9a5bbaf2ca"), looks := false }, kinds := [], alts := [], laidByText := true, laidKinds := [.data], laidTests := true, laidLooks := .later }
def IterateKnownUptoCardSaid : Prop := Claim7.holds Tryd.pinned (.plain (OpenSpec.upto iterateKnownSpec)) iterateKnownUptoCard

/-- THE SECOND FORM's CARD OF 'nameplanlaw28.IterateAsks'. -/
def iterateAsksUptoCard : Claim7 := { stood := { row := iterateAsksUptoRow, standIns := [], harness := (true, "9c92e60b9b612e1d4f5d6aebc3b7ef664d9070161e0df08edab36c9a5bbaf2ca"), looks := false }, kinds := [], alts := [], laidByText := true, laidKinds := [.data], laidTests := true, laidLooks := .later }
def IterateAsksUptoCardSaid : Prop := Claim7.holds Tryd.pinned (.plain (OpenSpec.upto iterateAsksSpec)) iterateAsksUptoCard

/-- THE SECOND FORM's CARD OF 'nameplanlaw28.IterateServers'. -/
def iterateServersUptoCard : Claim7 := { stood := { row := iterateServersUptoRow, standIns := [], harness := (true, "9c92e60b9b612e1d4f5d6aebc3b7ef664d9070161e0df08edab36c9a5bbaf2ca"), looks := false }, kinds := [], alts := [], laidByText := true, laidKinds := [.data], laidTests := true, laidLooks := .later }
def IterateServersUptoCardSaid : Prop := Claim7.holds Tryd.pinned (.plain (OpenSpec.upto iterateServersSpec)) iterateServersUptoCard

/-- THE SECOND FORM's CARD OF 'nameplanlaw28.IterateZones'. -/
def iterateZonesUptoCard : Claim7 := { stood := { row := iterateZonesUptoRow, standIns := [], harness := (true, "9c92e60b9b612e1d4f5d6aebc3b7ef664d9070161e0df08edab36c9a5bbaf2ca"), looks := false }, kinds := [], alts := [], laidByText := true, laidKinds := [.data], laidTests := true, laidLooks := .later }
def IterateZonesUptoCardSaid : Prop := Claim7.holds Tryd.pinned (.plain (OpenSpec.upto iterateZonesSpec)) iterateZonesUptoCard
end Rows
end Go.Proofs.YtfbhcemlnojejaaDoor
