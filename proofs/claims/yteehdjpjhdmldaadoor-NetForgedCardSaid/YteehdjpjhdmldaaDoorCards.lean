/-
  DERIVED. GIVEN WITH THE SEED: THE CARDS: each row of YteehdjpjhdmldaaDoorRows.lean that lists a variable, with what it lists TIED to the program's text (the seventh form; the later family's looks); each row that meets fmt, with fmt's text TOLD by the authors' own Lean function (tested against real Go, not proved from fmt's source: count such statements apart). THE CARD IS WHAT COUNTS. Prove the row's statement (the work); the ties are given (YteehdjpjhdmldaaDoorTie.lean); close each card by the builder's one call (the guide's Derived/Test/ToyasCard.lean, 'card_holds'). Laid BY PROGRAM, IN A SANDBOX (cutbox-door.mjs). By AI agents, Wed Nov 11 2026. No macro, syntax, notation, axiom, sorry.
-/
import Derived.Test.YteehdjpjhdmldaaDoorRows
import GoSem.ClaimSeven
namespace Go.Proofs.YteehdjpjhdmldaaDoor
namespace Rows

/-- THE TIED CARD OF 'nameplanlaw27.NetMatchesReference'. -/
def netMatchesReferenceCard : Claim7 := { stood := { row := netMatchesReferenceRow, standIns := [], harness := (true, "4e874ff13bb6b517c0fc9957a05836f757a7973a76fdef03acfbc86e6d385692"), looks := false }, kinds := [], alts := [], laidByText := true, laidKinds := [.data], laidTests := true, laidLooks := .later }
def NetMatchesReferenceCardSaid : Prop := Claim7.holds Tryd.pinned (.plain (OpenSpec.ofChange netMatchesReferenceSpec)) netMatchesReferenceCard

/-- THE TIED CARD OF 'nameplanlaw27.NetDelivers'. -/
def netDeliversCard : Claim7 := { stood := { row := netDeliversRow, standIns := [], harness := (true, "4e874ff13bb6b517c0fc9957a05836f757a7973a76fdef03acfbc86e6d385692"), looks := false }, kinds := [], alts := [], laidByText := true, laidKinds := [.data], laidTests := true, laidLooks := .later }
def NetDeliversCardSaid : Prop := Claim7.holds Tryd.pinned (.plain (OpenSpec.ofChange netDeliversSpec)) netDeliversCard

/-- THE TIED CARD OF 'nameplanlaw27.NetLost'. -/
def netLostCard : Claim7 := { stood := { row := netLostRow, standIns := [], harness := (true, "4e874ff13bb6b517c0fc9957a05836f757a7973a76fdef03acfbc86e6d385692"), looks := false }, kinds := [], alts := [], laidByText := true, laidKinds := [.data], laidTests := true, laidLooks := .later }
def NetLostCardSaid : Prop := Claim7.holds Tryd.pinned (.plain (OpenSpec.ofChange netLostSpec)) netLostCard

/-- THE TIED CARD OF 'nameplanlaw27.NetOnce'. -/
def netOnceCard : Claim7 := { stood := { row := netOnceRow, standIns := [], harness := (true, "4e874ff13bb6b517c0fc9957a05836f757a7973a76fdef03acfbc86e6d385692"), looks := false }, kinds := [], alts := [], laidByText := true, laidKinds := [.data], laidTests := true, laidLooks := .later }
def NetOnceCardSaid : Prop := Claim7.holds Tryd.pinned (.plain (OpenSpec.ofChange netOnceSpec)) netOnceCard

/-- THE TIED CARD OF 'nameplanlaw27.NetOrder'. -/
def netOrderCard : Claim7 := { stood := { row := netOrderRow, standIns := [], harness := (true, "4e874ff13bb6b517c0fc9957a05836f757a7973a76fdef03acfbc86e6d385692"), looks := false }, kinds := [], alts := [], laidByText := true, laidKinds := [.data], laidTests := true, laidLooks := .later }
def NetOrderCardSaid : Prop := Claim7.holds Tryd.pinned (.plain (OpenSpec.ofChange netOrderSpec)) netOrderCard

/-- THE TIED CARD OF 'nameplanlaw27.NetForged'. -/
def netForgedCard : Claim7 := { stood := { row := netForgedRow, standIns := [], harness := (true, "4e874ff13bb6b517c0fc9957a05836f757a7973a76fdef03acfbc86e6d385692"), looks := false }, kinds := [], alts := [], laidByText := true, laidKinds := [.data], laidTests := true, laidLooks := .later }
def NetForgedCardSaid : Prop := Claim7.holds Tryd.pinned (.plain (OpenSpec.ofChange netForgedSpec)) netForgedCard

/-- THE SECOND FORM's CARD OF 'nameplanlaw27.NetMatchesReference'. -/
def netMatchesReferenceUptoCard : Claim7 := { stood := { row := netMatchesReferenceUptoRow, standIns := [], harness := (true, "4e874ff13bb6b517c0fc9957a05836f757a7973a76fdef03acfbc86e6d385692"), looks := false }, kinds := [], alts := [], laidByText := true, laidKinds := [.data], laidTests := true, laidLooks := .later }
def NetMatchesReferenceUptoCardSaid : Prop := Claim7.holds Tryd.pinned (.plain (OpenSpec.upto netMatchesReferenceSpec)) netMatchesReferenceUptoCard

/-- THE SECOND FORM's CARD OF 'nameplanlaw27.NetDelivers'. -/
def netDeliversUptoCard : Claim7 := { stood := { row := netDeliversUptoRow, standIns := [], harness := (true, "4e874ff13bb6b517c0fc9957a05836f757a7973a76fdef03acfbc86e6d385692"), looks := false }, kinds := [], alts := [], laidByText := true, laidKinds := [.data], laidTests := true, laidLooks := .later }
def NetDeliversUptoCardSaid : Prop := Claim7.holds Tryd.pinned (.plain (OpenSpec.upto netDeliversSpec)) netDeliversUptoCard

/-- THE SECOND FORM's CARD OF 'nameplanlaw27.NetLost'. -/
def netLostUptoCard : Claim7 := { stood := { row := netLostUptoRow, standIns := [], harness := (true, "4e874ff13bb6b517c0fc9957a05836f757a7973a76fdef03acfbc86e6d385692"), looks := false }, kinds := [], alts := [], laidByText := true, laidKinds := [.data], laidTests := true, laidLooks := .later }
def NetLostUptoCardSaid : Prop := Claim7.holds Tryd.pinned (.plain (OpenSpec.upto netLostSpec)) netLostUptoCard

/-- THE SECOND FORM's CARD OF 'nameplanlaw27.NetOnce'. -/
def netOnceUptoCard : Claim7 := { stood := { row := netOnceUptoRow, standIns := [], harness := (true, "4e874ff13bb6b517c0fc9957a05836f757a7973a76fdef03acfbc86e6d385692"), looks := false }, kinds := [], alts := [], laidByText := true, laidKinds := [.data], laidTests := true, laidLooks := .later }
def NetOnceUptoCardSaid : Prop := Claim7.holds Tryd.pinned (.plain (OpenSpec.upto netOnceSpec)) netOnceUptoCard

/-- THE SECOND FORM's CARD OF 'nameplanlaw27.NetOrder'. -/
def netOrderUptoCard : Claim7 := { stood := { row := netOrderUptoRow, standIns := [], harness := (true, "4e874ff13bb6b517c0fc9957a05836f757a7973a76fdef03acfbc86e6d385692"), looks := false }, kinds := [], alts := [], laidByText := true, laidKinds := [.data], laidTests := true, laidLooks := .later }
def NetOrderUptoCardSaid : Prop := Claim7.holds Tryd.pinned (.plain (OpenSpec.upto netOrderSpec)) netOrderUptoCard

/-- THE SECOND FORM's CARD OF 'nameplanlaw27.NetForged'. -/
def netForgedUptoCard : Claim7 := { stood := { row := netForgedUptoRow, standIns := [], harness := (true, "4e874ff13bb6b517c0fc9957a05836f757a7973a76fdef03acfbc86e6d385692"), looks := false }, kinds := [], alts := [], laidByText := true, laidKinds := [.data], laidTests := true, laidLooks := .later }
def NetForgedUptoCardSaid : Prop := Claim7.holds Tryd.pinned (.plain (OpenSpec.upto netForgedSpec)) netForgedUptoCard
end Rows
end Go.Proofs.YteehdjpjhdmldaaDoor
