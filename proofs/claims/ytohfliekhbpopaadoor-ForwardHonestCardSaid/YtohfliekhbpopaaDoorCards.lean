/-
  DERIVED. GIVEN WITH THE SEED: THE CARDS: each row of YtohfliekhbpopaaDoorRows.lean that lists a variable, with what it lists TIED to the program's text (the seventh form; the later family's looks); each row that meets fmt, with fmt's text TOLD by the authors' own Lean function (tested against real Go, not proved from fmt's source: count such statements apart). THE CARD IS WHAT COUNTS. Prove the row's statement (the work); the ties are given (YtohfliekhbpopaaDoorTie.lean); close each card by the builder's one call (the guide's Derived/Test/ToyasCard.lean, 'card_holds'). Laid BY PROGRAM, IN A SANDBOX (cutbox-door.mjs). By AI agents, Wed Nov 11 2026. No macro, syntax, notation, axiom, sorry.
-/
import Derived.Test.YtohfliekhbpopaaDoorRows
import GoSem.ClaimSeven
namespace Go.Proofs.YtohfliekhbpopaaDoor
namespace Rows

/-- THE TIED CARD OF 'nameplanlaw29.ForwardMatchesReference'. -/
def forwardMatchesReferenceCard : Claim7 := { stood := { row := forwardMatchesReferenceRow, standIns := [], harness := (true, "0db0847bdfa32662df804e5ee8611a00e53866d45baf867b9638ea9e8f314b1c"), looks := false }, kinds := [], alts := [], laidByText := true, laidKinds := [.data], laidTests := true, laidLooks := .later }
def ForwardMatchesReferenceCardSaid : Prop := Claim7.holds Tryd.pinned (.plain (OpenSpec.ofChange forwardMatchesReferenceSpec)) forwardMatchesReferenceCard

/-- THE TIED CARD OF 'nameplanlaw29.ForwardForged'. -/
def forwardForgedCard : Claim7 := { stood := { row := forwardForgedRow, standIns := [], harness := (true, "0db0847bdfa32662df804e5ee8611a00e53866d45baf867b9638ea9e8f314b1c"), looks := false }, kinds := [], alts := [], laidByText := true, laidKinds := [.data], laidTests := true, laidLooks := .later }
def ForwardForgedCardSaid : Prop := Claim7.holds Tryd.pinned (.plain (OpenSpec.ofChange forwardForgedSpec)) forwardForgedCard

/-- THE TIED CARD OF 'nameplanlaw29.ForwardRounds'. -/
def forwardRoundsCard : Claim7 := { stood := { row := forwardRoundsRow, standIns := [], harness := (true, "0db0847bdfa32662df804e5ee8611a00e53866d45baf867b9638ea9e8f314b1c"), looks := false }, kinds := [], alts := [], laidByText := true, laidKinds := [.data], laidTests := true, laidLooks := .later }
def ForwardRoundsCardSaid : Prop := Claim7.holds Tryd.pinned (.plain (OpenSpec.ofChange forwardRoundsSpec)) forwardRoundsCard

/-- THE TIED CARD OF 'nameplanlaw29.ForwardAnswered'. -/
def forwardAnsweredCard : Claim7 := { stood := { row := forwardAnsweredRow, standIns := [], harness := (true, "0db0847bdfa32662df804e5ee8611a00e53866d45baf867b9638ea9e8f314b1c"), looks := false }, kinds := [], alts := [], laidByText := true, laidKinds := [.data], laidTests := true, laidLooks := .later }
def ForwardAnsweredCardSaid : Prop := Claim7.holds Tryd.pinned (.plain (OpenSpec.ofChange forwardAnsweredSpec)) forwardAnsweredCard

/-- THE TIED CARD OF 'nameplanlaw29.ForwardRefused'. -/
def forwardRefusedCard : Claim7 := { stood := { row := forwardRefusedRow, standIns := [], harness := (true, "0db0847bdfa32662df804e5ee8611a00e53866d45baf867b9638ea9e8f314b1c"), looks := false }, kinds := [], alts := [], laidByText := true, laidKinds := [.data], laidTests := true, laidLooks := .later }
def ForwardRefusedCardSaid : Prop := Claim7.holds Tryd.pinned (.plain (OpenSpec.ofChange forwardRefusedSpec)) forwardRefusedCard

/-- THE TIED CARD OF 'nameplanlaw29.ForwardHonest'. -/
def forwardHonestCard : Claim7 := { stood := { row := forwardHonestRow, standIns := [], harness := (true, "0db0847bdfa32662df804e5ee8611a00e53866d45baf867b9638ea9e8f314b1c"), looks := false }, kinds := [], alts := [], laidByText := true, laidKinds := [.data], laidTests := true, laidLooks := .later }
def ForwardHonestCardSaid : Prop := Claim7.holds Tryd.pinned (.plain (OpenSpec.ofChange forwardHonestSpec)) forwardHonestCard

/-- THE TIED CARD OF 'nameplanlaw22.CacheUse'. -/
def cacheUseCard : Claim7 := { stood := { row := cacheUseRow, standIns := [], harness := (true, "0db0847bdfa32662df804e5ee8611a00e53866d45baf867b9638ea9e8f314b1c"), looks := false }, kinds := [], alts := [], laidByText := true, laidKinds := [.data], laidTests := true, laidLooks := .later }
def CacheUseCardSaid : Prop := Claim7.holds Tryd.pinned (.plain (OpenSpec.ofChange cacheUseSpec)) cacheUseCard

/-- THE TIED CARD OF 'nameplanlaw22.CacheOthers'. -/
def cacheOthersCard : Claim7 := { stood := { row := cacheOthersRow, standIns := [], harness := (true, "0db0847bdfa32662df804e5ee8611a00e53866d45baf867b9638ea9e8f314b1c"), looks := false }, kinds := [], alts := [], laidByText := true, laidKinds := [.data], laidTests := true, laidLooks := .later }
def CacheOthersCardSaid : Prop := Claim7.holds Tryd.pinned (.plain (OpenSpec.ofChange cacheOthersSpec)) cacheOthersCard

/-- THE TIED CARD OF 'nameplanlaw22.CacheAgain'. -/
def cacheAgainCard : Claim7 := { stood := { row := cacheAgainRow, standIns := [], harness := (true, "0db0847bdfa32662df804e5ee8611a00e53866d45baf867b9638ea9e8f314b1c"), looks := false }, kinds := [], alts := [], laidByText := true, laidKinds := [.data], laidTests := true, laidLooks := .later }
def CacheAgainCardSaid : Prop := Claim7.holds Tryd.pinned (.plain (OpenSpec.ofChange cacheAgainSpec)) cacheAgainCard

/-- THE TIED CARD OF 'nameplanlaw22.CacheDenials'. -/
def cacheDenialsCard : Claim7 := { stood := { row := cacheDenialsRow, standIns := [], harness := (true, "0db0847bdfa32662df804e5ee8611a00e53866d45baf867b9638ea9e8f314b1c"), looks := false }, kinds := [], alts := [], laidByText := true, laidKinds := [.data], laidTests := true, laidLooks := .later }
def CacheDenialsCardSaid : Prop := Claim7.holds Tryd.pinned (.plain (OpenSpec.ofChange cacheDenialsSpec)) cacheDenialsCard

/-- THE TIED CARD OF 'nameplanlaw22.CacheTime'. -/
def cacheTimeCard : Claim7 := { stood := { row := cacheTimeRow, standIns := [], harness := (true, "0db0847bdfa32662df804e5ee8611a00e53866d45baf867b9638ea9e8f314b1c"), looks := false }, kinds := [], alts := [], laidByText := true, laidKinds := [.data], laidTests := true, laidLooks := .later }
def CacheTimeCardSaid : Prop := Claim7.holds Tryd.pinned (.plain (OpenSpec.ofChange cacheTimeSpec)) cacheTimeCard

/-- THE SECOND FORM's CARD OF 'nameplanlaw29.ForwardMatchesReference'. -/
def forwardMatchesReferenceUptoCard : Claim7 := { stood := { row := forwardMatchesReferenceUptoRow, standIns := [], harness := (true, "0db0847bdfa32662df804e5ee8611a00e53866d45baf867b9638ea9e8f314b1c"), looks := false }, kinds := [], alts := [], laidByText := true, laidKinds := [.data], laidTests := true, laidLooks := .later }
def ForwardMatchesReferenceUptoCardSaid : Prop := Claim7.holds Tryd.pinned (.plain (OpenSpec.upto forwardMatchesReferenceSpec)) forwardMatchesReferenceUptoCard

/-- THE SECOND FORM's CARD OF 'nameplanlaw29.ForwardForged'. -/
def forwardForgedUptoCard : Claim7 := { stood := { row := forwardForgedUptoRow, standIns := [], harness := (true, "0db0847bdfa32662df804e5ee8611a00e53866d45baf867b9638ea9e8f314b1c"), looks := false }, kinds := [], alts := [], laidByText := true, laidKinds := [.data], laidTests := true, laidLooks := .later }
def ForwardForgedUptoCardSaid : Prop := Claim7.holds Tryd.pinned (.plain (OpenSpec.upto forwardForgedSpec)) forwardForgedUptoCard

/-- THE SECOND FORM's CARD OF 'nameplanlaw29.ForwardRounds'. -/
def forwardRoundsUptoCard : Claim7 := { stood := { row := forwardRoundsUptoRow, standIns := [], harness := (true, "0db0847bdfa32662df804e5ee8611a00e53866d45baf867b9638ea9e8f314b1c"), looks := false }, kinds := [], alts := [], laidByText := true, laidKinds := [.data], laidTests := true, laidLooks := .later }
def ForwardRoundsUptoCardSaid : Prop := Claim7.holds Tryd.pinned (.plain (OpenSpec.upto forwardRoundsSpec)) forwardRoundsUptoCard

/-- THE SECOND FORM's CARD OF 'nameplanlaw29.ForwardAnswered'. -/
def forwardAnsweredUptoCard : Claim7 := { stood := { row := forwardAnsweredUptoRow, standIns := [], harness := (true, "0db0847bdfa32662df804e5ee8611a00e53866d45baf867b9638ea9e8f314b1c"), looks := false }, kinds := [], alts := [], laidByText := true, laidKinds := [.data], laidTests := true, laidLooks := .later }
def ForwardAnsweredUptoCardSaid : Prop := Claim7.holds Tryd.pinned (.plain (OpenSpec.upto forwardAnsweredSpec)) forwardAnsweredUptoCard

/-- THE SECOND FORM's CARD OF 'nameplanlaw29.ForwardRefused'. -/
def forwardRefusedUptoCard : Claim7 := { stood := { row := forwardRefusedUptoRow, standIns := [], harness := (true, "0db0847bdfa32662df804e5ee8611a00e53866d45baf867b9638ea9e8f314b1c"), looks := false }, kinds := [], alts := [], laidByText := true, laidKinds := [.data], laidTests := true, laidLooks := .later }
def ForwardRefusedUptoCardSaid : Prop := Claim7.holds Tryd.pinned (.plain (OpenSpec.upto forwardRefusedSpec)) forwardRefusedUptoCard

/-- THE SECOND FORM's CARD OF 'nameplanlaw29.ForwardHonest'. -/
def forwardHonestUptoCard : Claim7 := { stood := { row := forwardHonestUptoRow, standIns := [], harness := (true, "0db0847bdfa32662df804e5ee8611a00e53866d45baf867b9638ea9e8f314b1c"), looks := false }, kinds := [], alts := [], laidByText := true, laidKinds := [.data], laidTests := true, laidLooks := .later }
def ForwardHonestUptoCardSaid : Prop := Claim7.holds Tryd.pinned (.plain (OpenSpec.upto forwardHonestSpec)) forwardHonestUptoCard

/-- THE SECOND FORM's CARD OF 'nameplanlaw22.CacheUse'. -/
def cacheUseUptoCard : Claim7 := { stood := { row := cacheUseUptoRow, standIns := [], harness := (true, "0db0847bdfa32662df804e5ee8611a00e53866d45baf867b9638ea9e8f314b1c"), looks := false }, kinds := [], alts := [], laidByText := true, laidKinds := [.data], laidTests := true, laidLooks := .later }
def CacheUseUptoCardSaid : Prop := Claim7.holds Tryd.pinned (.plain (OpenSpec.upto cacheUseSpec)) cacheUseUptoCard

/-- THE SECOND FORM's CARD OF 'nameplanlaw22.CacheOthers'. -/
def cacheOthersUptoCard : Claim7 := { stood := { row := cacheOthersUptoRow, standIns := [], harness := (true, "0db0847bdfa32662df804e5ee8611a00e53866d45baf867b9638ea9e8f314b1c"), looks := false }, kinds := [], alts := [], laidByText := true, laidKinds := [.data], laidTests := true, laidLooks := .later }
def CacheOthersUptoCardSaid : Prop := Claim7.holds Tryd.pinned (.plain (OpenSpec.upto cacheOthersSpec)) cacheOthersUptoCard

/-- THE SECOND FORM's CARD OF 'nameplanlaw22.CacheAgain'. -/
def cacheAgainUptoCard : Claim7 := { stood := { row := cacheAgainUptoRow, standIns := [], harness := (true, "0db0847bdfa32662df804e5ee8611a00e53866d45baf867b9638ea9e8f314b1c"), looks := false }, kinds := [], alts := [], laidByText := true, laidKinds := [.data], laidTests := true, laidLooks := .later }
def CacheAgainUptoCardSaid : Prop := Claim7.holds Tryd.pinned (.plain (OpenSpec.upto cacheAgainSpec)) cacheAgainUptoCard

/-- THE SECOND FORM's CARD OF 'nameplanlaw22.CacheDenials'. -/
def cacheDenialsUptoCard : Claim7 := { stood := { row := cacheDenialsUptoRow, standIns := [], harness := (true, "0db0847bdfa32662df804e5ee8611a00e53866d45baf867b9638ea9e8f314b1c"), looks := false }, kinds := [], alts := [], laidByText := true, laidKinds := [.data], laidTests := true, laidLooks := .later }
def CacheDenialsUptoCardSaid : Prop := Claim7.holds Tryd.pinned (.plain (OpenSpec.upto cacheDenialsSpec)) cacheDenialsUptoCard

/-- THE SECOND FORM's CARD OF 'nameplanlaw22.CacheTime'. -/
def cacheTimeUptoCard : Claim7 := { stood := { row := cacheTimeUptoRow, standIns := [], harness := (true, "0db0847bdfa32662df804e5ee8611a00e53866d45baf867b9638ea9e8f314b1c"), looks := false }, kinds := [], alts := [], laidByText := true, laidKinds := [.data], laidTests := true, laidLooks := .later }
def CacheTimeUptoCardSaid : Prop := Claim7.holds Tryd.pinned (.plain (OpenSpec.upto cacheTimeSpec)) cacheTimeUptoCard
end Rows
end Go.Proofs.YtohfliekhbpopaaDoor
