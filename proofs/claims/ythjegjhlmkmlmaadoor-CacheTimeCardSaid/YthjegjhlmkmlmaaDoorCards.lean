/-
  DERIVED. GIVEN WITH THE SEED: THE CARDS: each row of YthjegjhlmkmlmaaDoorRows.lean that lists a variable, with what it lists TIED to the program's text (the seventh form; the later family's looks); each row that meets fmt, with fmt's text TOLD by the authors' own Lean function (tested against real Go, not proved from fmt's source: count such statements apart). THE CARD IS WHAT COUNTS. Prove the row's statement (the work); the ties are given (YthjegjhlmkmlmaaDoorTie.lean); close each card by the builder's one call (the guide's Derived/Test/ToyasCard.lean, 'card_holds'). Laid BY PROGRAM, IN A SANDBOX (cutbox-door.mjs). By AI agents, Wed Nov 11 2026. No macro, syntax, notation, axiom, sorry.
-/
import Derived.Test.YthjegjhlmkmlmaaDoorRows
import GoSem.ClaimSeven
namespace Go.Proofs.YthjegjhlmkmlmaaDoor
namespace Rows

/-- THE TIED CARD OF 'nameplanlaw22.CacheUse'. -/
def cacheUseCard : Claim7 := { stood := { row := cacheUseRow, standIns := [], harness := (true, "0052b7cf16843ec7c7baa52411c5aa374557497ac0840d6fabe6240b89e594c5"), looks := false }, kinds := [], alts := [], laidByText := true, laidKinds := [.data], laidTests := true, laidLooks := .later }
def CacheUseCardSaid : Prop := Claim7.holds Tryd.pinned (.plain (OpenSpec.ofChange cacheUseSpec)) cacheUseCard

/-- THE TIED CARD OF 'nameplanlaw22.CacheOthers'. -/
def cacheOthersCard : Claim7 := { stood := { row := cacheOthersRow, standIns := [], harness := (true, "0052b7cf16843ec7c7baa52411c5aa374557497ac0840d6fabe6240b89e594c5"), looks := false }, kinds := [], alts := [], laidByText := true, laidKinds := [.data], laidTests := true, laidLooks := .later }
def CacheOthersCardSaid : Prop := Claim7.holds Tryd.pinned (.plain (OpenSpec.ofChange cacheOthersSpec)) cacheOthersCard

/-- THE TIED CARD OF 'nameplanlaw22.CacheAgain'. -/
def cacheAgainCard : Claim7 := { stood := { row := cacheAgainRow, standIns := [], harness := (true, "0052b7cf16843ec7c7baa52411c5aa374557497ac0840d6fabe6240b89e594c5"), looks := false }, kinds := [], alts := [], laidByText := true, laidKinds := [.data], laidTests := true, laidLooks := .later }
def CacheAgainCardSaid : Prop := Claim7.holds Tryd.pinned (.plain (OpenSpec.ofChange cacheAgainSpec)) cacheAgainCard

/-- THE TIED CARD OF 'nameplanlaw22.CacheDenials'. -/
def cacheDenialsCard : Claim7 := { stood := { row := cacheDenialsRow, standIns := [], harness := (true, "0052b7cf16843ec7c7baa52411c5aa374557497ac0840d6fabe6240b89e594c5"), looks := false }, kinds := [], alts := [], laidByText := true, laidKinds := [.data], laidTests := true, laidLooks := .later }
def CacheDenialsCardSaid : Prop := Claim7.holds Tryd.pinned (.plain (OpenSpec.ofChange cacheDenialsSpec)) cacheDenialsCard

/-- THE TIED CARD OF 'nameplanlaw22.CacheTime'. -/
def cacheTimeCard : Claim7 := { stood := { row := cacheTimeRow, standIns := [], harness := (true, "0052b7cf16843ec7c7baa52411c5aa374557497ac0840d6fabe6240b89e594c5"), looks := false }, kinds := [], alts := [], laidByText := true, laidKinds := [.data], laidTests := true, laidLooks := .later }
def CacheTimeCardSaid : Prop := Claim7.holds Tryd.pinned (.plain (OpenSpec.ofChange cacheTimeSpec)) cacheTimeCard

/-- THE TIED CARD OF 'nameplanlaw10.TrustMatchesReference'. -/
def trustMatchesReferenceCard : Claim7 := { stood := { row := trustMatchesReferenceRow, standIns := [], harness := (true, "0052b7cf16843ec7c7baa52411c5aa374557497ac0840d6fabe6240b89e594c5"), looks := false }, kinds := [], alts := [], laidByText := true, laidKinds := [.data], laidTests := true, laidLooks := .later }
def TrustMatchesReferenceCardSaid : Prop := Claim7.holds Tryd.pinned (.plain (OpenSpec.ofChange trustMatchesReferenceSpec)) trustMatchesReferenceCard

/-- THE TIED CARD OF 'nameplanlaw10.TrustSigned'. -/
def trustSignedCard : Claim7 := { stood := { row := trustSignedRow, standIns := [], harness := (true, "0052b7cf16843ec7c7baa52411c5aa374557497ac0840d6fabe6240b89e594c5"), looks := false }, kinds := [], alts := [], laidByText := true, laidKinds := [.data], laidTests := true, laidLooks := .later }
def TrustSignedCardSaid : Prop := Claim7.holds Tryd.pinned (.plain (OpenSpec.ofChange trustSignedSpec)) trustSignedCard

/-- THE TIED CARD OF 'nameplanlaw10.TrustTimes'. -/
def trustTimesCard : Claim7 := { stood := { row := trustTimesRow, standIns := [], harness := (true, "0052b7cf16843ec7c7baa52411c5aa374557497ac0840d6fabe6240b89e594c5"), looks := false }, kinds := [], alts := [], laidByText := true, laidKinds := [.data], laidTests := true, laidLooks := .later }
def TrustTimesCardSaid : Prop := Claim7.holds Tryd.pinned (.plain (OpenSpec.ofChange trustTimesSpec)) trustTimesCard

/-- THE TIED CARD OF 'nameplanlaw10.TrustChains'. -/
def trustChainsCard : Claim7 := { stood := { row := trustChainsRow, standIns := [], harness := (true, "0052b7cf16843ec7c7baa52411c5aa374557497ac0840d6fabe6240b89e594c5"), looks := false }, kinds := [], alts := [], laidByText := true, laidKinds := [.data], laidTests := true, laidLooks := .later }
def TrustChainsCardSaid : Prop := Claim7.holds Tryd.pinned (.plain (OpenSpec.ofChange trustChainsSpec)) trustChainsCard

/-- THE TIED CARD OF 'nameplanlaw10.TrustFurther'. -/
def trustFurtherCard : Claim7 := { stood := { row := trustFurtherRow, standIns := [], harness := (true, "0052b7cf16843ec7c7baa52411c5aa374557497ac0840d6fabe6240b89e594c5"), looks := false }, kinds := [], alts := [], laidByText := true, laidKinds := [.data], laidTests := true, laidLooks := .later }
def TrustFurtherCardSaid : Prop := Claim7.holds Tryd.pinned (.plain (OpenSpec.ofChange trustFurtherSpec)) trustFurtherCard

/-- THE TIED CARD OF 'nameplanlaw10.TrustWays'. -/
def trustWaysCard : Claim7 := { stood := { row := trustWaysRow, standIns := [], harness := (true, "0052b7cf16843ec7c7baa52411c5aa374557497ac0840d6fabe6240b89e594c5"), looks := false }, kinds := [], alts := [], laidByText := true, laidKinds := [.data], laidTests := true, laidLooks := .later }
def TrustWaysCardSaid : Prop := Claim7.holds Tryd.pinned (.plain (OpenSpec.ofChange trustWaysSpec)) trustWaysCard

/-- THE SECOND FORM's CARD OF 'nameplanlaw22.CacheUse'. -/
def cacheUseUptoCard : Claim7 := { stood := { row := cacheUseUptoRow, standIns := [], harness := (true, "0052b7cf16843ec7c7baa52411c5aa374557497ac0840d6fabe6240b89e594c5"), looks := false }, kinds := [], alts := [], laidByText := true, laidKinds := [.data], laidTests := true, laidLooks := .later }
def CacheUseUptoCardSaid : Prop := Claim7.holds Tryd.pinned (.plain (OpenSpec.upto cacheUseSpec)) cacheUseUptoCard

/-- THE SECOND FORM's CARD OF 'nameplanlaw22.CacheOthers'. -/
def cacheOthersUptoCard : Claim7 := { stood := { row := cacheOthersUptoRow, standIns := [], harness := (true, "0052b7cf16843ec7c7baa52411c5aa374557497ac0840d6fabe6240b89e594c5"), looks := false }, kinds := [], alts := [], laidByText := true, laidKinds := [.data], laidTests := true, laidLooks := .later }
def CacheOthersUptoCardSaid : Prop := Claim7.holds Tryd.pinned (.plain (OpenSpec.upto cacheOthersSpec)) cacheOthersUptoCard

/-- THE SECOND FORM's CARD OF 'nameplanlaw22.CacheAgain'. -/
def cacheAgainUptoCard : Claim7 := { stood := { row := cacheAgainUptoRow, standIns := [], harness := (true, "0052b7cf16843ec7c7baa52411c5aa374557497ac0840d6fabe6240b89e594c5"), looks := false }, kinds := [], alts := [], laidByText := true, laidKinds := [.data], laidTests := true, laidLooks := .later }
def CacheAgainUptoCardSaid : Prop := Claim7.holds Tryd.pinned (.plain (OpenSpec.upto cacheAgainSpec)) cacheAgainUptoCard

/-- THE SECOND FORM's CARD OF 'nameplanlaw22.CacheDenials'. -/
def cacheDenialsUptoCard : Claim7 := { stood := { row := cacheDenialsUptoRow, standIns := [], harness := (true, "0052b7cf16843ec7c7baa52411c5aa374557497ac0840d6fabe6240b89e594c5"), looks := false }, kinds := [], alts := [], laidByText := true, laidKinds := [.data], laidTests := true, laidLooks := .later }
def CacheDenialsUptoCardSaid : Prop := Claim7.holds Tryd.pinned (.plain (OpenSpec.upto cacheDenialsSpec)) cacheDenialsUptoCard

/-- THE SECOND FORM's CARD OF 'nameplanlaw22.CacheTime'. -/
def cacheTimeUptoCard : Claim7 := { stood := { row := cacheTimeUptoRow, standIns := [], harness := (true, "0052b7cf16843ec7c7baa52411c5aa374557497ac0840d6fabe6240b89e594c5"), looks := false }, kinds := [], alts := [], laidByText := true, laidKinds := [.data], laidTests := true, laidLooks := .later }
def CacheTimeUptoCardSaid : Prop := Claim7.holds Tryd.pinned (.plain (OpenSpec.upto cacheTimeSpec)) cacheTimeUptoCard

/-- THE SECOND FORM's CARD OF 'nameplanlaw10.TrustMatchesReference'. -/
def trustMatchesReferenceUptoCard : Claim7 := { stood := { row := trustMatchesReferenceUptoRow, standIns := [], harness := (true, "0052b7cf16843ec7c7baa52411c5aa374557497ac0840d6fabe6240b89e594c5"), looks := false }, kinds := [], alts := [], laidByText := true, laidKinds := [.data], laidTests := true, laidLooks := .later }
def TrustMatchesReferenceUptoCardSaid : Prop := Claim7.holds Tryd.pinned (.plain (OpenSpec.upto trustMatchesReferenceSpec)) trustMatchesReferenceUptoCard

/-- THE SECOND FORM's CARD OF 'nameplanlaw10.TrustSigned'. -/
def trustSignedUptoCard : Claim7 := { stood := { row := trustSignedUptoRow, standIns := [], harness := (true, "0052b7cf16843ec7c7baa52411c5aa374557497ac0840d6fabe6240b89e594c5"), looks := false }, kinds := [], alts := [], laidByText := true, laidKinds := [.data], laidTests := true, laidLooks := .later }
def TrustSignedUptoCardSaid : Prop := Claim7.holds Tryd.pinned (.plain (OpenSpec.upto trustSignedSpec)) trustSignedUptoCard

/-- THE SECOND FORM's CARD OF 'nameplanlaw10.TrustTimes'. -/
def trustTimesUptoCard : Claim7 := { stood := { row := trustTimesUptoRow, standIns := [], harness := (true, "0052b7cf16843ec7c7baa52411c5aa374557497ac0840d6fabe6240b89e594c5"), looks := false }, kinds := [], alts := [], laidByText := true, laidKinds := [.data], laidTests := true, laidLooks := .later }
def TrustTimesUptoCardSaid : Prop := Claim7.holds Tryd.pinned (.plain (OpenSpec.upto trustTimesSpec)) trustTimesUptoCard

/-- THE SECOND FORM's CARD OF 'nameplanlaw10.TrustChains'. -/
def trustChainsUptoCard : Claim7 := { stood := { row := trustChainsUptoRow, standIns := [], harness := (true, "0052b7cf16843ec7c7baa52411c5aa374557497ac0840d6fabe6240b89e594c5"), looks := false }, kinds := [], alts := [], laidByText := true, laidKinds := [.data], laidTests := true, laidLooks := .later }
def TrustChainsUptoCardSaid : Prop := Claim7.holds Tryd.pinned (.plain (OpenSpec.upto trustChainsSpec)) trustChainsUptoCard

/-- THE SECOND FORM's CARD OF 'nameplanlaw10.TrustFurther'. -/
def trustFurtherUptoCard : Claim7 := { stood := { row := trustFurtherUptoRow, standIns := [], harness := (true, "0052b7cf16843ec7c7baa52411c5aa374557497ac0840d6fabe6240b89e594c5"), looks := false }, kinds := [], alts := [], laidByText := true, laidKinds := [.data], laidTests := true, laidLooks := .later }
def TrustFurtherUptoCardSaid : Prop := Claim7.holds Tryd.pinned (.plain (OpenSpec.upto trustFurtherSpec)) trustFurtherUptoCard

/-- THE SECOND FORM's CARD OF 'nameplanlaw10.TrustWays'. -/
def trustWaysUptoCard : Claim7 := { stood := { row := trustWaysUptoRow, standIns := [], harness := (true, "0052b7cf16843ec7c7baa52411c5aa374557497ac0840d6fabe6240b89e594c5"), looks := false }, kinds := [], alts := [], laidByText := true, laidKinds := [.data], laidTests := true, laidLooks := .later }
def TrustWaysUptoCardSaid : Prop := Claim7.holds Tryd.pinned (.plain (OpenSpec.upto trustWaysSpec)) trustWaysUptoCard
end Rows
end Go.Proofs.YthjegjhlmkmlmaaDoor
