/-
  DERIVED. GIVEN WITH THE SEED: THE CARDS: each row of YtajilipbnfpemaaDoorRows.lean that lists a variable, with what it lists TIED to the program's text (the seventh form; the later family's looks); each row that meets fmt, with fmt's text TOLD by the authors' own Lean function (tested against real Go, not proved from fmt's source: count such statements apart). THE CARD IS WHAT COUNTS. Prove the row's statement (the work); the ties are given (YtajilipbnfpemaaDoorTie.lean); close each card by the builder's one call (the guide's Derived/Test/ToyasCard.lean, 'card_holds'). Laid BY PROGRAM, IN A SANDBOX (cutbox-door.mjs). By AI agents, Wed Nov 11 2026. No macro, syntax, notation, axiom, sorry.
-/
import Derived.Test.YtajilipbnfpemaaDoorRows
import GoSem.ClaimSeven
namespace Go.Proofs.YtajilipbnfpemaaDoor
namespace Rows

/-- THE TIED CARD OF 'sakialaw17.TagPacks'. -/
def tagPacksCard : Claim7 := { stood := { row := tagPacksRow, standIns := [], harness := (true, "c2657a0648c743a0874460f36a1c53ad6d314f06bf1a3d6d1fc6ccf77cb7275b"), looks := true }, kinds := [], alts := [], laidByText := true, laidKinds := [.data, .data, .data], laidTests := true, laidLooks := .later }
def TagPacksCardSaid : Prop := Claim7.holds Tryd.pinned (.plain (OpenSpec.ofChange tagPacksSpec)) tagPacksCard

/-- THE TIED CARD OF 'sakialaw17.TagUnpacks'. -/
def tagUnpacksCard : Claim7 := { stood := { row := tagUnpacksRow, standIns := [], harness := (true, "c2657a0648c743a0874460f36a1c53ad6d314f06bf1a3d6d1fc6ccf77cb7275b"), looks := true }, kinds := [], alts := [], laidByText := true, laidKinds := [.data, .data, .data], laidTests := true, laidLooks := .later }
def TagUnpacksCardSaid : Prop := Claim7.holds Tryd.pinned (.plain (OpenSpec.ofChange tagUnpacksSpec)) tagUnpacksCard

/-- THE TIED CARD OF 'sakialaw10.DataChecks'. -/
def dataChecksCard : Claim7 := { stood := { row := dataChecksRow, standIns := [], harness := (true, "c2657a0648c743a0874460f36a1c53ad6d314f06bf1a3d6d1fc6ccf77cb7275b"), looks := true }, kinds := [], alts := [], laidByText := true, laidKinds := [.data, .data, .data], laidTests := true, laidLooks := .later }
def DataChecksCardSaid : Prop := Claim7.holds Tryd.pinned (.plain (OpenSpec.ofChange dataChecksSpec)) dataChecksCard

/-- THE TIED CARD OF 'sakialaw10.DataPicks'. -/
def dataPicksCard : Claim7 := { stood := { row := dataPicksRow, standIns := [], harness := (true, "c2657a0648c743a0874460f36a1c53ad6d314f06bf1a3d6d1fc6ccf77cb7275b"), looks := true }, kinds := [], alts := [], laidByText := true, laidKinds := [.data, .data, .data], laidTests := true, laidLooks := .later }
def DataPicksCardSaid : Prop := Claim7.holds Tryd.pinned (.plain (OpenSpec.ofChange dataPicksSpec)) dataPicksCard

/-- THE TIED CARD OF 'sakialaw17.TagOrders'. -/
def tagOrdersCard : Claim7 := { stood := { row := tagOrdersRow, standIns := [], harness := (true, "c2657a0648c743a0874460f36a1c53ad6d314f06bf1a3d6d1fc6ccf77cb7275b"), looks := true }, kinds := [], alts := [], laidByText := true, laidKinds := [.data, .data, .data], laidTests := true, laidLooks := .later }
def TagOrdersCardSaid : Prop := Claim7.holds Tryd.pinned (.plain (OpenSpec.ofChange tagOrdersSpec)) tagOrdersCard

/-- THE TIED CARD OF 'sakialaw10.DataCopies'. -/
def dataCopiesCard : Claim7 := { stood := { row := dataCopiesRow, standIns := [], harness := (true, "c2657a0648c743a0874460f36a1c53ad6d314f06bf1a3d6d1fc6ccf77cb7275b"), looks := true }, kinds := [], alts := [], laidByText := true, laidKinds := [.data, .data, .data], laidTests := true, laidLooks := .later }
def DataCopiesCardSaid : Prop := Claim7.holds Tryd.pinned (.plain (OpenSpec.ofChange dataCopiesSpec)) dataCopiesCard

/-- THE TIED CARD OF 'sakialaw10.DataRanges'. -/
def dataRangesCard : Claim7 := { stood := { row := dataRangesRow, standIns := [], harness := (true, "c2657a0648c743a0874460f36a1c53ad6d314f06bf1a3d6d1fc6ccf77cb7275b"), looks := true }, kinds := [], alts := [], laidByText := true, laidKinds := [.data, .data, .data], laidTests := true, laidLooks := .later }
def DataRangesCardSaid : Prop := Claim7.holds Tryd.pinned (.plain (OpenSpec.ofChange dataRangesSpec)) dataRangesCard

/-- THE TIED CARD OF 'sakialaw17.TagTexts'. -/
def tagTextsCard : Claim7 := { stood := { row := tagTextsRow, standIns := [], harness := (true, "c2657a0648c743a0874460f36a1c53ad6d314f06bf1a3d6d1fc6ccf77cb7275b"), looks := true }, kinds := [], alts := [], laidByText := true, laidKinds := [.data, .data, .data, .data, .sentinel, .sentinel, .pinned], laidTests := true, laidLooks := .later }
def TagTextsCardSaid : Prop := Claim7.holds Tryd.pinned (.plain (OpenSpec.ofChange tagTextsSpec)) tagTextsCard

/-- THE TIED CARD OF 'sakialaw17.TagParses'. -/
def tagParsesCard : Claim7 := { stood := { row := tagParsesRow, standIns := [], harness := (true, "c2657a0648c743a0874460f36a1c53ad6d314f06bf1a3d6d1fc6ccf77cb7275b"), looks := true }, kinds := [], alts := [], laidByText := true, laidKinds := [.data, .data, .data, .data, .sentinel, .sentinel, .pinned], laidTests := true, laidLooks := .later }
def TagParsesCardSaid : Prop := Claim7.holds Tryd.pinned (.plain (OpenSpec.ofChange tagParsesSpec)) tagParsesCard

/-- THE TIED CARD OF 'sakialaw10.DataTexts'. -/
def dataTextsCard : Claim7 := { stood := { row := dataTextsRow, standIns := [], harness := (true, "c2657a0648c743a0874460f36a1c53ad6d314f06bf1a3d6d1fc6ccf77cb7275b"), looks := true }, kinds := [], alts := [], laidByText := true, laidKinds := [.data, .data, .data, .data, .sentinel, .sentinel, .pinned], laidTests := true, laidLooks := .later }
def DataTextsCardSaid : Prop := Claim7.holds Tryd.pinned (.plain (OpenSpec.ofChange dataTextsSpec)) dataTextsCard

/-- THE TIED CARD OF 'sakialaw10.DataParses'. -/
def dataParsesCard : Claim7 := { stood := { row := dataParsesRow, standIns := [], harness := (true, "c2657a0648c743a0874460f36a1c53ad6d314f06bf1a3d6d1fc6ccf77cb7275b"), looks := true }, kinds := [], alts := [], laidByText := true, laidKinds := [.data, .data, .data, .data, .sentinel, .sentinel, .pinned], laidTests := true, laidLooks := .later }
def DataParsesCardSaid : Prop := Claim7.holds Tryd.pinned (.plain (OpenSpec.ofChange dataParsesSpec)) dataParsesCard

/-- THE SECOND FORM's CARD OF 'sakialaw17.TagPacks'. -/
def tagPacksUptoCard : Claim7 := { stood := { row := tagPacksUptoRow, standIns := [], harness := (true, "c2657a0648c743a0874460f36a1c53ad6d314f06bf1a3d6d1fc6ccf77cb7275b"), looks := true }, kinds := [], alts := [], laidByText := true, laidKinds := [.data, .data, .data], laidTests := true, laidLooks := .later }
def TagPacksUptoCardSaid : Prop := Claim7.holds Tryd.pinned (.plain (OpenSpec.upto tagPacksSpec)) tagPacksUptoCard

/-- THE SECOND FORM's CARD OF 'sakialaw17.TagUnpacks'. -/
def tagUnpacksUptoCard : Claim7 := { stood := { row := tagUnpacksUptoRow, standIns := [], harness := (true, "c2657a0648c743a0874460f36a1c53ad6d314f06bf1a3d6d1fc6ccf77cb7275b"), looks := true }, kinds := [], alts := [], laidByText := true, laidKinds := [.data, .data, .data], laidTests := true, laidLooks := .later }
def TagUnpacksUptoCardSaid : Prop := Claim7.holds Tryd.pinned (.plain (OpenSpec.upto tagUnpacksSpec)) tagUnpacksUptoCard

/-- THE SECOND FORM's CARD OF 'sakialaw10.DataChecks'. -/
def dataChecksUptoCard : Claim7 := { stood := { row := dataChecksUptoRow, standIns := [], harness := (true, "c2657a0648c743a0874460f36a1c53ad6d314f06bf1a3d6d1fc6ccf77cb7275b"), looks := true }, kinds := [], alts := [], laidByText := true, laidKinds := [.data, .data, .data], laidTests := true, laidLooks := .later }
def DataChecksUptoCardSaid : Prop := Claim7.holds Tryd.pinned (.plain (OpenSpec.upto dataChecksSpec)) dataChecksUptoCard

/-- THE SECOND FORM's CARD OF 'sakialaw10.DataPicks'. -/
def dataPicksUptoCard : Claim7 := { stood := { row := dataPicksUptoRow, standIns := [], harness := (true, "c2657a0648c743a0874460f36a1c53ad6d314f06bf1a3d6d1fc6ccf77cb7275b"), looks := true }, kinds := [], alts := [], laidByText := true, laidKinds := [.data, .data, .data], laidTests := true, laidLooks := .later }
def DataPicksUptoCardSaid : Prop := Claim7.holds Tryd.pinned (.plain (OpenSpec.upto dataPicksSpec)) dataPicksUptoCard

/-- THE SECOND FORM's CARD OF 'sakialaw17.TagOrders'. -/
def tagOrdersUptoCard : Claim7 := { stood := { row := tagOrdersUptoRow, standIns := [], harness := (true, "c2657a0648c743a0874460f36a1c53ad6d314f06bf1a3d6d1fc6ccf77cb7275b"), looks := true }, kinds := [], alts := [], laidByText := true, laidKinds := [.data, .data, .data], laidTests := true, laidLooks := .later }
def TagOrdersUptoCardSaid : Prop := Claim7.holds Tryd.pinned (.plain (OpenSpec.upto tagOrdersSpec)) tagOrdersUptoCard

/-- THE SECOND FORM's CARD OF 'sakialaw10.DataCopies'. -/
def dataCopiesUptoCard : Claim7 := { stood := { row := dataCopiesUptoRow, standIns := [], harness := (true, "c2657a0648c743a0874460f36a1c53ad6d314f06bf1a3d6d1fc6ccf77cb7275b"), looks := true }, kinds := [], alts := [], laidByText := true, laidKinds := [.data, .data, .data], laidTests := true, laidLooks := .later }
def DataCopiesUptoCardSaid : Prop := Claim7.holds Tryd.pinned (.plain (OpenSpec.upto dataCopiesSpec)) dataCopiesUptoCard

/-- THE SECOND FORM's CARD OF 'sakialaw10.DataRanges'. -/
def dataRangesUptoCard : Claim7 := { stood := { row := dataRangesUptoRow, standIns := [], harness := (true, "c2657a0648c743a0874460f36a1c53ad6d314f06bf1a3d6d1fc6ccf77cb7275b"), looks := true }, kinds := [], alts := [], laidByText := true, laidKinds := [.data, .data, .data], laidTests := true, laidLooks := .later }
def DataRangesUptoCardSaid : Prop := Claim7.holds Tryd.pinned (.plain (OpenSpec.upto dataRangesSpec)) dataRangesUptoCard

/-- THE SECOND FORM's CARD OF 'sakialaw17.TagTexts'. -/
def tagTextsUptoCard : Claim7 := { stood := { row := tagTextsUptoRow, standIns := [], harness := (true, "c2657a0648c743a0874460f36a1c53ad6d314f06bf1a3d6d1fc6ccf77cb7275b"), looks := true }, kinds := [], alts := [], laidByText := true, laidKinds := [.data, .data, .data, .data, .sentinel, .sentinel, .pinned], laidTests := true, laidLooks := .later }
def TagTextsUptoCardSaid : Prop := Claim7.holds Tryd.pinned (.plain (OpenSpec.upto tagTextsSpec)) tagTextsUptoCard

/-- THE SECOND FORM's CARD OF 'sakialaw17.TagParses'. -/
def tagParsesUptoCard : Claim7 := { stood := { row := tagParsesUptoRow, standIns := [], harness := (true, "c2657a0648c743a0874460f36a1c53ad6d314f06bf1a3d6d1fc6ccf77cb7275b"), looks := true }, kinds := [], alts := [], laidByText := true, laidKinds := [.data, .data, .data, .data, .sentinel, .sentinel, .pinned], laidTests := true, laidLooks := .later }
def TagParsesUptoCardSaid : Prop := Claim7.holds Tryd.pinned (.plain (OpenSpec.upto tagParsesSpec)) tagParsesUptoCard

/-- THE SECOND FORM's CARD OF 'sakialaw10.DataTexts'. -/
def dataTextsUptoCard : Claim7 := { stood := { row := dataTextsUptoRow, standIns := [], harness := (true, "c2657a0648c743a0874460f36a1c53ad6d314f06bf1a3d6d1fc6ccf77cb7275b"), looks := true }, kinds := [], alts := [], laidByText := true, laidKinds := [.data, .data, .data, .data, .sentinel, .sentinel, .pinned], laidTests := true, laidLooks := .later }
def DataTextsUptoCardSaid : Prop := Claim7.holds Tryd.pinned (.plain (OpenSpec.upto dataTextsSpec)) dataTextsUptoCard

/-- THE SECOND FORM's CARD OF 'sakialaw10.DataParses'. -/
def dataParsesUptoCard : Claim7 := { stood := { row := dataParsesUptoRow, standIns := [], harness := (true, "c2657a0648c743a0874460f36a1c53ad6d314f06bf1a3d6d1fc6ccf77cb7275b"), looks := true }, kinds := [], alts := [], laidByText := true, laidKinds := [.data, .data, .data, .data, .sentinel, .sentinel, .pinned], laidTests := true, laidLooks := .later }
def DataParsesUptoCardSaid : Prop := Claim7.holds Tryd.pinned (.plain (OpenSpec.upto dataParsesSpec)) dataParsesUptoCard
end Rows
end Go.Proofs.YtajilipbnfpemaaDoor
