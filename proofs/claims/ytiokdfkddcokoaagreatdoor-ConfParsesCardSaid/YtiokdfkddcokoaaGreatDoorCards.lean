/-
  DERIVED. GIVEN WITH THE SEED: THE CARDS: each row of YtiokdfkddcokoaaGreatDoorRows.lean that lists a variable, with what it lists TIED to the program's text (the seventh form; the later family's looks); each row that meets fmt, with fmt's text TOLD by the authors' own Lean function (tested against real Go, not proved from fmt's source: count such statements apart). THE CARD IS WHAT COUNTS. Prove the row's statement (the work); the ties are given (YtiokdfkddcokoaaGreatDoorTie.lean); close each card by the builder's one call (the guide's Derived/Test/ToyasCard.lean, 'card_holds'). Laid BY PROGRAM, IN A SANDBOX (cutbox-door.mjs). By AI agents, Wed Nov 11 2026. No macro, syntax, notation, axiom, sorry.
-/
import Derived.Test.YtiokdfkddcokoaaGreatDoorRows
import GoSem.ClaimSeven
namespace Go.Proofs.YtiokdfkddcokoaaGreatDoor
namespace Rows

/-- THE TIED CARD OF 'sakialaw11.ConfTexts'. -/
def confTextsCard : Claim7 := { stood := { row := confTextsRow, standIns := [], harness := (true, "dd4d84866879223c5612b995debf97910bf95f1ef3ee3c85afdd69db44e449c8"), looks := true }, kinds := [], alts := [], laidByText := true, laidKinds := [.data, .data, .data, .data, .sentinel, .sentinel, .pinned], laidTests := true, laidLooks := .later }
def ConfTextsCardSaid : Prop := Claim7.holds Tryz.pinned (.plain (OpenSpec.ofChange confTextsSpec)) confTextsCard

/-- THE TIED CARD OF 'sakialaw11.ConfParses'. -/
def confParsesCard : Claim7 := { stood := { row := confParsesRow, standIns := [], harness := (true, "dd4d84866879223c5612b995debf97910bf95f1ef3ee3c85afdd69db44e449c8"), looks := true }, kinds := [], alts := [], laidByText := true, laidKinds := [.data, .data, .data, .data, .sentinel, .sentinel, .pinned], laidTests := true, laidLooks := .later }
def ConfParsesCardSaid : Prop := Claim7.holds Tryz.pinned (.plain (OpenSpec.ofChange confParsesSpec)) confParsesCard

/-- THE TIED CARD OF 'sakialaw11.ConfSame'. -/
def confSameCard : Claim7 := { stood := { row := confSameRow, standIns := [], harness := (true, "dd4d84866879223c5612b995debf97910bf95f1ef3ee3c85afdd69db44e449c8"), looks := true }, kinds := [], alts := [], laidByText := true, laidKinds := [.data, .data, .data, .data, .sentinel, .sentinel, .pinned], laidTests := true, laidLooks := .later }
def ConfSameCardSaid : Prop := Claim7.holds Tryz.pinned (.plain (OpenSpec.ofChange confSameSpec)) confSameCard

/-- THE SECOND FORM's CARD OF 'sakialaw11.ConfTexts'. -/
def confTextsUptoCard : Claim7 := { stood := { row := confTextsUptoRow, standIns := [], harness := (true, "dd4d84866879223c5612b995debf97910bf95f1ef3ee3c85afdd69db44e449c8"), looks := true }, kinds := [], alts := [], laidByText := true, laidKinds := [.data, .data, .data, .data, .sentinel, .sentinel, .pinned], laidTests := true, laidLooks := .later }
def ConfTextsUptoCardSaid : Prop := Claim7.holds Tryz.pinned (.plain (OpenSpec.upto confTextsSpec)) confTextsUptoCard

/-- THE SECOND FORM's CARD OF 'sakialaw11.ConfParses'. -/
def confParsesUptoCard : Claim7 := { stood := { row := confParsesUptoRow, standIns := [], harness := (true, "dd4d84866879223c5612b995debf97910bf95f1ef3ee3c85afdd69db44e449c8"), looks := true }, kinds := [], alts := [], laidByText := true, laidKinds := [.data, .data, .data, .data, .sentinel, .sentinel, .pinned], laidTests := true, laidLooks := .later }
def ConfParsesUptoCardSaid : Prop := Claim7.holds Tryz.pinned (.plain (OpenSpec.upto confParsesSpec)) confParsesUptoCard

/-- THE SECOND FORM's CARD OF 'sakialaw11.ConfSame'. -/
def confSameUptoCard : Claim7 := { stood := { row := confSameUptoRow, standIns := [], harness := (true, "dd4d84866879223c5612b995debf97910bf95f1ef3ee3c85afdd69db44e449c8"), looks := true }, kinds := [], alts := [], laidByText := true, laidKinds := [.data, .data, .data, .data, .sentinel, .sentinel, .pinned], laidTests := true, laidLooks := .later }
def ConfSameUptoCardSaid : Prop := Claim7.holds Tryz.pinned (.plain (OpenSpec.upto confSameSpec)) confSameUptoCard
end Rows
end Go.Proofs.YtiokdfkddcokoaaGreatDoor
