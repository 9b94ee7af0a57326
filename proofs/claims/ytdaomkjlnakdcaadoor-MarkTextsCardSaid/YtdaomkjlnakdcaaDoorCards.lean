/-
  DERIVED. GIVEN WITH THE SEED: THE CARDS: each row of YtdaomkjlnakdcaaDoorRows.lean that lists a variable, with what it lists TIED to the program's text (the seventh form; the later family's looks); each row that meets fmt, with fmt's text TOLD by the authors' own Lean function (tested against real Go, not proved from fmt's source: count such statements apart). THE CARD IS WHAT COUNTS. Prove the row's statement (the work); the ties are given (YtdaomkjlnakdcaaDoorTie.lean); close each card by the builder's one call (the guide's Derived/Test/ToyasCard.lean, 'card_holds'). Laid BY PROGRAM, IN A SANDBOX (cutbox-door.mjs). By AI agents, Wed Nov 11 2026. No macro, syntax, notation, axiom, sorry.
-/
import Derived.Test.YtdaomkjlnakdcaaDoorRows
import GoSem.ClaimSeven
namespace Go.Proofs.YtdaomkjlnakdcaaDoor
namespace Rows

/-- THE TIED CARD OF 'sakialaw16.MarkVectors'. -/
def markVectorsCard : Claim7 := { stood := { row := markVectorsRow, standIns := [], harness := (true, "abd5945fd4e3a846b1121e622b0a1273c53d7730ed478d1384f64779b0732bf7"), looks := true }, kinds := [], alts := [], laidByText := true, laidKinds := [.data, .data, .data], laidTests := true, laidLooks := .later }
def MarkVectorsCardSaid : Prop := Claim7.holds Tryd.pinned (.plain (OpenSpec.ofChange markVectorsSpec)) markVectorsCard

/-- THE TIED CARD OF 'sakialaw16.MarkTurns'. -/
def markTurnsCard : Claim7 := { stood := { row := markTurnsRow, standIns := [], harness := (true, "abd5945fd4e3a846b1121e622b0a1273c53d7730ed478d1384f64779b0732bf7"), looks := true }, kinds := [], alts := [], laidByText := true, laidKinds := [.data, .data, .data], laidTests := true, laidLooks := .later }
def MarkTurnsCardSaid : Prop := Claim7.holds Tryd.pinned (.plain (OpenSpec.ofChange markTurnsSpec)) markTurnsCard

/-- THE TIED CARD OF 'sakialaw16.MarkChanges'. -/
def markChangesCard : Claim7 := { stood := { row := markChangesRow, standIns := [], harness := (true, "abd5945fd4e3a846b1121e622b0a1273c53d7730ed478d1384f64779b0732bf7"), looks := true }, kinds := [], alts := [], laidByText := true, laidKinds := [.data, .data, .data], laidTests := true, laidLooks := .later }
def MarkChangesCardSaid : Prop := Claim7.holds Tryd.pinned (.plain (OpenSpec.ofChange markChangesSpec)) markChangesCard

/-- THE TIED CARD OF 'sakialaw16.MarkJoins'. -/
def markJoinsCard : Claim7 := { stood := { row := markJoinsRow, standIns := [], harness := (true, "abd5945fd4e3a846b1121e622b0a1273c53d7730ed478d1384f64779b0732bf7"), looks := true }, kinds := [], alts := [], laidByText := true, laidKinds := [.data, .data, .data], laidTests := true, laidLooks := .later }
def MarkJoinsCardSaid : Prop := Claim7.holds Tryd.pinned (.plain (OpenSpec.ofChange markJoinsSpec)) markJoinsCard

/-- THE TIED CARD OF 'sakialaw02.DeciApart'. -/
def deciApartCard : Claim7 := { stood := { row := deciApartRow, standIns := [], harness := (true, "abd5945fd4e3a846b1121e622b0a1273c53d7730ed478d1384f64779b0732bf7"), looks := true }, kinds := [], alts := [], laidByText := true, laidKinds := [.data, .data, .data], laidTests := true, laidLooks := .later }
def DeciApartCardSaid : Prop := Claim7.holds Tryd.pinned (.plain (OpenSpec.ofChange deciApartSpec)) deciApartCard

/-- THE TIED CARD OF 'sakialaw02.DeciParts'. -/
def deciPartsCard : Claim7 := { stood := { row := deciPartsRow, standIns := [], harness := (true, "abd5945fd4e3a846b1121e622b0a1273c53d7730ed478d1384f64779b0732bf7"), looks := true }, kinds := [], alts := [], laidByText := true, laidKinds := [.data, .data, .data], laidTests := true, laidLooks := .later }
def DeciPartsCardSaid : Prop := Claim7.holds Tryd.pinned (.plain (OpenSpec.ofChange deciPartsSpec)) deciPartsCard

/-- THE TIED CARD OF 'sakialaw02.DeciNumbers'. -/
def deciNumbersCard : Claim7 := { stood := { row := deciNumbersRow, standIns := [], harness := (true, "abd5945fd4e3a846b1121e622b0a1273c53d7730ed478d1384f64779b0732bf7"), looks := true }, kinds := [], alts := [], laidByText := true, laidKinds := [.data, .data, .data, .sentinel, .sentinel], laidTests := true, laidLooks := .later }
def DeciNumbersCardSaid : Prop := Claim7.holds Tryd.pinned (.plain (OpenSpec.ofChange deciNumbersSpec)) deciNumbersCard

/-- THE TIED CARD OF 'sakialaw02.DeciTexts'. -/
def deciTextsCard : Claim7 := { stood := { row := deciTextsRow, standIns := [], harness := (true, "abd5945fd4e3a846b1121e622b0a1273c53d7730ed478d1384f64779b0732bf7"), looks := true }, kinds := [], alts := [], laidByText := true, laidKinds := [.data, .data, .data, .sentinel, .sentinel], laidTests := true, laidLooks := .later }
def DeciTextsCardSaid : Prop := Claim7.holds Tryd.pinned (.plain (OpenSpec.ofChange deciTextsSpec)) deciTextsCard

/-- THE TIED CARD OF 'sakialaw02.DeciParses'. -/
def deciParsesCard : Claim7 := { stood := { row := deciParsesRow, standIns := [], harness := (true, "abd5945fd4e3a846b1121e622b0a1273c53d7730ed478d1384f64779b0732bf7"), looks := true }, kinds := [], alts := [], laidByText := true, laidKinds := [.data, .data, .data, .sentinel, .sentinel], laidTests := true, laidLooks := .later }
def DeciParsesCardSaid : Prop := Claim7.holds Tryd.pinned (.plain (OpenSpec.ofChange deciParsesSpec)) deciParsesCard

/-- THE TIED CARD OF 'sakialaw16.MarkTexts'. -/
def markTextsCard : Claim7 := { stood := { row := markTextsRow, standIns := [], harness := (true, "abd5945fd4e3a846b1121e622b0a1273c53d7730ed478d1384f64779b0732bf7"), looks := true }, kinds := [], alts := [], laidByText := true, laidKinds := [.data, .data, .data, .data, .sentinel, .sentinel, .pinned], laidTests := true, laidLooks := .later }
def MarkTextsCardSaid : Prop := Claim7.holds Tryd.pinned (.plain (OpenSpec.ofChange markTextsSpec)) markTextsCard

/-- THE SECOND FORM's CARD OF 'sakialaw16.MarkVectors'. -/
def markVectorsUptoCard : Claim7 := { stood := { row := markVectorsUptoRow, standIns := [], harness := (true, "abd5945fd4e3a846b1121e622b0a1273c53d7730ed478d1384f64779b0732bf7"), looks := true }, kinds := [], alts := [], laidByText := true, laidKinds := [.data, .data, .data], laidTests := true, laidLooks := .later }
def MarkVectorsUptoCardSaid : Prop := Claim7.holds Tryd.pinned (.plain (OpenSpec.upto markVectorsSpec)) markVectorsUptoCard

/-- THE SECOND FORM's CARD OF 'sakialaw16.MarkTurns'. -/
def markTurnsUptoCard : Claim7 := { stood := { row := markTurnsUptoRow, standIns := [], harness := (true, "abd5945fd4e3a846b1121e622b0a1273c53d7730ed478d1384f64779b0732bf7"), looks := true }, kinds := [], alts := [], laidByText := true, laidKinds := [.data, .data, .data], laidTests := true, laidLooks := .later }
def MarkTurnsUptoCardSaid : Prop := Claim7.holds Tryd.pinned (.plain (OpenSpec.upto markTurnsSpec)) markTurnsUptoCard

/-- THE SECOND FORM's CARD OF 'sakialaw16.MarkChanges'. -/
def markChangesUptoCard : Claim7 := { stood := { row := markChangesUptoRow, standIns := [], harness := (true, "abd5945fd4e3a846b1121e622b0a1273c53d7730ed478d1384f64779b0732bf7"), looks := true }, kinds := [], alts := [], laidByText := true, laidKinds := [.data, .data, .data], laidTests := true, laidLooks := .later }
def MarkChangesUptoCardSaid : Prop := Claim7.holds Tryd.pinned (.plain (OpenSpec.upto markChangesSpec)) markChangesUptoCard

/-- THE SECOND FORM's CARD OF 'sakialaw16.MarkJoins'. -/
def markJoinsUptoCard : Claim7 := { stood := { row := markJoinsUptoRow, standIns := [], harness := (true, "abd5945fd4e3a846b1121e622b0a1273c53d7730ed478d1384f64779b0732bf7"), looks := true }, kinds := [], alts := [], laidByText := true, laidKinds := [.data, .data, .data], laidTests := true, laidLooks := .later }
def MarkJoinsUptoCardSaid : Prop := Claim7.holds Tryd.pinned (.plain (OpenSpec.upto markJoinsSpec)) markJoinsUptoCard

/-- THE SECOND FORM's CARD OF 'sakialaw02.DeciApart'. -/
def deciApartUptoCard : Claim7 := { stood := { row := deciApartUptoRow, standIns := [], harness := (true, "abd5945fd4e3a846b1121e622b0a1273c53d7730ed478d1384f64779b0732bf7"), looks := true }, kinds := [], alts := [], laidByText := true, laidKinds := [.data, .data, .data], laidTests := true, laidLooks := .later }
def DeciApartUptoCardSaid : Prop := Claim7.holds Tryd.pinned (.plain (OpenSpec.upto deciApartSpec)) deciApartUptoCard

/-- THE SECOND FORM's CARD OF 'sakialaw02.DeciParts'. -/
def deciPartsUptoCard : Claim7 := { stood := { row := deciPartsUptoRow, standIns := [], harness := (true, "abd5945fd4e3a846b1121e622b0a1273c53d7730ed478d1384f64779b0732bf7"), looks := true }, kinds := [], alts := [], laidByText := true, laidKinds := [.data, .data, .data], laidTests := true, laidLooks := .later }
def DeciPartsUptoCardSaid : Prop := Claim7.holds Tryd.pinned (.plain (OpenSpec.upto deciPartsSpec)) deciPartsUptoCard

/-- THE SECOND FORM's CARD OF 'sakialaw02.DeciNumbers'. -/
def deciNumbersUptoCard : Claim7 := { stood := { row := deciNumbersUptoRow, standIns := [], harness := (true, "abd5945fd4e3a846b1121e622b0a1273c53d7730ed478d1384f64779b0732bf7"), looks := true }, kinds := [], alts := [], laidByText := true, laidKinds := [.data, .data, .data, .sentinel, .sentinel], laidTests := true, laidLooks := .later }
def DeciNumbersUptoCardSaid : Prop := Claim7.holds Tryd.pinned (.plain (OpenSpec.upto deciNumbersSpec)) deciNumbersUptoCard

/-- THE SECOND FORM's CARD OF 'sakialaw02.DeciTexts'. -/
def deciTextsUptoCard : Claim7 := { stood := { row := deciTextsUptoRow, standIns := [], harness := (true, "abd5945fd4e3a846b1121e622b0a1273c53d7730ed478d1384f64779b0732bf7"), looks := true }, kinds := [], alts := [], laidByText := true, laidKinds := [.data, .data, .data, .sentinel, .sentinel], laidTests := true, laidLooks := .later }
def DeciTextsUptoCardSaid : Prop := Claim7.holds Tryd.pinned (.plain (OpenSpec.upto deciTextsSpec)) deciTextsUptoCard

/-- THE SECOND FORM's CARD OF 'sakialaw02.DeciParses'. -/
def deciParsesUptoCard : Claim7 := { stood := { row := deciParsesUptoRow, standIns := [], harness := (true, "abd5945fd4e3a846b1121e622b0a1273c53d7730ed478d1384f64779b0732bf7"), looks := true }, kinds := [], alts := [], laidByText := true, laidKinds := [.data, .data, .data, .sentinel, .sentinel], laidTests := true, laidLooks := .later }
def DeciParsesUptoCardSaid : Prop := Claim7.holds Tryd.pinned (.plain (OpenSpec.upto deciParsesSpec)) deciParsesUptoCard

/-- THE SECOND FORM's CARD OF 'sakialaw16.MarkTexts'. -/
def markTextsUptoCard : Claim7 := { stood := { row := markTextsUptoRow, standIns := [], harness := (true, "abd5945fd4e3a846b1121e622b0a1273c53d7730ed478d1384f64779b0732bf7"), looks := true }, kinds := [], alts := [], laidByText := true, laidKinds := [.data, .data, .data, .data, .sentinel, .sentinel, .pinned], laidTests := true, laidLooks := .later }
def MarkTextsUptoCardSaid : Prop := Claim7.holds Tryd.pinned (.plain (OpenSpec.upto markTextsSpec)) markTextsUptoCard
end Rows
end Go.Proofs.YtdaomkjlnakdcaaDoor
