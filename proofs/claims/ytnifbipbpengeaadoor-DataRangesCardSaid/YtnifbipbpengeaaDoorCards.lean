/-
  DERIVED. GIVEN WITH THE SEED: THE CARDS: each row of YtnifbipbpengeaaDoorRows.lean that lists a variable, with what it lists TIED to the program's text (the seventh form; the later family's looks); each row that meets fmt, with fmt's text TOLD by the authors' own Lean function (tested against real Go, not proved from fmt's source: count such statements apart). THE CARD IS WHAT COUNTS. Prove the row's statement (the work); the ties are given (YtnifbipbpengeaaDoorTie.lean); close each card by the builder's one call (the guide's Derived/Test/ToyasCard.lean, 'card_holds'). Laid BY PROGRAM, IN A SANDBOX (cutbox-door.mjs). By AI agents, Wed Nov 11 2026. No macro, syntax, notation, axiom, sorry.
-/
import Derived.Test.YtnifbipbpengeaaDoorRows
import GoSem.ClaimSeven
namespace Go.Proofs.YtnifbipbpengeaaDoor
namespace Rows

/-- THE TIED CARD OF 'sakialaw10.DataRanges'. -/
def dataRangesCard : Claim7 := { stood := { row := dataRangesRow, standIns := [], harness := (true, "cfaa39e85cca6546f2bb7b2e9e876ec8d8e323c4c8de2ab881503ed583124a96"), looks := false }, kinds := [], alts := [], laidByText := true, laidKinds := [.data, .data, .data], laidTests := true, laidLooks := .later }
def DataRangesCardSaid : Prop := Claim7.holds Tryd.pinned (.plain (OpenSpec.ofChange dataRangesSpec)) dataRangesCard

/-- THE SECOND FORM's CARD OF 'sakialaw10.DataRanges'. -/
def dataRangesUptoCard : Claim7 := { stood := { row := dataRangesUptoRow, standIns := [], harness := (true, "cfaa39e85cca6546f2bb7b2e9e876ec8d8e323c4c8de2ab881503ed583124a96"), looks := false }, kinds := [], alts := [], laidByText := true, laidKinds := [.data, .data, .data], laidTests := true, laidLooks := .later }
def DataRangesUptoCardSaid : Prop := Claim7.holds Tryd.pinned (.plain (OpenSpec.upto dataRangesSpec)) dataRangesUptoCard
end Rows
end Go.Proofs.YtnifbipbpengeaaDoor
