/-
  DERIVED. GIVEN WITH THE SEED: THE CARDS: each row of YtbkojghbgoejcaaDoorRows.lean that lists a variable, with what it lists TIED to the program's text (the seventh form; the later family's looks); each row that meets fmt, with fmt's text TOLD by the authors' own Lean function (tested against real Go, not proved from fmt's source: count such statements apart). THE CARD IS WHAT COUNTS. Prove the row's statement (the work); the ties are given (YtbkojghbgoejcaaDoorTie.lean); close each card by the builder's one call (the guide's Derived/Test/ToyasCard.lean, 'card_holds'). Laid BY PROGRAM, IN A SANDBOX (cutbox-door.mjs). By AI agents, Wed Nov 11 2026. No macro, syntax, notation, axiom, sorry.
-/
import Derived.Test.YtbkojghbgoejcaaDoorRows
import GoSem.ClaimSeven
namespace Go.Proofs.YtbkojghbgoejcaaDoor
namespace Rows

/-- THE TIED CARD OF 'elenchuslaw1.NumberComplex'. -/
def numberComplexCard : Claim7 := { stood := { row := numberComplexRow, standIns := [], harness := (true, "4ac25bdf6f5ccbecf0dcb51f29eaea5056dbba830f09c43fbd2ec4f29f5b0f64"), looks := true }, kinds := [], alts := [], laidByText := true, laidKinds := [.data, .data, .data], laidTests := true, laidLooks := .later }
def NumberComplexCardSaid : Prop := Claim7.holds Tryd.pinned (.plain (OpenSpec.ofChange numberComplexSpec)) numberComplexCard

/-- THE TIED CARD OF 'elenchuslaw1.NumberTexts'. -/
def numberTextsCard : Claim7 := { stood := { row := numberTextsRow, standIns := [], harness := (true, "4ac25bdf6f5ccbecf0dcb51f29eaea5056dbba830f09c43fbd2ec4f29f5b0f64"), looks := true }, kinds := [], alts := [], laidByText := true, laidKinds := [.data, .data, .data, .sentinel, .sentinel], laidTests := true, laidLooks := .later }
def NumberTextsCardSaid : Prop := Claim7.holds Tryd.pinned (.plain (OpenSpec.ofChange numberTextsSpec)) numberTextsCard

/-- THE TIED CARD OF 'elenchuslaw1.NumberBack'. -/
def numberBackCard : Claim7 := { stood := { row := numberBackRow, standIns := [], harness := (true, "4ac25bdf6f5ccbecf0dcb51f29eaea5056dbba830f09c43fbd2ec4f29f5b0f64"), looks := true }, kinds := [], alts := [], laidByText := true, laidKinds := [.data, .data, .data, .sentinel, .sentinel], laidTests := true, laidLooks := .later }
def NumberBackCardSaid : Prop := Claim7.holds Tryd.pinned (.plain (OpenSpec.ofChange numberBackSpec)) numberBackCard

/-- THE SECOND FORM's CARD OF 'elenchuslaw1.NumberComplex'. -/
def numberComplexUptoCard : Claim7 := { stood := { row := numberComplexUptoRow, standIns := [], harness := (true, "4ac25bdf6f5ccbecf0dcb51f29eaea5056dbba830f09c43fbd2ec4f29f5b0f64"), looks := true }, kinds := [], alts := [], laidByText := true, laidKinds := [.data, .data, .data], laidTests := true, laidLooks := .later }
def NumberComplexUptoCardSaid : Prop := Claim7.holds Tryd.pinned (.plain (OpenSpec.upto numberComplexSpec)) numberComplexUptoCard

/-- THE SECOND FORM's CARD OF 'elenchuslaw1.NumberTexts'. -/
def numberTextsUptoCard : Claim7 := { stood := { row := numberTextsUptoRow, standIns := [], harness := (true, "4ac25bdf6f5ccbecf0dcb51f29eaea5056dbba830f09c43fbd2ec4f29f5b0f64"), looks := true }, kinds := [], alts := [], laidByText := true, laidKinds := [.data, .data, .data, .sentinel, .sentinel], laidTests := true, laidLooks := .later }
def NumberTextsUptoCardSaid : Prop := Claim7.holds Tryd.pinned (.plain (OpenSpec.upto numberTextsSpec)) numberTextsUptoCard

/-- THE SECOND FORM's CARD OF 'elenchuslaw1.NumberBack'. -/
def numberBackUptoCard : Claim7 := { stood := { row := numberBackUptoRow, standIns := [], harness := (true, "4ac25bdf6f5ccbecf0dcb51f29eaea5056dbba830f09c43fbd2ec4f29f5b0f64"), looks := true }, kinds := [], alts := [], laidByText := true, laidKinds := [.data, .data, .data, .sentinel, .sentinel], laidTests := true, laidLooks := .later }
def NumberBackUptoCardSaid : Prop := Claim7.holds Tryd.pinned (.plain (OpenSpec.upto numberBackSpec)) numberBackUptoCard
end Rows
end Go.Proofs.YtbkojghbgoejcaaDoor
