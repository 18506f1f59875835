/-
  DERIVED. GIVEN WITH THE SEED: THE CARDS: each row of YtenpnejkgopghaaDoorRows.lean that lists a variable, with what it lists TIED to the program's text (the seventh form; the later family's looks); each row that meets fmt, with fmt's text TOLD by the authors' own Lean function (tested against real Go, not proved from fmt's source: count such statements apart). THE CARD IS WHAT COUNTS. Prove the row's statement (the work); the ties are given (YtenpnejkgopghaaDoorTie.lean); close each card by the builder's one call (the guide's Derived/Test/ToyasCard.lean, 'card_holds'). Laid BY PROGRAM, IN A SANDBOX (cutbox-door.mjs). By AI agents, Wed Nov 11 2026. No macro, syntax, notation, axiom, sorry.
-/
import Derived.Test.YtenpnejkgopghaaDoorRows
import GoSem.ClaimSeven
namespace Go.Proofs.YtenpnejkgopghaaDoor
namespace Rows

/-- THE TIED CARD OF 'elenchuslaw11.TokenLong'. -/
def tokenLongCard : Claim7 := { stood := { row := tokenLongRow, standIns := [], harness := (true, "e3bbe7b3113fcf69fa91624ec091481b0f3551b07a158c9e8b9e1cc32d534de3"), looks := true }, kinds := [], alts := [], laidByText := true, laidKinds := [.data, .data, .data, .sentinel, .sentinel], laidTests := true, laidLooks := .later }
def TokenLongCardSaid : Prop := Claim7.holds Tryd.pinned (.plain (OpenSpec.ofChange tokenLongSpec)) tokenLongCard

/-- THE TIED CARD OF 'elenchuslaw11.TokenSpaces'. -/
def tokenSpacesCard : Claim7 := { stood := { row := tokenSpacesRow, standIns := [], harness := (true, "e3bbe7b3113fcf69fa91624ec091481b0f3551b07a158c9e8b9e1cc32d534de3"), looks := true }, kinds := [], alts := [], laidByText := true, laidKinds := [.data, .data, .data, .sentinel, .sentinel], laidTests := true, laidLooks := .later }
def TokenSpacesCardSaid : Prop := Claim7.holds Tryd.pinned (.plain (OpenSpec.ofChange tokenSpacesSpec)) tokenSpacesCard

/-- THE TIED CARD OF 'elenchuslaw11.TokenPlaces'. -/
def tokenPlacesCard : Claim7 := { stood := { row := tokenPlacesRow, standIns := [], harness := (true, "e3bbe7b3113fcf69fa91624ec091481b0f3551b07a158c9e8b9e1cc32d534de3"), looks := true }, kinds := [], alts := [], laidByText := true, laidKinds := [.data, .data, .data, .sentinel, .sentinel], laidTests := true, laidLooks := .later }
def TokenPlacesCardSaid : Prop := Claim7.holds Tryd.pinned (.plain (OpenSpec.ofChange tokenPlacesSpec)) tokenPlacesCard

/-- THE TIED CARD OF 'elenchuslaw11.TokenWords'. -/
def tokenWordsCard : Claim7 := { stood := { row := tokenWordsRow, standIns := [], harness := (true, "e3bbe7b3113fcf69fa91624ec091481b0f3551b07a158c9e8b9e1cc32d534de3"), looks := true }, kinds := [], alts := [], laidByText := true, laidKinds := [.data, .data, .data, .sentinel, .sentinel], laidTests := true, laidLooks := .later }
def TokenWordsCardSaid : Prop := Claim7.holds Tryd.pinned (.plain (OpenSpec.ofChange tokenWordsSpec)) tokenWordsCard

/-- THE TIED CARD OF 'elenchuslaw11.TokenNumbers'. -/
def tokenNumbersCard : Claim7 := { stood := { row := tokenNumbersRow, standIns := [], harness := (true, "e3bbe7b3113fcf69fa91624ec091481b0f3551b07a158c9e8b9e1cc32d534de3"), looks := true }, kinds := [], alts := [], laidByText := true, laidKinds := [.data, .data, .data, .sentinel, .sentinel], laidTests := true, laidLooks := .later }
def TokenNumbersCardSaid : Prop := Claim7.holds Tryd.pinned (.plain (OpenSpec.ofChange tokenNumbersSpec)) tokenNumbersCard

/-- THE TIED CARD OF 'elenchuslaw11.TokenAll'. -/
def tokenAllCard : Claim7 := { stood := { row := tokenAllRow, standIns := [], harness := (true, "e3bbe7b3113fcf69fa91624ec091481b0f3551b07a158c9e8b9e1cc32d534de3"), looks := true }, kinds := [], alts := [], laidByText := true, laidKinds := [.data, .data, .data, .sentinel, .sentinel], laidTests := true, laidLooks := .later }
def TokenAllCardSaid : Prop := Claim7.holds Tryd.pinned (.plain (OpenSpec.ofChange tokenAllSpec)) tokenAllCard

/-- THE TIED CARD OF 'elenchuslaw11.TokenQuotes'. -/
def tokenQuotesCard : Claim7 := { stood := { row := tokenQuotesRow, standIns := [], harness := (true, "e3bbe7b3113fcf69fa91624ec091481b0f3551b07a158c9e8b9e1cc32d534de3"), looks := true }, kinds := [], alts := [], laidByText := true, laidKinds := [.data, .data, .data, .sentinel, .sentinel], laidTests := true, laidLooks := .later }
def TokenQuotesCardSaid : Prop := Claim7.holds Tryd.pinned (.plain (OpenSpec.ofChange tokenQuotesSpec)) tokenQuotesCard

/-- THE SECOND FORM's CARD OF 'elenchuslaw11.TokenLong'. -/
def tokenLongUptoCard : Claim7 := { stood := { row := tokenLongUptoRow, standIns := [], harness := (true, "e3bbe7b3113fcf69fa91624ec091481b0f3551b07a158c9e8b9e1cc32d534de3"), looks := true }, kinds := [], alts := [], laidByText := true, laidKinds := [.data, .data, .data, .sentinel, .sentinel], laidTests := true, laidLooks := .later }
def TokenLongUptoCardSaid : Prop := Claim7.holds Tryd.pinned (.plain (OpenSpec.upto tokenLongSpec)) tokenLongUptoCard

/-- THE SECOND FORM's CARD OF 'elenchuslaw11.TokenSpaces'. -/
def tokenSpacesUptoCard : Claim7 := { stood := { row := tokenSpacesUptoRow, standIns := [], harness := (true, "e3bbe7b3113fcf69fa91624ec091481b0f3551b07a158c9e8b9e1cc32d534de3"), looks := true }, kinds := [], alts := [], laidByText := true, laidKinds := [.data, .data, .data, .sentinel, .sentinel], laidTests := true, laidLooks := .later }
def TokenSpacesUptoCardSaid : Prop := Claim7.holds Tryd.pinned (.plain (OpenSpec.upto tokenSpacesSpec)) tokenSpacesUptoCard

/-- THE SECOND FORM's CARD OF 'elenchuslaw11.TokenPlaces'. -/
def tokenPlacesUptoCard : Claim7 := { stood := { row := tokenPlacesUptoRow, standIns := [], harness := (true, "e3bbe7b3113fcf69fa91624ec091481b0f3551b07a158c9e8b9e1cc32d534de3"), looks := true }, kinds := [], alts := [], laidByText := true, laidKinds := [.data, .data, .data, .sentinel, .sentinel], laidTests := true, laidLooks := .later }
def TokenPlacesUptoCardSaid : Prop := Claim7.holds Tryd.pinned (.plain (OpenSpec.upto tokenPlacesSpec)) tokenPlacesUptoCard

/-- THE SECOND FORM's CARD OF 'elenchuslaw11.TokenWords'. -/
def tokenWordsUptoCard : Claim7 := { stood := { row := tokenWordsUptoRow, standIns := [], harness := (true, "e3bbe7b3113fcf69fa91624ec091481b0f3551b07a158c9e8b9e1cc32d534de3"), looks := true }, kinds := [], alts := [], laidByText := true, laidKinds := [.data, .data, .data, .sentinel, .sentinel], laidTests := true, laidLooks := .later }
def TokenWordsUptoCardSaid : Prop := Claim7.holds Tryd.pinned (.plain (OpenSpec.upto tokenWordsSpec)) tokenWordsUptoCard

/-- THE SECOND FORM's CARD OF 'elenchuslaw11.TokenNumbers'. -/
def tokenNumbersUptoCard : Claim7 := { stood := { row := tokenNumbersUptoRow, standIns := [], harness := (true, "e3bbe7b3113fcf69fa91624ec091481b0f3551b07a158c9e8b9e1cc32d534de3"), looks := true }, kinds := [], alts := [], laidByText := true, laidKinds := [.data, .data, .data, .sentinel, .sentinel], laidTests := true, laidLooks := .later }
def TokenNumbersUptoCardSaid : Prop := Claim7.holds Tryd.pinned (.plain (OpenSpec.upto tokenNumbersSpec)) tokenNumbersUptoCard

/-- THE SECOND FORM's CARD OF 'elenchuslaw11.TokenAll'. -/
def tokenAllUptoCard : Claim7 := { stood := { row := tokenAllUptoRow, standIns := [], harness := (true, "e3bbe7b3113fcf69fa91624ec091481b0f3551b07a158c9e8b9e1cc32d534de3"), looks := true }, kinds := [], alts := [], laidByText := true, laidKinds := [.data, .data, .data, .sentinel, .sentinel], laidTests := true, laidLooks := .later }
def TokenAllUptoCardSaid : Prop := Claim7.holds Tryd.pinned (.plain (OpenSpec.upto tokenAllSpec)) tokenAllUptoCard

/-- THE SECOND FORM's CARD OF 'elenchuslaw11.TokenQuotes'. -/
def tokenQuotesUptoCard : Claim7 := { stood := { row := tokenQuotesUptoRow, standIns := [], harness := (true, "e3bbe7b3113fcf69fa91624ec091481b0f3551b07a158c9e8b9e1cc32d534de3"), looks := true }, kinds := [], alts := [], laidByText := true, laidKinds := [.data, .data, .data, .sentinel, .sentinel], laidTests := true, laidLooks := .later }
def TokenQuotesUptoCardSaid : Prop := Claim7.holds Tryd.pinned (.plain (OpenSpec.upto tokenQuotesSpec)) tokenQuotesUptoCard
end Rows
end Go.Proofs.YtenpnejkgopghaaDoor
