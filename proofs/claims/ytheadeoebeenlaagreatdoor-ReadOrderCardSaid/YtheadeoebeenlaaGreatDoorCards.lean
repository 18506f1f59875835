/-
  DERIVED. GIVEN WITH THE SEED: THE CARDS: each row of YtheadeoebeenlaaGreatDoorRows.lean that lists a variable, with what it lists TIED to the program's text (the seventh form; the later family's looks); each row that meets fmt, with fmt's text TOLD by the authors' own Lean function (tested against real Go, not proved from fmt's source: count such statements apart). THE CARD IS WHAT COUNTS. Prove the row's statement (the work); the ties are given (YtheadeoebeenlaaGreatDoorTie.lean); close each card by the builder's one call (the guide's Derived/Test/ToyasCard.lean, 'card_holds'). Laid BY PROGRAM, IN A SANDBOX (cutbox-door.mjs). By AI agents, Wed Nov 11 2026. No macro, syntax, notation, axiom, sorry.
-/
import Derived.Test.YtheadeoebeenlaaGreatDoorRows
import GoSem.ClaimSeven
namespace Go.Proofs.YtheadeoebeenlaaGreatDoor
namespace Rows

/-- THE TIED CARD OF 'elenchuslaw16.CodeFacts'. -/
def codeFactsCard : Claim7 := { stood := { row := codeFactsRow, standIns := [], harness := (true, "722c7bb3d79f31341ebc3976bbd1ad2d86d2fd810f66c232e3d9650409072f82"), looks := true }, kinds := [], alts := [], laidByText := true, laidKinds := [.data, .data, .data, .sentinel, .sentinel, .listed, .data], laidTests := true, laidLooks := .later }
def CodeFactsCardSaid : Prop := Claim7.holds Tryz.pinned (.plain (OpenSpec.ofChange codeFactsSpec)) codeFactsCard

/-- THE TIED CARD OF 'elenchuslaw13.ReadApart'. -/
def readApartCard : Claim7 := { stood := { row := readApartRow, standIns := [], harness := (true, "722c7bb3d79f31341ebc3976bbd1ad2d86d2fd810f66c232e3d9650409072f82"), looks := true }, kinds := [], alts := [], laidByText := true, laidKinds := [.data, .data, .data, .sentinel, .sentinel], laidTests := true, laidLooks := .later }
def ReadApartCardSaid : Prop := Claim7.holds Tryz.pinned (.plain (OpenSpec.ofChange readApartSpec)) readApartCard

/-- THE TIED CARD OF 'elenchuslaw13.ReadOrder'. -/
def readOrderCard : Claim7 := { stood := { row := readOrderRow, standIns := [], harness := (true, "722c7bb3d79f31341ebc3976bbd1ad2d86d2fd810f66c232e3d9650409072f82"), looks := true }, kinds := [], alts := [], laidByText := true, laidKinds := [.data, .data, .data, .sentinel, .sentinel], laidTests := true, laidLooks := .later }
def ReadOrderCardSaid : Prop := Claim7.holds Tryz.pinned (.plain (OpenSpec.ofChange readOrderSpec)) readOrderCard

/-- THE SECOND FORM's CARD OF 'elenchuslaw16.CodeFacts'. -/
def codeFactsUptoCard : Claim7 := { stood := { row := codeFactsUptoRow, standIns := [], harness := (true, "722c7bb3d79f31341ebc3976bbd1ad2d86d2fd810f66c232e3d9650409072f82"), looks := true }, kinds := [], alts := [], laidByText := true, laidKinds := [.data, .data, .data, .sentinel, .sentinel, .listed, .data], laidTests := true, laidLooks := .later }
def CodeFactsUptoCardSaid : Prop := Claim7.holds Tryz.pinned (.plain (OpenSpec.upto codeFactsSpec)) codeFactsUptoCard

/-- THE SECOND FORM's CARD OF 'elenchuslaw13.ReadApart'. -/
def readApartUptoCard : Claim7 := { stood := { row := readApartUptoRow, standIns := [], harness := (true, "722c7bb3d79f31341ebc3976bbd1ad2d86d2fd810f66c232e3d9650409072f82"), looks := true }, kinds := [], alts := [], laidByText := true, laidKinds := [.data, .data, .data, .sentinel, .sentinel], laidTests := true, laidLooks := .later }
def ReadApartUptoCardSaid : Prop := Claim7.holds Tryz.pinned (.plain (OpenSpec.upto readApartSpec)) readApartUptoCard

/-- THE SECOND FORM's CARD OF 'elenchuslaw13.ReadOrder'. -/
def readOrderUptoCard : Claim7 := { stood := { row := readOrderUptoRow, standIns := [], harness := (true, "722c7bb3d79f31341ebc3976bbd1ad2d86d2fd810f66c232e3d9650409072f82"), looks := true }, kinds := [], alts := [], laidByText := true, laidKinds := [.data, .data, .data, .sentinel, .sentinel], laidTests := true, laidLooks := .later }
def ReadOrderUptoCardSaid : Prop := Claim7.holds Tryz.pinned (.plain (OpenSpec.upto readOrderSpec)) readOrderUptoCard
end Rows
end Go.Proofs.YtheadeoebeenlaaGreatDoor
