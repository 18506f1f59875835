/-
  DERIVED. GIVEN WITH THE SEED: THE CARDS: each row of YtgonoigdjafikaaGreatDoorRows.lean that lists a variable, with what it lists TIED to the program's text (the seventh form; the later family's looks); each row that meets fmt, with fmt's text TOLD by the authors' own Lean function (tested against real Go, not proved from fmt's source: count such statements apart). THE CARD IS WHAT COUNTS. Prove the row's statement (the work); the ties are given (YtgonoigdjafikaaGreatDoorTie.lean); close each card by the builder's one call (the guide's Derived/Test/ToyasCard.lean, 'card_holds'). Laid BY PROGRAM, IN A SANDBOX (cutbox-door.mjs). By AI agents, Wed Nov 11 2026. No macro, syntax, notation, axiom, sorry.
-/
import Derived.Test.YtgonoigdjafikaaGreatDoorRows
import GoSem.ClaimSeven
namespace Go.Proofs.YtgonoigdjafikaaGreatDoor
namespace Rows

/-- THE TIED CARD OF 'elenchuslaw24.EngineMany'. -/
def engineManyCard : Claim7 := { stood := { row := engineManyRow, standIns := [], harness := (true, "358d9f31761413be0b1bfca150f123540ae8cbbd55f003362c7042d62485a5ee"), looks := true }, kinds := [], alts := [], laidByText := true, laidKinds := [.data, .data, .data, .sentinel, .sentinel], laidTests := true, laidLooks := .later }
def EngineManyCardSaid : Prop := Claim7.holds Tryz.pinned (.plain (OpenSpec.ofChange engineManySpec)) engineManyCard

/-- THE SECOND FORM's CARD OF 'elenchuslaw24.EngineMany'. -/
def engineManyUptoCard : Claim7 := { stood := { row := engineManyUptoRow, standIns := [], harness := (true, "358d9f31761413be0b1bfca150f123540ae8cbbd55f003362c7042d62485a5ee"), looks := true }, kinds := [], alts := [], laidByText := true, laidKinds := [.data, .data, .data, .sentinel, .sentinel], laidTests := true, laidLooks := .later }
def EngineManyUptoCardSaid : Prop := Claim7.holds Tryz.pinned (.plain (OpenSpec.upto engineManySpec)) engineManyUptoCard
end Rows
end Go.Proofs.YtgonoigdjafikaaGreatDoor
