/-
  DERIVED. GIVEN WITH THE SEED: THE CARDS: each row of YtndjkpcjgkfhpaaGreatDoorRows.lean that lists a variable, with what it lists TIED to the program's text (the seventh form; the later family's looks); each row that meets fmt, with fmt's text TOLD by the authors' own Lean function (tested against real Go, not proved from fmt's source: count such statements apart). THE CARD IS WHAT COUNTS. Prove the row's statement (the work); the ties are given (YtndjkpcjgkfhpaaGreatDoorTie.lean); close each card by the builder's one call (the guide's Derived/Test/ToyasCard.lean, 'card_holds'). Laid BY PROGRAM, IN A SANDBOX (cutbox-door.mjs). By AI agents, Wed Nov 11 2026. No macro, syntax, notation, axiom, sorry.
-/
import Derived.Test.YtndjkpcjgkfhpaaGreatDoorRows
import GoSem.ClaimSeven
namespace Go.Proofs.YtndjkpcjgkfhpaaGreatDoor
namespace Rows

/-- THE TIED CARD OF 'elenchuslaw23.MachineFuel'. -/
def machineFuelCard : Claim7 := { stood := { row := machineFuelRow, standIns := [], harness := (true, "a0d5027e29010eb4e21409e4dca650fbd2ad63e5d1a8b19403af133dea9ae9f5"), looks := true }, kinds := [], alts := [], laidByText := true, laidKinds := [.data, .data, .data], laidTests := true, laidLooks := .later }
def MachineFuelCardSaid : Prop := Claim7.holds Tryz.pinned (.plain (OpenSpec.ofChange machineFuelSpec)) machineFuelCard

/-- THE TIED CARD OF 'elenchuslaw23.MachineNil'. -/
def machineNilCard : Claim7 := { stood := { row := machineNilRow, standIns := [], harness := (true, "a0d5027e29010eb4e21409e4dca650fbd2ad63e5d1a8b19403af133dea9ae9f5"), looks := true }, kinds := [], alts := [], laidByText := true, laidKinds := [.data, .data, .data], laidTests := true, laidLooks := .later }
def MachineNilCardSaid : Prop := Claim7.holds Tryz.pinned (.plain (OpenSpec.ofChange machineNilSpec)) machineNilCard

/-- THE SECOND FORM's CARD OF 'elenchuslaw23.MachineFuel'. -/
def machineFuelUptoCard : Claim7 := { stood := { row := machineFuelUptoRow, standIns := [], harness := (true, "a0d5027e29010eb4e21409e4dca650fbd2ad63e5d1a8b19403af133dea9ae9f5"), looks := true }, kinds := [], alts := [], laidByText := true, laidKinds := [.data, .data, .data], laidTests := true, laidLooks := .later }
def MachineFuelUptoCardSaid : Prop := Claim7.holds Tryz.pinned (.plain (OpenSpec.upto machineFuelSpec)) machineFuelUptoCard

/-- THE SECOND FORM's CARD OF 'elenchuslaw23.MachineNil'. -/
def machineNilUptoCard : Claim7 := { stood := { row := machineNilUptoRow, standIns := [], harness := (true, "a0d5027e29010eb4e21409e4dca650fbd2ad63e5d1a8b19403af133dea9ae9f5"), looks := true }, kinds := [], alts := [], laidByText := true, laidKinds := [.data, .data, .data], laidTests := true, laidLooks := .later }
def MachineNilUptoCardSaid : Prop := Claim7.holds Tryz.pinned (.plain (OpenSpec.upto machineNilSpec)) machineNilUptoCard
end Rows
end Go.Proofs.YtndjkpcjgkfhpaaGreatDoor
