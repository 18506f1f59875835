/- Proved: MachineNil returns true and leaves what there was as it was, whatever the terms. Conditions: none. -/
import Derived.Test.YtndjkpcjgkfhpaaGreatDoorAiRun
import Derived.Test.YtndjkpcjgkfhpaaGreatDoorLaidW
namespace Go.Proofs.YtndjkpcjgkfhpaaGreatDoor.AI
open Go
theorem machineNil_run (a0 a1 a2 a3 a4 a5 b0 b1 b2 b3 b4 b5 : Value) : isTrue (callN ⟨Tryz.prog, rawG⟩ (fun _ => none) 1000 100 (.fn 4 [] []) [.agg [.raw a0, .raw a1, .raw a2, .raw a3, .raw a4, .raw a5], .agg [.raw b0, .raw b1, .raw b2, .raw b3, .raw b4, .raw b5]] H.empty) = true := by kernel_rfl
theorem machineNil_walk (v0 v1 : Value) (W : World) (s0 : ∃ cs : Array Value, v0 = .agg cs ∧ cs.size = 6) (s1 : ∃ cs : Array Value, v1 = .agg cs ∧ cs.size = 6) (_L : LaidW.Laid W) :
    Calls Tryz.prog 4 #[v0, v1] W fun e w' => e = .returned (.bool true) ∧ RowKit.Below W.heap.size W w' := by
  obtain ⟨c, rfl, hc⟩ := s0
  obtain ⟨d, rfl, hd⟩ := s1
  obtain ⟨a0, a1, a2, a3, a4, a5, rfl⟩ := agg_six hc
  obtain ⟨b0, b1, b2, b3, b4, b5, rfl⟩ := agg_six hd
  exact plain_true (.cons (.agg (rawL_rv _ [a0, a1, a2, a3, a4, a5])) (.cons (.agg (rawL_rv _ [b0, b1, b2, b3, b4, b5])) .nil)) 1000 100 (machineNil_run a0 a1 a2 a3 a4 a5 b0 b1 b2 b3 b4 b5)
end Go.Proofs.YtndjkpcjgkfhpaaGreatDoor.AI
