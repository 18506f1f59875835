/- Proved: EngineNil returns true and leaves what there was as it was, whatever the term and the number. Conditions: none. -/
import Derived.Test.YthdlhholcjdejaaGreatDoorAiRun
import Derived.Test.YthdlhholcjdejaaGreatDoorLaidW
namespace Go.Proofs.YthdlhholcjdejaaGreatDoor.AI
open Go
theorem engineNil_run (a0 a1 a2 a3 a4 a5 : Value) (n : Int) : isTrue (callN ⟨Tryz.prog, rawG⟩ (fun _ => none) 1000 100 (.fn 3 [] []) [.agg [.raw a0, .raw a1, .raw a2, .raw a3, .raw a4, .raw a5], .int .i64 n] H.empty) = true := by kernel_rfl
theorem engineNil_walk (v0 : Value) (n : Int) (W : World) (s0 : ∃ cs : Array Value, v0 = .agg cs ∧ cs.size = 6) (_w1 : (Lit.int .i64 n).wf = true) (_L : LaidW.Laid W) :
    Calls Tryz.prog 3 #[v0, .int .i64 n] W fun e w' => e = .returned (.bool true) ∧ RowKit.Below W.heap.size W w' := by
  obtain ⟨c, rfl, hc⟩ := s0
  obtain ⟨a0, a1, a2, a3, a4, a5, rfl⟩ := agg_six hc
  exact plain_true (.cons (.agg (rawL_rv _ [a0, a1, a2, a3, a4, a5])) (.cons (.int _ _) .nil)) 1000 100 (engineNil_run a0 a1 a2 a3 a4 a5 n)
end Go.Proofs.YthdlhholcjdejaaGreatDoor.AI
