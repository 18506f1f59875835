/- Proved: EngineMany, the run of one of the six numbers. Conditions: none. -/
import Derived.Test.YtgonoigdjafikaaGreatDoorEM
import Derived.KernelRfl
namespace Go.Proofs.YtgonoigdjafikaaGreatDoor.ManyL
open Go Go.Proofs.YtgonoigdjafikaaGreatDoor.AI
theorem em_3 : emTrue 3 := by
  intro v1 v2 v3 v4 v5
  exact (show isTrue (runRest ⟨Tryz.prog, rawG⟩ prim 1000 100 85 [.tmp 2] emRest (emFrame 3 v1 v2 v3 v4 v5) (heapR newRun)) = true by kernel_rfl)
end Go.Proofs.YtgonoigdjafikaaGreatDoor.ManyL
