/- Proved: EngineMany returns true and leaves what there was as it was, whatever the number. Conditions: none. -/
import Derived.Test.YtgonoigdjafikaaGreatDoorEM0
import Derived.Test.YtgonoigdjafikaaGreatDoorEM1
import Derived.Test.YtgonoigdjafikaaGreatDoorEM2
import Derived.Test.YtgonoigdjafikaaGreatDoorEM3
import Derived.Test.YtgonoigdjafikaaGreatDoorEM4
import Derived.Test.YtgonoigdjafikaaGreatDoorEM5
import Derived.Test.YtgonoigdjafikaaGreatDoorLaidW
namespace Go.Proofs.YtgonoigdjafikaaGreatDoor.ManyL
open Go Go.RowKit Go.Proofs.YtgonoigdjafikaaGreatDoor.AI
theorem engineMany_walk (n : Int) (W : World) (_w0 : (Lit.int .i64 n).wf = true) (_L : LaidW.Laid W) :
    Calls Tryz.prog 3 #[.int .i64 n] W fun e w' => e = .returned (.bool true) ∧ Below W.heap.size W w' :=
  em_calls n W fun K hK => by
    match K, hK with
    | 0, _ => exact em_0
    | 1, _ => exact em_1
    | 2, _ => exact em_2
    | 3, _ => exact em_3
    | 4, _ => exact em_4
    | 5, _ => exact em_5
    | K + 6, hK => exact absurd hK (by omega)
end Go.Proofs.YtgonoigdjafikaaGreatDoor.ManyL
