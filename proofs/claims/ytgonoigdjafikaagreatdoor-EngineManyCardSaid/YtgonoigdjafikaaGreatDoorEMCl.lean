/- The closed facts of the row. Whatever the input, the law EngineMany returns true and each argument reads afterwards as it read before, where the listed variables of the library hold what the program's text lays in them; the card ties that to the text. Conditions: none beyond the row's own. -/
import Derived.Test.YtgonoigdjafikaaGreatDoorRows
import Derived.WalkKit
import Derived.ProofKit
import Derived.OpenShut
import Derived.ShutString
import Derived.ChangeOld
import Derived.Below
import Derived.SizedLaws
import Derived.ChangeSame
import Derived.ChangeVars
import Derived.ChangeMaps5
import Derived.Carry
import Derived.JoinedOf
import Derived.JoinedAt
import Derived.RowKit
import Derived.RowKit3
import Derived.RowKitTokens
import Derived.LaidLaws
import Derived.SevenTiedAt
namespace Go.Proofs.YtgonoigdjafikaaGreatDoor.engineMany
open Go.ChangeShapes Go.WideShapes Go.ChangeAt Go.RowKit
open Go.ChangeMaps (open_string shut_string)
set_option linter.unusedVariables false
set_option maxHeartbeats 40000000 in
theorem closed : joinedFacts Tryz.prog 3 Tryz.f3 Rows.engineManySpec Rows.engineManyRow = true := by
  unfold joinedFacts
  repeat' (with_reducible refine (Bool.and_eq_true _ _).mpr ⟨?_, ?_⟩)
  all_goals (as_aux_lemma => kernel_rfl)
end Go.Proofs.YtgonoigdjafikaaGreatDoor.engineMany
