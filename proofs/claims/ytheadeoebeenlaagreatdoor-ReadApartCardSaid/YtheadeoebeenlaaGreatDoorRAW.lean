/- Proved: ReadApart returns true and leaves what there was as it was, whatever the numbers. Conditions: none. -/
import Derived.Test.YtheadeoebeenlaaGreatDoorRA1
import Derived.Test.YtheadeoebeenlaaGreatDoorRA2
import Derived.Test.YtheadeoebeenlaaGreatDoorRA3
import Derived.Test.YtheadeoebeenlaaGreatDoorRA4
import Derived.Test.YtheadeoebeenlaaGreatDoorRA5
import Derived.Test.YtheadeoebeenlaaGreatDoorRA6
import Derived.Test.YtheadeoebeenlaaGreatDoorRA7
import Derived.Test.YtheadeoebeenlaaGreatDoorRA8
import Derived.Test.YtheadeoebeenlaaGreatDoorRA9
import Derived.Test.YtheadeoebeenlaaGreatDoorLaidW
namespace Go.Proofs.YtheadeoebeenlaaGreatDoor.ReadL
open Go Go.RowKit Go.Proofs.YtheadeoebeenlaaGreatDoor.AI
theorem readApart_walk (n m : Int) (W : World) (w0 : (Lit.int .i64 n).wf = true) (w1 : (Lit.int .i64 m).wf = true) (_L : LaidW.Laid W) :
    Calls Tryz.prog 4 #[.int .i64 n, .int .i64 m] W fun e w' => e = .returned (.bool true) ∧ Below W.heap.size W w' := by
  refine ap_calls n m W (by simp only [Lit.wf, Bool.and_eq_true, decide_eq_true_eq] at w0; exact w0) (by simp only [Lit.wf, Bool.and_eq_true, decide_eq_true_eq] at w1; exact w1) fun a b ha hb => ?_
  match a, ha with
  | 0, _ => exact ap_1 b hb
  | 1, _ => exact ap_2 b hb
  | 2, _ => exact ap_3 b hb
  | 3, _ => exact ap_4 b hb
  | 4, _ => exact ap_5 b hb
  | 5, _ => exact ap_6 b hb
  | 6, _ => exact ap_7 b hb
  | 7, _ => exact ap_8 b hb
  | 8, _ => exact ap_9 b hb
  | a + 9, ha => exact absurd ha (by omega)
end Go.Proofs.YtheadeoebeenlaaGreatDoor.ReadL
