/- Proved: ReadOrder returns true and leaves what there was as it was, whatever the numbers. Conditions: none. -/
import Derived.Test.YtheadeoebeenlaaGreatDoorRO0
import Derived.Test.YtheadeoebeenlaaGreatDoorRO1
import Derived.Test.YtheadeoebeenlaaGreatDoorLaidW
namespace Go.Proofs.YtheadeoebeenlaaGreatDoor.OrdL
open Go Go.RowKit Go.Proofs.YtheadeoebeenlaaGreatDoor.AJ
theorem readOrder_walk (n m c : Int) (W : World) (w0 : (Lit.int .i64 n).wf = true) (w1 : (Lit.int .i64 m).wf = true) (w2 : (Lit.int .i64 c).wf = true) (_L : LaidW.Laid W) :
    Calls Tryz.prog 5 #[.int .i64 n, .int .i64 m, .int .i64 c] W fun e w' => e = .returned (.bool true) ∧ Below W.heap.size W w' := by
  refine ro_calls n m c W (by simp only [Lit.wf, Bool.and_eq_true, decide_eq_true_eq] at w0; exact w0) (by simp only [Lit.wf, Bool.and_eq_true, decide_eq_true_eq] at w1; exact w1) (by simp only [Lit.wf, Bool.and_eq_true, decide_eq_true_eq] at w2; exact w2) fun k hk => ?_
  match k, hk with
  | 0, _ => exact ro_0
  | 1, _ => exact ro_1
  | k + 2, hk => exact absurd hk (by omega)
end Go.Proofs.YtheadeoebeenlaaGreatDoor.OrdL
