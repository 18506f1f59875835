/- Proved: CodeFacts returns true and leaves what there was as it was, whatever the number. Conditions: none. -/
import Derived.Test.YtheadeoebeenlaaGreatDoorCF0
import Derived.Test.YtheadeoebeenlaaGreatDoorCF1
import Derived.Test.YtheadeoebeenlaaGreatDoorCF2
namespace Go.Proofs.YtheadeoebeenlaaGreatDoor.CodeL
open Go Go.RowKit Go.Proofs.YtheadeoebeenlaaGreatDoor.AI
theorem codeFacts_walk (n : Int) (W : World) (w0 : (Lit.int .i64 n).wf = true) (L : LaidC.Laid W) :
    Calls Tryz.prog 3 #[.int .i64 n] W fun e w' => e = .returned (.bool true) ∧ Below W.heap.size W w' := by
  refine cf_calls n W L (by simp only [Lit.wf, Bool.and_eq_true, decide_eq_true_eq] at w0; exact w0) fun a ha => ?_
  match a, ha with
  | 0, _ => exact cf_0
  | 1, _ => exact cf_1
  | 2, _ => exact cf_2
  | 3, _ => exact cf_3
  | 4, _ => exact cf_4
  | 5, _ => exact cf_5
  | 6, _ => exact cf_6
  | 7, _ => exact cf_7
  | 8, _ => exact cf_8
  | 9, _ => exact cf_9
  | 10, _ => exact cf_10
  | 11, _ => exact cf_11
  | 12, _ => exact cf_12
  | 13, _ => exact cf_13
  | 14, _ => exact cf_14
  | 15, _ => exact cf_15
  | 16, _ => exact cf_16
  | 17, _ => exact cf_17
  | 18, _ => exact cf_18
  | 19, _ => exact cf_19
  | 20, _ => exact cf_20
  | a + 21, ha => exact absurd ha (by omega)
end Go.Proofs.YtheadeoebeenlaaGreatDoor.CodeL
