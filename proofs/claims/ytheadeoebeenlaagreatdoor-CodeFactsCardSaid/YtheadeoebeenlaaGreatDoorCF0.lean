/- Proved: CodeFacts, the runs of seven of the numbers. Conditions: none. -/
import Derived.Test.YtheadeoebeenlaaGreatDoorCF
import Derived.KernelRfl
namespace Go.Proofs.YtheadeoebeenlaaGreatDoor.CodeL
open Go Go.Proofs.YtheadeoebeenlaaGreatDoor.AI
theorem cf_0 : cfTrue 0 := by
  intro v0 v1 v2 v3
  exact (show isTrue (runRest ⟨Tryz.prog, tabG⟩ prim 1000 100 95 [.tmp 2] cfRest (cfFrame 0 v0 v1 v2 v3) tabH) = true by kernel_rfl)
theorem cf_1 : cfTrue 1 := by
  intro v0 v1 v2 v3
  exact (show isTrue (runRest ⟨Tryz.prog, tabG⟩ prim 1000 100 95 [.tmp 2] cfRest (cfFrame 1 v0 v1 v2 v3) tabH) = true by kernel_rfl)
theorem cf_2 : cfTrue 2 := by
  intro v0 v1 v2 v3
  exact (show isTrue (runRest ⟨Tryz.prog, tabG⟩ prim 1000 100 95 [.tmp 2] cfRest (cfFrame 2 v0 v1 v2 v3) tabH) = true by kernel_rfl)
theorem cf_3 : cfTrue 3 := by
  intro v0 v1 v2 v3
  exact (show isTrue (runRest ⟨Tryz.prog, tabG⟩ prim 1000 100 95 [.tmp 2] cfRest (cfFrame 3 v0 v1 v2 v3) tabH) = true by kernel_rfl)
theorem cf_4 : cfTrue 4 := by
  intro v0 v1 v2 v3
  exact (show isTrue (runRest ⟨Tryz.prog, tabG⟩ prim 1000 100 95 [.tmp 2] cfRest (cfFrame 4 v0 v1 v2 v3) tabH) = true by kernel_rfl)
theorem cf_5 : cfTrue 5 := by
  intro v0 v1 v2 v3
  exact (show isTrue (runRest ⟨Tryz.prog, tabG⟩ prim 1000 100 95 [.tmp 2] cfRest (cfFrame 5 v0 v1 v2 v3) tabH) = true by kernel_rfl)
theorem cf_6 : cfTrue 6 := by
  intro v0 v1 v2 v3
  exact (show isTrue (runRest ⟨Tryz.prog, tabG⟩ prim 1000 100 95 [.tmp 2] cfRest (cfFrame 6 v0 v1 v2 v3) tabH) = true by kernel_rfl)
end Go.Proofs.YtheadeoebeenlaaGreatDoor.CodeL
