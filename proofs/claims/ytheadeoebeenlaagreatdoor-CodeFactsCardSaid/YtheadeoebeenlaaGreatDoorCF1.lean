/- Proved: CodeFacts, the runs of seven of the numbers. Conditions: none. -/
import Derived.Test.YtheadeoebeenlaaGreatDoorCF
import Derived.KernelRfl
namespace Go.Proofs.YtheadeoebeenlaaGreatDoor.CodeL
open Go Go.Proofs.YtheadeoebeenlaaGreatDoor.AI
theorem cf_7 : cfTrue 7 := by
  intro v0 v1 v2 v3
  exact (show isTrue (runRest ⟨Tryz.prog, tabG⟩ prim 1000 100 95 [.tmp 2] cfRest (cfFrame 7 v0 v1 v2 v3) tabH) = true by kernel_rfl)
theorem cf_8 : cfTrue 8 := by
  intro v0 v1 v2 v3
  exact (show isTrue (runRest ⟨Tryz.prog, tabG⟩ prim 1000 100 95 [.tmp 2] cfRest (cfFrame 8 v0 v1 v2 v3) tabH) = true by kernel_rfl)
theorem cf_9 : cfTrue 9 := by
  intro v0 v1 v2 v3
  exact (show isTrue (runRest ⟨Tryz.prog, tabG⟩ prim 1000 100 95 [.tmp 2] cfRest (cfFrame 9 v0 v1 v2 v3) tabH) = true by kernel_rfl)
theorem cf_10 : cfTrue 10 := by
  intro v0 v1 v2 v3
  exact (show isTrue (runRest ⟨Tryz.prog, tabG⟩ prim 1000 100 95 [.tmp 2] cfRest (cfFrame 10 v0 v1 v2 v3) tabH) = true by kernel_rfl)
theorem cf_11 : cfTrue 11 := by
  intro v0 v1 v2 v3
  exact (show isTrue (runRest ⟨Tryz.prog, tabG⟩ prim 1000 100 95 [.tmp 2] cfRest (cfFrame 11 v0 v1 v2 v3) tabH) = true by kernel_rfl)
theorem cf_12 : cfTrue 12 := by
  intro v0 v1 v2 v3
  exact (show isTrue (runRest ⟨Tryz.prog, tabG⟩ prim 1000 100 95 [.tmp 2] cfRest (cfFrame 12 v0 v1 v2 v3) tabH) = true by kernel_rfl)
theorem cf_13 : cfTrue 13 := by
  intro v0 v1 v2 v3
  exact (show isTrue (runRest ⟨Tryz.prog, tabG⟩ prim 1000 100 95 [.tmp 2] cfRest (cfFrame 13 v0 v1 v2 v3) tabH) = true by kernel_rfl)
end Go.Proofs.YtheadeoebeenlaaGreatDoor.CodeL
