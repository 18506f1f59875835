/- Proved: CodeFacts, the runs of seven of the numbers. Conditions: none. -/
import Derived.Test.YtheadeoebeenlaaGreatDoorCF
import Derived.KernelRfl
namespace Go.Proofs.YtheadeoebeenlaaGreatDoor.CodeL
open Go Go.Proofs.YtheadeoebeenlaaGreatDoor.AI
theorem cf_14 : cfTrue 14 := by
  intro v0 v1 v2 v3
  exact (show isTrue (runRest ⟨Tryz.prog, tabG⟩ prim 1000 100 95 [.tmp 2] cfRest (cfFrame 14 v0 v1 v2 v3) tabH) = true by kernel_rfl)
theorem cf_15 : cfTrue 15 := by
  intro v0 v1 v2 v3
  exact (show isTrue (runRest ⟨Tryz.prog, tabG⟩ prim 1000 100 95 [.tmp 2] cfRest (cfFrame 15 v0 v1 v2 v3) tabH) = true by kernel_rfl)
theorem cf_16 : cfTrue 16 := by
  intro v0 v1 v2 v3
  exact (show isTrue (runRest ⟨Tryz.prog, tabG⟩ prim 1000 100 95 [.tmp 2] cfRest (cfFrame 16 v0 v1 v2 v3) tabH) = true by kernel_rfl)
theorem cf_17 : cfTrue 17 := by
  intro v0 v1 v2 v3
  exact (show isTrue (runRest ⟨Tryz.prog, tabG⟩ prim 1000 100 95 [.tmp 2] cfRest (cfFrame 17 v0 v1 v2 v3) tabH) = true by kernel_rfl)
theorem cf_18 : cfTrue 18 := by
  intro v0 v1 v2 v3
  exact (show isTrue (runRest ⟨Tryz.prog, tabG⟩ prim 1000 100 95 [.tmp 2] cfRest (cfFrame 18 v0 v1 v2 v3) tabH) = true by kernel_rfl)
theorem cf_19 : cfTrue 19 := by
  intro v0 v1 v2 v3
  exact (show isTrue (runRest ⟨Tryz.prog, tabG⟩ prim 1000 100 95 [.tmp 2] cfRest (cfFrame 19 v0 v1 v2 v3) tabH) = true by kernel_rfl)
theorem cf_20 : cfTrue 20 := by
  intro v0 v1 v2 v3
  exact (show isTrue (runRest ⟨Tryz.prog, tabG⟩ prim 1000 100 95 [.tmp 2] cfRest (cfFrame 20 v0 v1 v2 v3) tabH) = true by kernel_rfl)
end Go.Proofs.YtheadeoebeenlaaGreatDoor.CodeL
