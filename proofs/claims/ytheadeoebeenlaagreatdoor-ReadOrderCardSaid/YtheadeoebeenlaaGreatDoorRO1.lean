/- Proved: ReadOrder, the runs of kind 1. Conditions: none. -/
import Derived.Test.YtheadeoebeenlaaGreatDoorRO
import Derived.KernelRfl
namespace Go.Proofs.YtheadeoebeenlaaGreatDoor.OrdL
open Go Go.Proofs.YtheadeoebeenlaaGreatDoor.AJ
theorem ro_1_all (v0 v1 v2 v3 v4 v5 v6 v7 v8 v9 v10 v11 v12 v13 : Value) : (isTrue (runRest ⟨Tryz.prog, rawG⟩ prim 1000 100 99 [.tmp 6] roRest (roFrame (.sym 0 0 1 999) (.sym 1 0 1 999) 1 v0 v1 v2 v3 v4 v5 v6 v7 v8 v9 v10 v11 v12 v13) H.empty) && (isTrue (runRest ⟨Tryz.prog, rawG⟩ prim 1000 100 99 [.tmp 6] roRest (roFrame (.sym 1 0 1 999) (.sym 0 0 1 999) 1 v0 v1 v2 v3 v4 v5 v6 v7 v8 v9 v10 v11 v12 v13) H.empty) && isTrue (runRest ⟨Tryz.prog, rawG⟩ prim 1000 100 99 [.tmp 6] roRest (roFrame (.sym 0 0 1 999) (.sym 0 0 1 999) 1 v0 v1 v2 v3 v4 v5 v6 v7 v8 v9 v10 v11 v12 v13) H.empty))) = true := by kernel_rfl
theorem ro_1 : roTrue (.sym 0 0 1 999) (.sym 1 0 1 999) 1 ∧ roTrue (.sym 1 0 1 999) (.sym 0 0 1 999) 1 ∧ roTrue (.sym 0 0 1 999) (.sym 0 0 1 999) 1 := by
  have h := fun v0 v1 v2 v3 v4 v5 v6 v7 v8 v9 v10 v11 v12 v13 => ro_1_all v0 v1 v2 v3 v4 v5 v6 v7 v8 v9 v10 v11 v12 v13
  simp only [Bool.and_eq_true] at h
  exact ⟨fun v0 v1 v2 v3 v4 v5 v6 v7 v8 v9 v10 v11 v12 v13 => (h v0 v1 v2 v3 v4 v5 v6 v7 v8 v9 v10 v11 v12 v13).1, fun v0 v1 v2 v3 v4 v5 v6 v7 v8 v9 v10 v11 v12 v13 => (h v0 v1 v2 v3 v4 v5 v6 v7 v8 v9 v10 v11 v12 v13).2.1, fun v0 v1 v2 v3 v4 v5 v6 v7 v8 v9 v10 v11 v12 v13 => (h v0 v1 v2 v3 v4 v5 v6 v7 v8 v9 v10 v11 v12 v13).2.2⟩
end Go.Proofs.YtheadeoebeenlaaGreatDoor.OrdL
