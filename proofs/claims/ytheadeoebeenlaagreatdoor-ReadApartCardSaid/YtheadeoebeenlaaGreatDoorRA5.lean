/- Proved: ReadApart, the runs where the first number is 5. Conditions: none. -/
import Derived.Test.YtheadeoebeenlaaGreatDoorRA
import Derived.KernelRfl
namespace Go.Proofs.YtheadeoebeenlaaGreatDoor.ReadL
open Go Go.Proofs.YtheadeoebeenlaaGreatDoor.AI
theorem ap_5_0 (v0 v1 v2 v3 v4 v5 v6 v7 v8 v9 : Value) : (isTrue (runRest ⟨Tryz.prog, rawG⟩ prim 1000 100 108 [.tmp 4] apRest (apFrame 5 1 v0 v1 v2 v3 v4 v5 v6 v7 v8 v9) H.empty) && (isTrue (runRest ⟨Tryz.prog, rawG⟩ prim 1000 100 108 [.tmp 4] apRest (apFrame 5 2 v0 v1 v2 v3 v4 v5 v6 v7 v8 v9) H.empty) && isTrue (runRest ⟨Tryz.prog, rawG⟩ prim 1000 100 108 [.tmp 4] apRest (apFrame 5 3 v0 v1 v2 v3 v4 v5 v6 v7 v8 v9) H.empty))) = true := by kernel_rfl
theorem ap_5_1 (v0 v1 v2 v3 v4 v5 v6 v7 v8 v9 : Value) : (isTrue (runRest ⟨Tryz.prog, rawG⟩ prim 1000 100 108 [.tmp 4] apRest (apFrame 5 4 v0 v1 v2 v3 v4 v5 v6 v7 v8 v9) H.empty) && (isTrue (runRest ⟨Tryz.prog, rawG⟩ prim 1000 100 108 [.tmp 4] apRest (apFrame 5 5 v0 v1 v2 v3 v4 v5 v6 v7 v8 v9) H.empty) && isTrue (runRest ⟨Tryz.prog, rawG⟩ prim 1000 100 108 [.tmp 4] apRest (apFrame 5 6 v0 v1 v2 v3 v4 v5 v6 v7 v8 v9) H.empty))) = true := by kernel_rfl
theorem ap_5_2 (v0 v1 v2 v3 v4 v5 v6 v7 v8 v9 : Value) : (isTrue (runRest ⟨Tryz.prog, rawG⟩ prim 1000 100 108 [.tmp 4] apRest (apFrame 5 7 v0 v1 v2 v3 v4 v5 v6 v7 v8 v9) H.empty) && (isTrue (runRest ⟨Tryz.prog, rawG⟩ prim 1000 100 108 [.tmp 4] apRest (apFrame 5 8 v0 v1 v2 v3 v4 v5 v6 v7 v8 v9) H.empty) && isTrue (runRest ⟨Tryz.prog, rawG⟩ prim 1000 100 108 [.tmp 4] apRest (apFrame 5 9 v0 v1 v2 v3 v4 v5 v6 v7 v8 v9) H.empty))) = true := by kernel_rfl
theorem ap_5 (b : Nat) (hb : b < 9) : apTrue 5 (b + 1 : Nat) := by
  intro v0 v1 v2 v3 v4 v5 v6 v7 v8 v9
  have h0 := ap_5_0 v0 v1 v2 v3 v4 v5 v6 v7 v8 v9
  rw [Bool.and_eq_true, Bool.and_eq_true] at h0
  have h1 := ap_5_1 v0 v1 v2 v3 v4 v5 v6 v7 v8 v9
  rw [Bool.and_eq_true, Bool.and_eq_true] at h1
  have h2 := ap_5_2 v0 v1 v2 v3 v4 v5 v6 v7 v8 v9
  rw [Bool.and_eq_true, Bool.and_eq_true] at h2
  match b, hb with
  | 0, _ => exact h0.1
  | 1, _ => exact h0.2.1
  | 2, _ => exact h0.2.2
  | 3, _ => exact h1.1
  | 4, _ => exact h1.2.1
  | 5, _ => exact h1.2.2
  | 6, _ => exact h2.1
  | 7, _ => exact h2.2.1
  | 8, _ => exact h2.2.2
  | b + 9, hb => exact absurd hb (by omega)
end Go.Proofs.YtheadeoebeenlaaGreatDoor.ReadL
