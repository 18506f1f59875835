/- Proved: what the runs of ReadOrder lean on: the law's code behind its first three regions, what is told of functions by their contracts, awake. Conditions: none. -/
import Derived.Test.YtheadeoebeenlaaGreatDoorAjRun
import Derived.Test.YtheadeoebeenlaaGreatDoorAjT
import Derived.Test.YtheadeoebeenlaaGreatDoorJns
set_option linter.unusedVariables false
namespace Go.Proofs.YtheadeoebeenlaaGreatDoor.OrdL
open Go Go.RowKit Go.Proofs Go.Proofs.YtheadeoebeenlaaGreatDoor.AJ
noncomputable section
set_option linter.unusedSectionVars false
variable [Env]
def tlC : Code → Code | .seq _ b => b | c => c
def hdC : Code → Code | .seq a _ => a | c => c
noncomputable def prim0 : Nat → Option FnC := fun g => bif Nat.beq g 60 then some (primInsert 3 (2 * 56 + 2)) else bif Nat.beq g 161 then some primIndexByte else none
noncomputable def prim : Nat → Option FnC := fun g => bif Nat.beq g 15 then some primTrue else prim0 g
theorem prim0_ok {pb : FuncId → Bool} (g : FuncId) (p : FnC) (h : prim0 g = some p) : PrimOk Tryz.prog rawG pb g p := by
  unfold prim0 at h
  cases hb : Nat.beq g 60 with
  | true =>
    rw [hb] at h
    cases h
    obtain rfl := Nat.eq_of_beq_eq_true hb
    exact Jns.prim_ok
  | false =>
    rw [hb] at h
    cases h2 : Nat.beq g 161 with
    | true =>
      rw [h2] at h
      cases h
      obtain rfl := Nat.eq_of_beq_eq_true h2
      exact primIndexByte_ok Tryz.func161 (by kernel_rfl) (by kernel_rfl) (by kernel_rfl) (by kernel_rfl)
    | false => rw [h2] at h; cases h
theorem awake_run : isTrue (callN ⟨Tryz.prog, rawG⟩ prim0 1000 100 (.fn 15 [] []) [] H.empty) = true := by kernel_rfl
theorem awake_ok (w : World) : Calls Tryz.prog 15 #[] w fun e w' => e = .returned (.bool true) ∧ Below w.heap.size w w' := by
  obtain ⟨h1, hr⟩ := isTrue_ok awake_run
  exact true_ok (prim := prim0) (fun g fn hf _ => noNum g fn hf) (fun g p hp => prim0_ok g p hp) rfl (rawG_ok _) (Sim.empty w) (fun g hg => absurd hg (Nat.not_lt_zero g)) (args := #[]) .nil 1000 100 hr
theorem prim_ok {pb : FuncId → Bool} (g : FuncId) (p : FnC) (h : prim g = some p) : PrimOk Tryz.prog rawG pb g p := by
  unfold prim at h
  cases hb : Nat.beq g 15 with
  | true =>
    rw [hb] at h
    cases h
    obtain rfl := Nat.eq_of_beq_eq_true hb
    exact primTrue_ok (enters_of Tryz.func15 (by kernel_rfl) rfl) awake_ok
  | false => rw [hb] at h; exact prim0_ok g p h
theorem modLem (n : Int) (q : Nat) (hq : 0 < q) (hq2 : q < 1000000) (wn : -9223372036854775808 ≤ n ∧ n ≤ 9223372036854775807) : ∃ K : Nat, wrap64 ((IntKind.u64.wrap n).tmod q) = (K : Int) ∧ K < q := by
  have h0 : 0 ≤ IntKind.u64.wrap n := by unfold IntKind.wrap; simp [IntKind.signed, IntKind.bits]; omega
  have h1 := Int.tmod_lt_of_pos (IntKind.u64.wrap n) (show (0 : Int) < q by omega)
  have h2 := Int.tmod_nonneg (q : Int) h0
  refine ⟨((IntKind.u64.wrap n).tmod q).toNat, ?_, ?_⟩
  · unfold wrap64; omega
  · omega
end
end Go.Proofs.YtheadeoebeenlaaGreatDoor.OrdL
