/- Proved: what the interpreter's runs over this seat's program lean on. Conditions: none. -/
import Derived.Test.YtgonoigdjafikaaGreatDoorAiS
import Derived.Test.YtgonoigdjafikaaGreatDoorProg
import Derived.KernelRfl
import GoSem.ClaimGoes
namespace Go.Proofs.YtgonoigdjafikaaGreatDoor.AI
open Go
noncomputable section
def isTrue (r : R2) : Bool := R2.rec (motive := fun _ => Bool) (fun v _ => v.onBool (fun b => b) false) false r
theorem isTrue_ok {r : R2} (h : isTrue r = true) : ∃ h1, r = .ok (.bool true) h1 := by
  cases r with
  | bad => cases h
  | ok v h1 =>
    cases v with
    | bool b =>
      have h : b = true := h
      subst h
      exact ⟨h1, rfl⟩
    | _ => cases h
theorem noNumAll : (Tryz.prog.funcs.all fun fn => fn.name != "runtime.NumGoroutine") = true := by kernel_rfl
theorem noNum (g : FuncId) (fn : Func) (h : Tryz.prog.funcs[g]? = some fn) : fn.name ≠ "runtime.NumGoroutine" := by
  have h1 := noNumAll
  rw [Array.all_eq_true_iff_forall_mem] at h1
  have := h1 fn (Array.mem_of_getElem? h)
  simpa using this
theorem noGoes : (Tryz.prog.funcs.all fun fn => !fn.goes) = true := by kernel_rfl
/-- Without functions that are told otherwise. -/
theorem plain_true {g : FuncId} {avs : List AV} {args : Array Value} {w : World} (ha : RVL (fun _ _ => none) avs args.toList) (N n : Nat) (hrun : isTrue (callN ⟨Tryz.prog, rawG⟩ (fun _ => none) N n (.fn g [] []) avs H.empty) = true) :
    Calls Tryz.prog g args w fun e w1 => e = .returned (.bool true) ∧ RowKit.Below w.heap.size w w1 := by
  obtain ⟨h1, hr⟩ := isTrue_ok hrun
  exact true_ok (prim := fun _ => none) (fun g fn hf _ => noNum g fn hf) (fun g p hp => by cases hp) rfl (rawG_ok _) (Sim.empty w) (fun g hg => absurd hg (Nat.not_lt_zero g)) ha N n hr
theorem goes_of_none {P : Program} (h : (P.funcs.all fun fn => !fn.goes) = true) (c : OpenClaim) (hs : c.start = .entering) : false = c.goesBy P := by
  have h1 : ∀ (g : FuncId), (P.funcs[g]?).any Func.goes = false := by
    intro g
    cases hg : P.funcs[g]? with
    | none => rfl
    | some fn =>
      rw [Array.all_eq_true_iff_forall_mem] at h
      have := h fn (Array.mem_of_getElem? hg)
      simpa using this
  have h2 : P.funcs.any Func.goes = false := by
    rw [Array.any_eq_false]
    intro i hi hh
    have := h1 i
    rw [Array.getElem?_eq_getElem hi] at this
    simp [hh] at this
  have h3 : ∀ f, P.goes f = false := by
    intro f
    unfold Program.goes
    rw [h2, Bool.and_false, Bool.or_false, List.any_eq_false]
    intro g _
    rw [h1 g]; simp
  unfold OpenClaim.goesBy Program.goesAt Program.goesFrom
  rw [hs]
  simp only [Bool.or_false]
  cases P.funcNamed c.func with
  | none => rfl
  | some f => exact (h3 f).symm
theorem agg_six {cs : Array Value} (h : cs.size = 6) : ∃ c0 c1 c2 c3 c4 c5, cs = #[c0, c1, c2, c3, c4, c5] := by
  obtain ⟨l⟩ := cs
  match l, h with
  | [c0, c1, c2, c3, c4, c5], _ => exact ⟨c0, c1, c2, c3, c4, c5, rfl⟩
def rawL (l : List Value) : List AV := l.map AV.raw
theorem rawL_rv (ι : Inj) : ∀ l : List Value, RVL ι (rawL l) l
  | [] => .nil
  | x :: l => .cons (.raw x) (rawL_rv ι l)
end
end Go.Proofs.YtgonoigdjafikaaGreatDoor.AI
