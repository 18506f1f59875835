/- Proved: what the interpreter's runs over this seat's program lean on. Conditions: none. -/
import Derived.Test.YtenpnejkgopghaaDoorAkM
import Derived.Test.YtenpnejkgopghaaDoorProg
import Derived.KernelRfl
set_option linter.unusedSectionVars false
namespace Go.Proofs.YtenpnejkgopghaaDoor.AK
open Go
noncomputable section
theorem noNumAll : (Tryd.prog.funcs.all fun fn => fn.name != "runtime.NumGoroutine") = true := by kernel_rfl
theorem noNum (g : FuncId) (fn : Func) (h : Tryd.prog.funcs[g]? = some fn) : fn.name ≠ "runtime.NumGoroutine" := by
  have h1 := noNumAll
  rw [Array.all_eq_true_iff_forall_mem] at h1
  have := h1 fn (Array.mem_of_getElem? h)
  simpa using this
/-- A call of a function that has a body enters it. -/
theorem enters {f : FuncId} {fn : Func} {c : Code} (hf : Tryd.prog.funcs[f]? = some fn) (hb : fn.body = some c) (A : Array Value) (w : World) : (callFunc f A).run Tryd.prog w = .ok (.enter f A) w := by
  have h1 := noNum f fn hf
  simp [callFunc, hf, h1, hb]
variable [Env] {RT : List Rule} [RulesOk Tryd.prog RT]
/-- From a state to another, the rest told by rules. -/
theorem run_state {f : FuncId} {rs : List CRule} {fs : List FuncId} (hrs : ∀ r ∈ rs, CRuleOk Tryd.prog r) (hp : memN f fs = false) {k k1 : Nat} {σ : List Value} {w : World} {avs : List AV} {A : Array Value} (he : Env.ext k σ w) (ha : RVL (names σ) avs A.toList) (hd : detL avs = true) (N n : Nat) {v : AV} {h1 : H}
    (hrun : callN ⟨Tryd.prog, rawG, RT⟩ (primsR rs fs) N n (.fn f [] []) avs (H.gh k) = .ok v h1) (hk : curG h1 = some k1) (hv : detA v = true) :
    Calls Tryd.prog f A w fun e w1 => ∃ u vs, e = .returned u ∧ RV (names (σ ++ vs)) v u ∧ Eff k σ w k1 (σ ++ vs) w1 :=
  state_calls (prim := primsR rs fs) (fun g fn hf _ => noNum g fn hf) (fun g p h => primsR_ok hrs g p h) (by unfold primsR; rw [hp]; rfl) he ha hd N n hrun hk hv
/-- No memory in sight, the rest told by rules. -/
theorem run_plain {f : FuncId} {rs : List CRule} {fs : List FuncId} (hrs : ∀ r ∈ rs, CRuleOk Tryd.prog r) (hp : memN f fs = false) {w : World} {avs : List AV} {A : Array Value} (ha : RVL (names []) avs A.toList) (hd : detL avs = true) (N n : Nat) {v : AV} {h1 : H}
    (hrun : callN ⟨Tryd.prog, rawG, RT⟩ (primsR rs fs) N n (.fn f [] []) avs H.empty = .ok v h1) (hv : detA v = true) (hsv : statA v = true) :
    Calls Tryd.prog f A w fun e w1 => ∃ u, e = .returned u ∧ RV (names []) v u ∧ RowKit.Below w.heap.size w w1 :=
  plain_calls (prim := primsR rs fs) (fun g fn hf _ => noNum g fn hf) (fun g p h => primsR_ok hrs g p h) (by unfold primsR; rw [hp]; rfl) ha hd N n hrun hv hsv
/-- A piece of code, the rest told by rules. -/
theorem run_piece {rs : List CRule} {fs : List FuncId} (hrs : ∀ r ∈ rs, CRuleOk Tryd.prog r) {nt lo k k1 : Nat} {σ : List Value} {fr : List AV} {a : Act} {w : World} {c : Code} (hat : At nt lo k σ fr a w) (hd : detL fr = true) (hmost : nt ≤ 576) (N n : Nat)
    {e : E} {f1 : Fr} {h1 : H} (hrun : (codeC ⟨Tryd.prog, rawG, RT⟩ (fun g => (primsR rs fs g).isSome) nt false c).run (callN ⟨Tryd.prog, rawG, RT⟩ (primsR rs fs) N n) N (frV fr Fr.new 0) (H.gh k) (fun f h => .ok .normal f h) = .ok e f1 h1) (hk : curG h1 = some k1) {Q : Exit → Act → World → Prop}
    (hQ : ∀ a1 w1 vs, At nt lo k1 (σ ++ vs) (frL nt f1) a1 w1 → Eff k σ w k1 (σ ++ vs) w1 → Q (exitE e) a1 w1) : c.wpIn (Wd none) 0 Tryd.prog Q a w :=
  piece_ok (prim := primsR rs fs) (fun g fn hf _ => noNum g fn hf) (fun g p h => primsR_ok hrs g p h) hat hd hmost N n hrun hk hQ
end
section
variable [Gnd] {vals : List Value} {B : Nat} {L : List (MSt × Nat)} {RT : List Rule} {rs : List CRule} {fs : List FuncId}
/-- A function, run, the rest told by rules. -/
theorem does_run {f : FuncId} {avs : List AV} {us : List Value} {v : AV} {res : Value} {k n1 : Nat} {S0 S : MSt} (hRT : ∀ r ∈ RT, @RuleOk (memEnv vals B L) Tryd.prog r) (hrs : ∀ r ∈ rs, @CRuleOk (memEnv vals B L) Tryd.prog r) (hp : memN f fs = false) (hS0 : L[0]? = some (S0, 0))
    (ha : @IsL (memEnv vals B L) avs us) (hrun : isDone (callN ⟨Tryd.prog, rawG, RT⟩ (primsR rs fs) 1000 100 (.fn f [] []) avs (H.gh 0)) v k = true) (hS : L[k]? = some (S, n1)) (hres : @Is (memEnv vals B L) v res) :
    Does Tryd.prog f us B S0 fun u S1 => u = res ∧ ∃ vs, vs.length = n1 ∧ S1 = S.inst vs :=
  letI := memEnv vals B L
  Does.run (prim := primsR rs fs) (fun g fn hf _ => noNum g fn hf) hRT (fun g p h => primsR_ok hrs g p h) (by unfold primsR; rw [hp]; rfl) hS0 ha hrun hS hres
/-- A piece of code, run, the rest told by rules. -/
theorem goes_run {c : Code} {nt : Nat} {fr fr1 : List AV} {o0 : List (Option Value)} {o1 : List (Option CellV)} {e : E} {k n1 : Nat} {S0 S : MSt} (hRT : ∀ r ∈ RT, @RuleOk (memEnv vals B L) Tryd.prog r) (hrs : ∀ r ∈ rs, @CRuleOk (memEnv vals B L) Tryd.prog r) (hS0 : L[0]? = some (S0, 0)) (hmost : nt ≤ 576)
    (h0 : @IsO (memEnv vals B L) fr o0) (h1 : IsD (memEnv vals B L) fr1 o1) (hrun : isPiece nt ((codeC ⟨Tryd.prog, rawG, RT⟩ (fun g => (primsR rs fs g).isSome) nt false c).run (callN ⟨Tryd.prog, rawG, RT⟩ (primsR rs fs) 1000 100) 1000 (frV fr Fr.new 0) (H.gh 0) (fun f h => .ok .normal f h)) e k fr1 = true) (hS : L[k]? = some (S, n1)) :
    Goes Tryd.prog nt B c S0 o0 fun e' S1 o' => e' = exitE e ∧ ∃ vs, vs.length = n1 ∧ S1 = S.inst vs ∧ o' = oInst vs o1 :=
  letI := memEnv vals B L
  Goes.run (prim := primsR rs fs) (fun g fn hf _ => noNum g fn hf) hRT (fun g p h => primsR_ok hrs g p h) hS0 hmost h0 h1 hrun hS
end
end Go.Proofs.YtenpnejkgopghaaDoor.AK
