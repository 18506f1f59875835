/- Proved: Three regions walked, which may lay blocks; the rest is run. Conditions: none. -/
import Derived.Test.YtgonoigdjafikaaGreatDoorAiT
set_option maxRecDepth 100000
set_option linter.unusedVariables false
set_option linter.unusedSimpArgs false
namespace Go.Proofs.YtgonoigdjafikaaGreatDoor.AI
open Go
noncomputable section
/-! ### Three regions walked, which may lay blocks -/
section
variable {P : Program} {G : Nat → AV} {prim : FuncId → Option FnC}
theorem rest_true3 (hnum : ∀ g fn, P.funcs[g]? = some fn → prim g = none → fn.name ≠ "runtime.NumGoroutine") (hprim : ∀ g p, prim g = some p → PrimOk P G (fun g => (prim g).isSome) g p) {g : FuncId} {fn : Func} {r0 r1 r2 rest : Code}
    (hf : P.funcs[g]? = some fn) (hb : fn.body = some (.seq r0 (.seq r1 (.seq r2 rest)))) {ι : Inj} {h0 : H} {w w0 : World} (hG : GlobOk G ι) (S : Sim ι h0 w0) (hW : RowKit.Below w.heap.size w w0) (hro : ∀ g s l, g < h0.nx → (h0.obj g).wr → ι g s = some l → w.heap.size ≤ l.b) {args tmps : Array Value} {l : List AV} (N n : Nat)
    (hpre : r0.wp P (Exit.then (fun a w1 => r1.wp P (Exit.then (fun a w2 => r2.wp P (Exit.then (fun a w3 => a = ⟨tmps, []⟩ ∧ w3 = w0) (fun _ _ _ => False)) a w2) (fun _ _ _ => False)) a w1) (fun _ _ _ => False)) { tmps := args ++ Array.replicate (fn.ntmps - args.size) undef, defers := [] } w)
    (hl : RVL ι l tmps.toList) (hlen : l.length = fn.ntmps) (hmost : fn.ntmps ≤ 576) {h1 : H} (hrun : runRest ⟨P, G⟩ prim N n fn.ntmps fn.results.toList rest l h0 = .ok (.bool true) h1) :
    Calls P g args w fun e w1 => e = .returned (.bool true) ∧ RowKit.Below w.heap.size w w1 := by
  have hcall := callN_ok (P := P) (G := G) hnum hprim N n
  have nb : R2.bad ≠ R2.ok (.bool true) h1 := fun hh => by cases hh
  unfold runRest at hrun
  rw [frameOf_eq] at hrun
  obtain ⟨e0, f0, h0', ec, hr⟩ := onRS_inv hrun nb
  rw [onE_def] at hr
  have he0 : e0 = .ret := by cases e0 <;> first | rfl | exact absurd hr nb
  subst he0
  have F := frame_of hl hlen hmost
  refine Calls.mono ((callsIn_wd (rd := none) (n := 0)).1 (callsIn_of_wp_marks hf hb trivial (wpIn_seq (wpIn_mono (wpIn_wide.2 hpre) fun e a1 w1 hp => ?_)))) (R := RetPost ι h0 w0 (.bool true) h1) fun e w1 he => ?_
  · have he : e = .normal := by cases e <;> first | rfl | exact hp.elim
    subst he
    refine wpIn_seq (wpIn_mono (wpIn_wide.2 (show r1.wp P _ a1 w1 from hp)) fun e a1 w1 hp => ?_)
    have he : e = .normal := by cases e <;> first | rfl | exact hp.elim
    subst he
    refine wpIn_seq (wpIn_mono (wpIn_wide.2 (show r2.wp P _ a1 w1 from hp)) fun e a1 w1 hp => ?_)
    have he : e = .normal := by cases e <;> first | rfl | exact hp.elim
    subst he
    obtain ⟨rfl, e3⟩ := (show a1 = ⟨tmps, []⟩ ∧ w1 = w0 from hp)
    rw [e3]
    refine wpIn_mono (code_ok (lo := w0.heap.size) (fr := none) hcall (fun _ => rfl) rest (fun hh => by cases hh) ec hG F S ⟨Nat.le_refl _, .nil⟩) fun e a1 w1 hp => ?_
    obtain ⟨f1, h1', ι1, S1, F1, g1, D1, he⟩ := hp
    have fin : RS.ok .ret f1 h1' = RS.ok .ret f0 h0' → LeavesInM (Wd none) 0 P fn a1.tmps (RetPost ι h0 w0 (.bool true) h1) a1.defers .returning w1 := by
      intro he
      injection he with q1 q2 q3
      subst q2 q3
      refine leave_ok a1.defers w1 S1 g1 D1.2 fun w2 S2 g2 => ?_
      obtain ⟨u, v, e1, e2, e3⟩ := results_ok (P := P) (w := w2) (fn := fn) (k := fun v => R2.ok v h1') nb F1 S2 hr
      injection e3 with q4 q5
      subst q4 q5
      exact ⟨u, e1, u, rfl, ι1, S2, e2, g2⟩
    cases e with
    | normal => exact fin he
    | ret => exact fin he
    | exit i => cases he
    | goto l => cases he
    | panic _ => exact he.elim
    | outgrown => exact he.elim
  · obtain ⟨u, rfl, ι1, S1, hv, g1⟩ := he
    refine ⟨by rw [rv_bool hv], hW.trans ⟨g1.streams.1, g1.streams.2.1, g1.streams.2.2, g1.size, fun k hk => g1.keep k (Nat.lt_of_lt_of_le hk hW.size) fun g' s l hg hw hl hh => ?_⟩⟩
    have := hro g' s l hg hw hl
    omega
end
/-! ### Three regions walked, which may call; the rest is run -/
section
variable {P : Program} {G : Nat → AV} {prim : FuncId → Option FnC}
def okR (r : R2) : Bool := R2.rec (motive := fun _ => Bool) (fun _ _ => true) false r
def valR (r : R2) : AV := R2.rec (motive := fun _ => AV) (fun v _ => v) junk r
def heapR (r : R2) : H := R2.rec (motive := fun _ => H) (fun _ h => h) H.empty r
theorem okR_eq {r : R2} (h : okR r = true) : r = .ok (valR r) (heapR r) := by
  cases r with
  | ok v h => rfl
  | bad => cases h
/-- A call that the interpreter runs from nothing, with all that it tells. -/
theorem runs_all (hnum : ∀ g fn, P.funcs[g]? = some fn → prim g = none → fn.name ≠ "runtime.NumGoroutine") (hprim : ∀ g p, prim g = some p → PrimOk P G (fun g => (prim g).isSome) g p) {g : FuncId} (hp : prim g = none) {w : World} (hG : GlobOk G (fun _ _ => none)) {avs : List AV} {args : Array Value} (ha : RVL (fun _ _ => none) avs args.toList) (N n : Nat) {v : AV} {h1 : H} (hrun : callN ⟨P, G⟩ prim N n (.fn g [] []) avs H.empty = .ok v h1) :
    Calls P g args w fun e w1 => ∃ u ι1, e = .returned u ∧ Sim ι1 h1 w1 ∧ RV ι1 v u ∧ Grows (fun _ _ => none) H.empty w ι1 h1 w1 := by
  rcases callN_ok hnum hprim N n _ H.empty w _ _ avs args v h1 hrun hG (Sim.empty w) (.fn (x := #[]) (y := #[]) .nil .nil) ha with ⟨f, first, caps, e, hres⟩ | ⟨l, f, tmps, as, bd, e, _⟩
  · injection e with e1 e2 e3
    injection e1 with e1
    subst e1 e2 e3
    rcases hres with ⟨_, _, hpb, _⟩ | ⟨_, hc⟩
    · simp [hp] at hpb
    · simp only [Array.append_empty, Array.empty_append] at hc
      refine Calls.mono hc fun e w1 he => ?_
      obtain ⟨u, rfl, ι1, S1, hv, g1⟩ := he
      exact ⟨u, ι1, rfl, S1, hv, g1⟩
  · injection e with e1
    cases e1
theorem grows_new {ι1 : Inj} {h1 : H} {w w1 : World} (g : Grows (fun _ _ => none) H.empty w ι1 h1 w1) : RowKit.Below w.heap.size w w1 ∧ ∀ g s l, g < h1.nx → (h1.obj g).wr → ι1 g s = some l → w.heap.size ≤ l.b := by
  refine ⟨grows_below g (fun g hg => absurd hg (Nat.not_lt_zero g)), fun g' s l _ _ hl => ?_⟩
  rcases g.fresh g' s l hl rfl with hh | ⟨_, _, hh, _⟩
  · exact hh
  · cases hh
theorem rest_gen (hnum : ∀ g fn, P.funcs[g]? = some fn → prim g = none → fn.name ≠ "runtime.NumGoroutine") (hprim : ∀ g p, prim g = some p → PrimOk P G (fun g => (prim g).isSome) g p) {g : FuncId} {fn : Func} {r0 r1 r2 rest : Code}
    (hf : P.funcs[g]? = some fn) (hb : fn.body = some (.seq r0 (.seq r1 (.seq r2 rest)))) {h0 : H} {w : World} {args : Array Value} {l : List AV} (N n : Nat)
    (hpre : r0.wp P (Exit.then (fun a w1 => r1.wp P (Exit.then (fun a w2 => r2.wp P (Exit.then (fun a w3 => ∃ tmps ι, a = ⟨tmps, []⟩ ∧ GlobOk G ι ∧ Sim ι h0 w3 ∧ RowKit.Below w.heap.size w w3 ∧ (∀ g s l, g < h0.nx → (h0.obj g).wr → ι g s = some l → w.heap.size ≤ l.b) ∧ RVL ι l tmps.toList) (fun _ _ _ => False)) a w2) (fun _ _ _ => False)) a w1) (fun _ _ _ => False)) { tmps := args ++ Array.replicate (fn.ntmps - args.size) undef, defers := [] } w)
    (hlen : l.length = fn.ntmps) (hmost : fn.ntmps ≤ 576) {h1 : H} (hrun : runRest ⟨P, G⟩ prim N n fn.ntmps fn.results.toList rest l h0 = .ok (.bool true) h1) :
    Calls P g args w fun e w1 => e = .returned (.bool true) ∧ RowKit.Below w.heap.size w w1 := by
  have hcall := callN_ok (P := P) (G := G) hnum hprim N n
  have nb : R2.bad ≠ R2.ok (.bool true) h1 := fun hh => by cases hh
  unfold runRest at hrun
  rw [frameOf_eq] at hrun
  obtain ⟨e0, f0, h0', ec, hr⟩ := onRS_inv hrun nb
  rw [onE_def] at hr
  have he0 : e0 = .ret := by cases e0 <;> first | rfl | exact absurd hr nb
  subst he0
  refine (callsIn_wd (rd := none) (n := 0)).1 (callsIn_of_wp_marks hf hb trivial (wpIn_seq (wpIn_mono (wpIn_wide.2 hpre) fun e a1 w1 hp => ?_)))
  have he : e = .normal := by cases e <;> first | rfl | exact hp.elim
  subst he
  refine wpIn_seq (wpIn_mono (wpIn_wide.2 (show r1.wp P _ a1 w1 from hp)) fun e a1 w1 hp => ?_)
  have he : e = .normal := by cases e <;> first | rfl | exact hp.elim
  subst he
  refine wpIn_seq (wpIn_mono (wpIn_wide.2 (show r2.wp P _ a1 w1 from hp)) fun e a1 w1 hp => ?_)
  have he : e = .normal := by cases e <;> first | rfl | exact hp.elim
  subst he
  obtain ⟨tmps, ι, rfl, hG, S, hW, hro, hl⟩ := (show ∃ tmps ι, a1 = ⟨tmps, []⟩ ∧ GlobOk G ι ∧ Sim ι h0 w1 ∧ RowKit.Below w.heap.size w w1 ∧ (∀ g s l, g < h0.nx → (h0.obj g).wr → ι g s = some l → w.heap.size ≤ l.b) ∧ RVL ι l tmps.toList from hp)
  have F := frame_of hl hlen hmost
  refine wpIn_mono (code_ok (lo := w1.heap.size) (fr := none) hcall (fun _ => rfl) rest (fun hh => by cases hh) ec hG F S ⟨Nat.le_refl _, .nil⟩) fun e a2 w2 hp => ?_
  obtain ⟨f1, h1', ι1, S1, F1, g1, D1, he⟩ := hp
  have fin : RS.ok .ret f1 h1' = RS.ok .ret f0 h0' → LeavesInM (Wd none) 0 P fn a2.tmps (fun e w1 => e = .returned (.bool true) ∧ RowKit.Below w.heap.size w w1) a2.defers .returning w2 := by
    intro he
    injection he with q1 q2 q3
    subst q2 q3
    refine leave_ok a2.defers w2 S1 g1 D1.2 fun w3 S2 g2 => ?_
    obtain ⟨u, v, e1, e2, e3⟩ := results_ok (P := P) (w := w3) (fn := fn) (k := fun v => R2.ok v h1') nb F1 S2 hr
    injection e3 with q4 q5
    subst q4 q5
    refine ⟨u, e1, by rw [rv_bool e2], hW.trans ⟨g2.streams.1, g2.streams.2.1, g2.streams.2.2, g2.size, fun k hk => g2.keep k (Nat.lt_of_lt_of_le hk hW.size) fun g' s l hg hw hl hh => ?_⟩⟩
    have := hro g' s l hg hw hl
    omega
  cases e with
  | normal => exact fin he
  | ret => exact fin he
  | exit i => cases he
  | goto l => cases he
  | panic _ => exact he.elim
  | outgrown => exact he.elim
end
end
end Go.Proofs.YtgonoigdjafikaaGreatDoor.AI
