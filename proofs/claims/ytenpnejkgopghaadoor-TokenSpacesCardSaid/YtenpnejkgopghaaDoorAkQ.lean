/- Proved: Regions in their order, ranges over functions, plans of regions that draw their order. Conditions: none. -/
import Derived.Test.YtenpnejkgopghaaDoorAkP
import Derived.TacticsIn
import Derived.OwnWalkIn
import Derived.RangeFuncIn
set_option maxRecDepth 100000
set_option linter.unusedVariables false
set_option linter.unusedSimpArgs false
set_option linter.unusedSectionVars false
namespace Go.Proofs.YtenpnejkgopghaaDoor.AK
open Go
noncomputable section
variable [Env]
/-! ### Regions -/
def Wd (rd : Option Nat) : Fence := { Fence.wide with round := rd }
theorem callsIn_wd {rd : Option Nat} {n : Nat} {P : Program} {f : FuncId} {args : Array Value} {w : World} {R : Ending → World → Prop} : CallsIn (Wd rd) n P f args w R ↔ Calls P f args w R := callsIn_wide (n := n)
/-- What a call comes to. -/
def CallPost (ι : Inj) (h : H) (w : World) (v1 : AV) (h1 : H) (u : Value) (w1 : World) : Prop := ∃ ι1, Sim ι1 h1 w1 ∧ RV ι1 v1 u ∧ Grows ι h w ι1 h1 w1
def RetPost (ι : Inj) (h : H) (w : World) (v1 : AV) (h1 : H) (e : Ending) (w1 : World) : Prop := ∃ u, e = .returned u ∧ CallPost ι h w v1 h1 u w1
/-- Calls are what the machine does. -/
def CallOk (P : Program) (G : Nat → AV) (pb : FuncId → Bool) (call : CallT) : Prop := ∀ (ι : Inj) (h : H) (w : World) (v : AV) (fv : Value) (args : List AV) (argv : Array Value) (v1 : AV) (h1 : H), call v args h = .ok v1 h1 → GlobOk G ι → Sim ι h w → RV ι v fv → RVL ι args argv.toList →
  (∃ (f : FuncId) (first caps : Array Value), fv = .func (.func f) first caps ∧ ((∃ u w1, pb f = true ∧ (callFunc f (first ++ argv ++ caps)).run P w = .ok (.value u) w1 ∧ CallPost ι h w v1 h1 u w1) ∨
    ((callFunc f (first ++ argv ++ caps)).run P w = .ok (.enter f (first ++ argv ++ caps)) w ∧ Calls P f (first ++ argv ++ caps) w (RetPost ι h w v1 h1)))) ∨
  (∃ l f tmps assign body, fv = .func (.yield l) #[] #[] ∧ (Instr.yield l argv).run P w = .ok (.round l f tmps assign body) w ∧ ∀ rd, RoundIn (Wd rd) 0 P l f tmps assign body w (RetPost ι h w v1 h1))
section
variable {P : Program} {RT : List Rule} [RulesOk P RT] {G : Nat → AV} {nt : Nat} {rd : Option Nat} {call : CallT} {pb : FuncId → Bool} {lo : Nat}
theorem GlobOk.mono {ι ι' : Inj} (hG : GlobOk G ι) (hle : Inj.le ι ι') : GlobOk G ι' := fun g => (hG g).mono hle
/-- The marks of loops around calls. -/
inductive DefL (lo : Nat) (ι : Inj) (w : World) : List Deferred → Prop
  | nil : DefL lo ι w []
  | cons {d : Deferred} {ds : List Deferred} {r : Nat} : d.target = .collected r → lo ≤ r → r < w.heap.size → w.heap[r]? = some (.deferred (some [])) → (∀ g s l, ι g s = some l → l.b ≠ r) → (∀ d' ∈ ds, d'.target ≠ .collected r) → DefL lo ι w ds → DefL lo ι w (d :: ds)
def DefOk (lo : Nat) (ι : Inj) (w : World) (ds : List Deferred) : Prop := lo ≤ w.heap.size ∧ DefL lo ι w ds
theorem DefL.grows {lo : Nat} {ι ι' : Inj} {h h' : H} {w w' : World} {ds : List Deferred} (hd : DefL lo ι w ds) (g : Grows ι h w ι' h' w') : DefL lo ι' w' ds := by
  induction hd with
  | nil => exact .nil
  | cons h1 h0 h2 h3 h4 h5 _ ih =>
    rename_i r _
    refine .cons h1 h0 (Nat.lt_of_lt_of_le h2 g.size) ((g.keep _ h2 fun g' s l _ _ e => h4 g' s l e).trans h3) (fun g' s l e => ?_) h5 ih
    cases e1 : ι g' s with
    | some l1 =>
      have := g.ext _ _ _ e1
      rw [e] at this; cases this
      exact h4 _ _ _ e1
    | none =>
      rcases g.fresh g' s l e e1 with q | ⟨s0, l0, q1, q2, _⟩
      · omega
      · rw [← q2]; exact h4 _ _ _ q1
theorem DefOk.grows {lo : Nat} {ι ι' : Inj} {h h' : H} {w w' : World} {ds : List Deferred} (hd : DefOk lo ι w ds) (g : Grows ι h w ι' h' w') : DefOk lo ι' w' ds := ⟨Nat.le_trans hd.1 g.size, hd.2.grows g⟩
theorem onBoolTup_inv {β : Type} {v : AV} {kb : Bool → β} {kt : List AV → β} {s r : β} (h : v.onBoolTup kb kt s = r) (n : s ≠ r) : (∃ b, v = .bool b ∧ kb b = r) ∨ (∃ l, v = .tup l ∧ kt l = r) := by
  cases v <;> first | exact .inl ⟨_, rfl, h⟩ | exact .inr ⟨_, rfl, h⟩ | exact absurd h n
/-- Whether an operation is wanted. -/
theorem wanted_ok' {β : Type} {ι : Inj} {f : Fr} {tmps : Array Value} {ops : Array Oper} {j : Nat} {want : Bool} {yes no bad r : β} (hr : wantedA (guardOf nt ops j) want f yes no bad = r) (n : bad ≠ r) (hs : tmps.size = nt) (F : ∀ t, (ops[j]?).bind (·.dst) = some t → t < nt → RV ι ((getC t).run f) (tmps.getD t undef)) :
    ((yielded ops tmps j == some want) = true ∧ yes = r) ∨ ((yielded ops tmps j == some want) = false ∧ no = r) := by
  unfold wantedA guardOf at hr
  unfold yielded
  cases hd : (ops[j]?).bind (·.dst) with
  | none =>
    simp only [hd] at hr
    right
    exact ⟨rfl, hr⟩
  | some t =>
    simp only [hd] at hr
    rw [le_eq] at hr
    split at hr
    · rename_i hlt
      have hlt' : t < nt := hlt
      have hrv := F t hd hlt'
      have hgd : tmps.getD t undef = tmps[t]'(by rw [hs]; exact hlt') := by simp [Array.getD, hs, hlt']
      have hg : tmps[t]? = some (tmps.getD t undef) := by rw [hgd]; exact Array.getElem?_eq_getElem _
      have hr' : ((getC t).run f).onBoolTup (fun b => ifB b (ifB want yes no) (ifB want no yes)) (fun l => List.rec (motive := fun _ => β) no (fun _ _ _ => bad) l) bad = r := hr
      simp only [Option.bind_some, hg]
      rcases onBoolTup_inv hr' n with ⟨b, e, h1⟩ | ⟨l, e, h1⟩
      · rw [e] at hrv
        rw [rv_bool hrv]
        cases b <;> cases want <;> first | exact .inl ⟨rfl, h1⟩ | exact .inr ⟨rfl, h1⟩
      · rw [e] at hrv
        generalize tmps.getD t undef = u at hrv
        cases hrv
        cases l with
        | nil => exact .inr ⟨rfl, h1⟩
        | cons _ _ => exact absurd h1 n
    · rename_i hge
      right
      have : tmps[t]? = none := by rw [Array.getElem?_eq_none]; rw [hs]; omega
      simp only [Option.bind_some, this]
      exact ⟨rfl, hr⟩
theorem wanted_ok {β : Type} {ι : Inj} {f : Fr} {tmps : Array Value} {ops : Array Oper} {j : Nat} {want : Bool} {yes no bad r : β} (hr : wantedA (guardOf nt ops j) want f yes no bad = r) (n : bad ≠ r) (F : FrameRel nt ι f tmps) :
    ((yielded ops tmps j == some want) = true ∧ yes = r) ∨ ((yielded ops tmps j == some want) = false ∧ no = r) :=
  wanted_ok' hr n F.size fun t _ ht => F.get t ht
/-- What is asked behind code whose run is told. -/
def CodeP (lo nt : Nat) (ι : Inj) (h : H) (w : World) (k : Fr → H → RS) (r : RS) : Exit → Act → World → Prop := fun e a1 w1 => ∃ f1 h1 ι1, Sim ι1 h1 w1 ∧ FrameRel nt ι1 f1 a1.tmps ∧ Grows ι h w ι1 h1 w1 ∧ DefOk lo ι1 w1 a1.defers ∧
  match e with
  | .normal => k f1 h1 = r
  | .exit i => RS.ok (.exit i) f1 h1 = r
  | .goto l => RS.ok (.goto l) f1 h1 = r
  | .ret => RS.ok .ret f1 h1 = r
  | _ => False
theorem CodeP.after {ι ι1 : Inj} {h h1 : H} {w w1 : World} {k : Fr → H → RS} {r : RS} (S : Sim ι h w) (g : Grows ι h w ι1 h1 w1) {e : Exit} {a : Act} {w2 : World} (hp : CodeP lo nt ι1 h1 w1 k r e a w2) : CodeP lo nt ι h w k r e a w2 := by
  obtain ⟨f2, h2, ι2, q1, q2, q3, q4⟩ := hp
  exact ⟨f2, h2, ι2, q1, q2, Grows.trans S g q3, q4⟩
theorem put_defers (a : Act) (d : Option Tmp) (v : Value) : (a.put d v).defers = a.defers := by cases d <;> rfl
/-- One operation. -/
theorem step_ok (hcall : CallOk P G pb call) {o : Oper} {ι : Inj} {f : Fr} {h : H} {a : Act} {w : World} {next : Fr → H → RS} {r : RS} (n : RS.bad ≠ r) {Q : Exit → Act → World → Prop}
    (hr : (opC ⟨P, G, RT⟩ nt o.op).run RS call f h (fun v h => (putD nt o.dst).run RS f v fun f => next f h) .bad = r) (hG : GlobOk G ι) (F : FrameRel nt ι f a.tmps) (S : Sim ι h w) (D : DefOk lo ι w a.defers) {K : Act → World → Prop}
    (hK : ∀ f1 h1 ι1 a1 w1, Sim ι1 h1 w1 → FrameRel nt ι1 f1 a1.tmps → Grows ι h w ι1 h1 w1 → DefOk lo ι1 w1 a1.defers → next f1 h1 = r → K a1 w1) :
    o.wpIn (Wd rd) 0 P a w K Q := by
  have go : ∀ {u : Value} {w1 : World}, PostK ι h w (fun v h => (putD nt o.dst).run RS f v fun f => next f h) r u w1 → K (a.put o.dst u) w1 := by
    intro u w1 ⟨v, h1, ι1, e1, S1, hv, g⟩
    have e1 : (putD nt o.dst).run RS _ v (fun f => next f h1) = r := e1
    rw [putD_eq] at e1
    exact hK _ h1 ι1 _ w1 S1 ((F.mono g.ext).put o.dst hv) g (by rw [put_defers]; exact D.grows g) e1
  refine ⟨fun _ _ => trivial, ?_⟩
  cases hc : callsB o.op with
  | false =>
    have hnd : ∀ c, o.op ≠ .defer c := by
      intro c hh
      rw [hh] at hr
      exact absurd hr n
    rw [Oper.semAt_plain (Wd rd) a.eval o hnd]
    obtain ⟨u, w1, hrun, hp⟩ := (opC_ok hr n (EvOk.of hG F _) S hc).1
    rcases hrun with hrun | ⟨hrun, rfl⟩
    · rw [hrun]; exact go hp
    · rw [hrun]; exact go hp
  | true =>
    cases hop : o.op with
    | call c =>
      have hnd : ∀ c, o.op ≠ .defer c := by intro c hh; rw [hop] at hh; cases hh
      rw [Oper.semAt_plain (Wd rd) a.eval o hnd]
      rw [hop] at hr hc
      cases hcc : c.callee with
      | value g =>
        have eo : sopOf (Ty.mk P G RT).P (.call c) = none := by simp only [sopOf, hcc]
        simp only [opC, eo, opB, hcc] at hr
        obtain ⟨v1, h1, ec, hr⟩ := onR2_inv hr n
        rw [putD_eq] at hr
        have hargs : RVL ι ((evs G nt c.args.toList).run f) (c.args.map a.eval).toList := by rw [Array.toList_map]; exact evs_rv hG F _
        have fin : ∀ {u : Value} {w1 : World}, CallPost ι h w v1 h1 u w1 → K (a.put o.dst u) w1 := fun ⟨ι1, S1, hv, g⟩ => hK _ h1 ι1 _ _ S1 ((F.mono g.ext).put o.dst hv) g (by rw [put_defers]; exact D.grows g) hr
        rcases hcall ι h w _ (a.eval g) _ (c.args.map a.eval) v1 h1 ec hG S (evO_rv hG F g) hargs with ⟨fid, first, caps, efv, hres⟩ | ⟨l, fid, tmps, assign, body, efv, hy, hround⟩
        · have hexec : (execOp a.eval o).run P w = (callFunc fid (first ++ c.args.map a.eval ++ caps)).run P w := by
            unfold execOp
            rw [hop]
            simp only [resolve, hcc, efv, Deferred.ofValue, Sem.run_bind, Sem.run_pure, Result.andThen, invoke]
          rw [hexec]
          rcases hres with ⟨u, w1, _, e1, e2⟩ | ⟨e1, e2⟩
          · rw [e1]; exact fin e2
          · rw [e1, Oper.uponIn_enter]
            refine ⟨fun hh => by simp [Wd, Fence.wide] at hh, CallsIn.mono (callsIn_wd.2 e2) fun e w1 he => ?_⟩
            obtain ⟨u, rfl, hp⟩ := he
            exact fin hp
        · have hexec : (execOp a.eval o).run P w = (Instr.yield l (c.args.map a.eval)).run P w := by
            unfold execOp
            rw [hop]
            simp only [resolve, hcc, efv, Deferred.ofValue, Sem.run_bind, Sem.run_pure, Result.andThen, invoke]
            congr 2
            apply Array.ext'
            simp
          rw [hexec, hy, Oper.uponIn_round]
          refine ⟨fun hh => by simp [Wd, Fence.wide] at hh, RoundIn.mono (hround rd) fun e w1 he => ?_⟩
          obtain ⟨u, rfl, hp⟩ := he
          exact fin hp
      | _ => simp [callsB, hcc] at hc
    | _ => rw [hop] at hc; cases hc
/-- A region, in its order. -/
theorem seq_ok (hcall : CallOk P G pb call) {N : Nat} {ops : Array Oper} {k : Fr → H → RS} {r : RS} (n : RS.bad ≠ r) {ι0 : Inj} {h0 : H} {w0 : World} (S0 : Sim ι0 h0 w0) : ∀ (l : List Oper) {ι : Inj} {f : Fr} {h : H} {a : Act} {w : World}, (seqC ⟨P, G, RT⟩ nt ops l).run call N f h k = r → GlobOk G ι → FrameRel nt ι f a.tmps → Sim ι h w → DefOk lo ι w a.defers → Grows ι0 h0 w0 ι h w →
    wpListIn (Wd rd) 0 P ops (CodeP lo nt ι0 h0 w0 k r) l a w
  | [], ι, f, h, a, w, hr, hG, F, S, D, g0 => ⟨f, h, ι, S, F, g0, D, hr⟩
  | o :: l, ι, f, h, a, w, hr, hG, F, S, D, g0 => by
    have hr : (stepC ⟨P, G, RT⟩ nt ops o (seqC ⟨P, G, RT⟩ nt ops l)).run call N f h k = r := hr
    have next : ∀ f1 h1 ι1 a1 w1, Sim ι1 h1 w1 → FrameRel nt ι1 f1 a1.tmps → Grows ι h w ι1 h1 w1 → DefOk lo ι1 w1 a1.defers → (seqC ⟨P, G, RT⟩ nt ops l).run call N f1 h1 k = r → wpListIn (Wd rd) 0 P ops (CodeP lo nt ι0 h0 w0 k r) l a1 w1 := by
      intro f1 h1 ι1 a1 w1 S1 F1 g D1 hr1
      exact seq_ok hcall n S0 l hr1 (hG.mono g.ext) F1 S1 D1 (Grows.trans S0 g0 g)
    rw [wpListIn]
    unfold stepC at hr
    cases hg : o.guard with
    | none =>
      simp only [hg] at hr
      rw [if_pos (by simp [Region.wanted, hg])]
      exact step_ok hcall n hr hG F S D next
    | some jw =>
      obtain ⟨j, want⟩ := jw
      simp only [hg] at hr
      have hwant : Region.wanted o (yielded ops a.tmps) = (yielded ops a.tmps j == some want) := by simp [Region.wanted, hg]
      rcases wanted_ok hr n F with ⟨h1, h2⟩ | ⟨h1, h2⟩
      · rw [if_pos (by rw [hwant]; exact h1)]
        exact step_ok hcall n h2 hG F S D next
      · rw [if_neg (by rw [hwant, h1]; simp)]
        rw [putD_eq] at h2
        exact ⟨fun _ _ => trivial, next _ h ι _ w S (F.put o.dst (undef_rv ι)) (Grows.refl ι h w) (by rw [put_defers]; exact D) h2⟩
end
/-! ### Code -/
section
variable {P : Program} {RT : List Rule} [RulesOk P RT] {G : Nat → AV} {nt : Nat} {call : CallT} {pb : FuncId → Bool} {lo : Nat}
theorem Sim.loop_ {ι : Inj} {h : H} {w : World} (S : Sim ι h w) {g : Nat} {l : Loc} (hl : ι g 0 = some l) {st : LoopState} {p : Option E} {m : Nat} {fr : Fr} {ps : List Nat} {as bd : Code} (ho : h.obj g = .loop st p m fr ps as bd) :
    (∀ s, 0 < s → ι g s = none) ∧ ∃ L : Loop, w.heap[l.b]? = some (.loop L) ∧ L.state = st ∧ L.pending = p.bind codeOfE ∧ FrameRel m ι fr L.tmps ∧ L.params.toList = ps ∧ L.assign = as ∧ L.body = bd := by
  have := S.obj g (S.small hl)
  rw [ho] at this
  obtain ⟨h1, l', h2, L, h3⟩ := this
  rw [hl] at h2; cases h2
  exact ⟨h1, L, h3⟩
theorem getLoop_run {w : World} {b : Nat} {L : Loop} (h : w.heap[b]? = some (.loop L)) : (Instr.getLoop b).run P w = .ok L w := by
  simp only [Instr.getLoop, getObj, Sem.run_bind, Sem.run, h, Result.andThen]; rfl
theorem setLoop_run {w : World} {b : Nat} {L : Loop} (h : w.heap[b]? = some (.loop L)) (o : Obj) : (setObj b o).run P w = .ok () { w with heap := w.heap.setIfInBounds b o } := by
  simp only [setObj, Sem.run, h]
/-- A loop's record is laid anew. -/
theorem Sim.setLoop {ι : Inj} {h : H} {w : World} (S : Sim ι h w) {g : Nat} {l : Loc} (hl : ι g 0 = some l) {st : LoopState} {p : Option E} {m : Nat} {fr : Fr} {ps : List Nat} {as bd : Code} (ho : h.obj g = .loop st p m fr ps as bd) {L : Loop} (hL : w.heap[l.b]? = some (.loop L))
    {st' : LoopState} {p' : Option E} {L' : Loop} (e1 : L'.state = st') (e2 : L'.pending = p'.bind codeOfE) (e3 : L'.tmps = L.tmps ∧ L'.params = L.params ∧ L'.assign = L.assign ∧ L'.body = L.body ∧ L'.defers = L.defers) {w' : World} (hw : w'.heap = w.heap.setIfInBounds l.b (.loop L')) (hx : SameExt w w') :
    Sim ι (h.putv g (.loop st' p' m fr ps as bd)) w' ∧ Grows ι h w ι (h.putv g (.loop st' p' m fr ps as bd)) w' := by
  obtain ⟨h1, L0, h2, h3, h4, h5, h6, h7, h8⟩ := S.loop_ hl ho
  rw [hL] at h2; cases h2
  obtain ⟨f1, f2, f3, f4, f5⟩ := e3
  have hlt := S.inw _ _ _ hl
  have hat : ∀ b, w'.heap[b]? = if l.b = b then some (.loop L') else w.heap[b]? := fun b => by rw [hw]; exact heap_set hlt b
  refine S.put (ι' := ι) (S.small hl) (fun _ _ _ => rfl) (Inj.le_refl ι) (fun s l e n => by rw [e] at n; cases n) (fun s s' a b c d => absurd c a) (by rw [hw]; simp) (fun b hb' hn => ?_) hx (by rw [ho]; trivial) ?_
  · rw [hat, if_neg (hn 0 l hl)]
  · exact ⟨h1, l, hl, L', by rw [hat, if_pos rfl], e1, e2, by rw [f1]; exact h5, by rw [f2]; exact h6, by rw [f3]; exact h7, by rw [f4]; exact h8⟩
theorem onE_def {β : Type} (e : E) (n : β) (x g : Nat → β) (r : β) : onE e n x g r = (match e with | .normal => n | .exit i => x i | .goto l => g l | .ret => r) := by cases e <;> rfl
/-- A range over a function. -/
theorem range_ok (hcall : CallOk P G pb call) {g : Operand} {ps : Array Tmp} {assign body : Code} {ι : Inj} {f : Fr} {h : H} {a : Act} {w : World} {k : Fr → H → RS} {r : RS} (n : RS.bad ≠ r)
    (hr : rangeC ⟨P, G, RT⟩ pb nt g ps.toList assign body call f h k = r) (hG : GlobOk G ι) (F : FrameRel nt ι f a.tmps) (S : Sim ι h w) (D : DefOk lo ι w a.defers) : (Code.rangeFunc g ps assign body).wpIn (Wd none) 0 P (CodeP lo nt ι h w k r) a w := by
  unfold rangeC at hr
  rcases AV.onFnYield_inv hr n with ⟨gf, fst, cps, eg, hr⟩ | ⟨_, _, hr⟩
  · rw [ifB_eq] at hr
    split at hr
    · exact absurd hr n
    · rename_i hpb
      rw [H.new_eq] at hr
      split at hr
      · rename_i hn
        obtain ⟨v1, h1, ec, hr⟩ := onR2_inv hr n
        have hgv := evO_rv hG F g
        have eg' : (evO G nt g).run f = .fn gf fst cps := eg
        rw [eg'] at hgv
        refine wpIn_rangeFunc fun fnid _ => ?_
        let b1 := w.heap.size
        let L : Loop := { state := .ready, pending := none, fn := fnid, tmps := a.tmps, params := ps, assign := assign, body := body, defers := b1 }
        let w1 : World := { w with heap := (w.heap.push (.deferred (some []))).push (.loop L) }
        have hsz : w1.heap.size = b1 + 2 := by simp [w1, b1]
        have hold : ∀ b, b < b1 → w1.heap[b]? = w.heap[b]? := fun b hb => by
          have hb' : b < w.heap.size := hb
          simp only [w1]
          rw [Array.getElem?_push_lt (by simp; omega), Array.getElem_push_lt hb', Array.getElem?_eq_getElem hb']
        have hd1 : w1.heap[b1]? = some (.deferred (some [])) := by
          simp only [w1, b1]
          rw [Array.getElem?_push_lt (by simp), Array.getElem_push_eq]
        have hl1 : w1.heap[b1 + 1]? = some (.loop L) := by
          have hz : b1 + 1 = (w.heap.push (Obj.deferred (some []))).size := by simp [b1]
          rw [hz]
          exact Array.getElem?_push_size
        have hnone : ∀ s, ι h.nx s = none := fun s => S.beyond _ s (Nat.le_refl _)
        have hle := Inj.add_le ι h.nx 0 ⟨b1 + 1, 0, 0, 0, 0, undef⟩ (hnone 0)
        obtain ⟨S1, g1⟩ := S.new (w' := w1) hn (o := .loop .ready none nt f ps.toList assign body) (l := ⟨b1 + 1, 0, 0, 0, 0, undef⟩) ⟨Nat.le_succ _, by rw [hsz]; show b1 + 1 < b1 + 2; omega⟩ (by rw [hsz]; show b1 ≤ b1 + 2; omega) hold ⟨rfl, rfl, rfl⟩
          ⟨fun s' hs => by rw [Inj.add_other _ _ _ _ (by omega)]; exact hnone s', _, Inj.add_same _ _ _ _, L, hl1, rfl, rfl, F.mono hle, rfl, rfl, rfl⟩
        have D1 : DefOk lo (ι.add h.nx 0 ⟨b1 + 1, 0, 0, 0, 0, undef⟩) w1 (({ target := .collected b1, args := #[] } : Deferred) :: a.defers) := by
          refine ⟨Nat.le_trans D.1 g1.size, .cons rfl D.1 (by rw [hsz]; omega) hd1 (fun g' s' l' e => ?_) (fun d' hd' => ?_) (D.2.grows g1)⟩
          · by_cases hh : g' = h.nx ∧ s' = 0
            · obtain ⟨rfl, rfl⟩ := hh
              rw [Inj.add_same] at e; cases e
              show b1 + 1 ≠ b1; omega
            · rw [Inj.add_other _ _ _ _ hh] at e
              have := S.inw _ _ _ e
              show l'.b ≠ w.heap.size; omega
          · have : ∀ {ds : List Deferred}, DefL lo ι w ds → ∀ d' ∈ ds, d'.target ≠ .collected b1 := by
              intro ds hds
              induction hds with
              | nil => intro d' hh; cases hh
              | cons e1 _ e2 _ _ _ _ ih =>
                intro d' hh
                rcases List.mem_cons.1 hh with rfl | hh
                · rw [e1]; intro e; cases e; exact absurd e2 (Nat.lt_irrefl _)
                · exact ih d' hh
            exact this D.2 d' hd'
        rcases hcall _ _ w1 _ (a.eval g) [.yield h.nx] #[.func (.yield (b1 + 1)) #[] #[]] v1 h1 ec (hG.mono hle) S1 (by rw [eg]; exact hgv.mono hle) (.cons (.yield (l := ⟨b1 + 1, 0, 0, 0, 0, undef⟩) (Inj.add_same _ _ _ _)) .nil) with ⟨fid, first, caps, efv, hres⟩ | ⟨l, fid, tmps, as', bd', efv, _⟩
        · have hfid : fid = gf := by
            rw [efv] at hgv
            cases hgv; rfl
          rcases hres with ⟨u, w2, hp, _⟩ | ⟨e1, e2⟩
          · rw [hfid] at hp; exact absurd hp (by simpa using hpb)
          · refine ⟨b1 + 1, [{ target := .collected b1, args := #[] }], w1, { target := .fn (.func fid) caps, args := first ++ #[.func (.yield (b1 + 1)) #[] #[]] }, w1, fid, first ++ #[.func (.yield (b1 + 1)) #[] #[]] ++ caps, w1, ?_, ?_, fun _ _ => trivial, ?_, fun hh => by simp [Wd, Fence.wide] at hh, ?_⟩
            · simp only [Instr.enterLoop, Wd, newObj, Sem.run_bind, Sem.run, Result.andThen, Sem.run_pure]
              have : (w.heap.push (Obj.deferred (some []))).size = b1 + 1 := by simp [b1]
              rw [this]
            · simp only [resolve, rangeCall, efv, Deferred.ofValue, Sem.run_pure]
              congr 2
              congr 1
              apply Array.ext'
              simp
              rfl
            · simp only [invoke]; exact e1
            · refine CallsIn.mono (callsIn_wd.2 e2) fun e w3 he => ?_
              obtain ⟨u, rfl, ι3, S3, hv3, g3⟩ := he
              obtain ⟨st, p, m, fr, ps', as', bd', ho, hr⟩ := onLoop_inv hr n
              have hl3 : ι3 h.nx 0 = some ⟨b1 + 1, 0, 0, 0, 0, undef⟩ := g3.ext _ _ _ (Inj.add_same _ _ _ _)
              obtain ⟨_, L3, k1, k2, k3, k4, k5, k6, k7⟩ := S3.loop_ hl3 ho
              have hput : (h1.put h.nx (.loop .exhausted p m fr ps' as' bd') fun h => Option.rec (motive := fun _ => RS) (k f h) (fun e => onE e .bad (fun i => .ok (.exit i) f h) (fun l => .ok (.goto l) f h) (.ok .ret f h)) p) = r ∧ st ≠ .busy := by
                cases st with
                | ready => exact ⟨hr, fun hh => by cases hh⟩
                | busy => exact absurd hr n
                | done => exact ⟨hr, fun hh => by cases hh⟩
                | exhausted => exact absurd hr n
              obtain ⟨hput, hst⟩ := hput
              rw [H.put_eq] at hput
              obtain ⟨S4, g4⟩ := S3.setLoop hl3 ho k1 (st' := .exhausted) (p' := p) (L' := { L3 with state := .exhausted }) rfl k3 ⟨rfl, rfl, rfl, rfl, rfl⟩ (w' := { w3 with heap := w3.heap.setIfInBounds (b1 + 1) (.loop { L3 with state := .exhausted }) }) rfl ⟨rfl, rfl, rfl⟩
              have hbusy : (L3.state == LoopState.busy) = false := by rw [k2]; cases st <;> first | rfl | exact absurd rfl hst
              refine ⟨L3.pending, { w3 with heap := w3.heap.setIfInBounds (b1 + 1) (.loop { L3 with state := .exhausted }) }, by simp only [Instr.endLoop, Sem.run_bind, getLoop_run k1, Result.andThen, hbusy, Bool.false_eq_true, if_false, setLoop_run k1, Sem.run_pure], ?_⟩
              have hgr := Grows.trans S (Grows.trans S g1 g3) g4
              have hF4 : FrameRel nt ι3 f a.tmps := F.mono hgr.ext
              have hD4 : DefOk lo ι3 { w3 with heap := w3.heap.setIfInBounds (b1 + 1) (.loop { L3 with state := .exhausted }) } (({ target := .collected b1, args := #[] } : Deferred) :: a.defers) := (D1.grows g3).grows g4
              have fin : ∀ {e : Exit}, (match e with | .normal => k f (h1.putv h.nx (.loop .exhausted p m fr ps' as' bd')) = r | .exit i => RS.ok (.exit i) f (h1.putv h.nx (.loop .exhausted p m fr ps' as' bd')) = r | .goto l => RS.ok (.goto l) f (h1.putv h.nx (.loop .exhausted p m fr ps' as' bd')) = r | .ret => RS.ok .ret f (h1.putv h.nx (.loop .exhausted p m fr ps' as' bd')) = r | _ => False) →
                  CodeP lo nt ι h w k r e { a with defers := ({ target := .collected b1, args := #[] } : Deferred) :: a.defers } { w3 with heap := w3.heap.setIfInBounds (b1 + 1) (.loop { L3 with state := .exhausted }) } := fun he => ⟨f, _, ι3, S4, hF4, hgr, hD4, he⟩
              split
              · rename_i hpn
                rw [k3] at hpn
                cases p with
                | none => exact fin (e := .normal) hput
                | some e =>
                  have hput : onE e .bad (fun i => RS.ok (.exit i) f _) (fun l => .ok (.goto l) f _) (.ok .ret f _) = r := hput
                  rw [onE_def] at hput
                  cases e with
                  | normal => exact absurd hput n
                  | _ => cases hpn
              · rename_i c hpc
                rw [k3] at hpc
                cases p with
                | none => cases hpc
                | some e =>
                  have hput : onE e .bad (fun i => RS.ok (.exit i) f _) (fun l => .ok (.goto l) f _) (.ok .ret f _) = r := hput
                  rw [onE_def] at hput
                  cases e with
                  | normal => exact absurd hput n
                  | exit i => cases hpc; exact wpIn_exit (fin (e := .exit i) hput)
                  | goto i => cases hpc; exact wpIn_goto (fin (e := .goto i) hput)
                  | ret => cases hpc; exact wpIn_ret (fin (e := .ret) hput)
        · rw [efv] at hgv; cases hgv
      · exact absurd hr n
  · exact absurd hr n
end
/-! ### Regions that draw their order: the plan -/
section
variable {P : Program} {ops : Array Oper}
theorem bitB_eq (m i : Nat) : bitB m i = m.testBit i := by
  rw [Nat.testBit_eq_decide_div_mod_eq]
  unfold bitB
  show Nat.beq (m / 2 ^ i % 2) 1 = _
  by_cases h : m / 2 ^ i % 2 = 1
  · rw [h]; rfl
  · rw [decide_eq_false h, Bool.eq_false_iff]
    intro e; exact h (Nat.eq_of_beq_eq_true e)
theorem testBit_pow (n j : Nat) : (2 ^ n).testBit j = decide (n = j) := Nat.testBit_two_pow
/-- It waits for j. -/
def Dep (o : Oper) (j : Nat) : Prop := ∃ e ∈ o.after.toList, Region.binds .any e = true ∧ e.on = j
theorem depM_ok (o : Oper) (j : Nat) : (depM o).testBit j = true ↔ Dep o j := by
  unfold depM Dep
  generalize o.after.toList = l
  induction l with
  | nil => simp
  | cons e l ih =>
    show (bif Region.binds .any e then Nat.lor (Nat.pow 2 e.on) _ else _).testBit j = true ↔ _
    cases hb : Region.binds .any e with
    | false =>
      rw [cond_false, ih]
      constructor
      · rintro ⟨e', h1, h2⟩; exact ⟨e', List.mem_cons_of_mem _ h1, h2⟩
      · rintro ⟨e', h1, h2, h3⟩
        rcases List.mem_cons.1 h1 with rfl | h1
        · rw [hb] at h2; cases h2
        · exact ⟨e', h1, h2, h3⟩
    | true =>
      rw [cond_true]
      show (2 ^ e.on ||| _).testBit j = true ↔ _
      rw [Nat.testBit_or, Bool.or_eq_true, ih, testBit_pow, decide_eq_true_eq]
      constructor
      · rintro (h | ⟨e', h1, h2⟩)
        · exact ⟨e, List.mem_cons_self .., hb, h⟩
        · exact ⟨e', List.mem_cons_of_mem _ h1, h2⟩
      · rintro ⟨e', h1, h2, h3⟩
        rcases List.mem_cons.1 h1 with rfl | h1
        · exact .inl h3
        · exact .inr ⟨e', h1, h2, h3⟩
theorem doneM_ok (done : List PI) (j : Nat) : (doneM done).testBit j = true ↔ ∃ y ∈ done, y.i = j := by
  induction done with
  | nil => simp [doneM]
  | cons y l ih =>
    show (2 ^ y.i ||| doneM l).testBit j = true ↔ _
    rw [Nat.testBit_or, Bool.or_eq_true, ih, testBit_pow, decide_eq_true_eq]
    constructor
    · rintro (h | ⟨y', h1, h2⟩)
      · exact ⟨y, List.mem_cons_self .., h⟩
      · exact ⟨y', List.mem_cons_of_mem _ h1, h2⟩
    · rintro ⟨y', h1, h2⟩
      rcases List.mem_cons.1 h1 with rfl | h1
      · exact .inl h2
      · exact .inr ⟨y', h1, h2⟩
theorem ancM_ok (dm : Nat) (done : List PI) (j : Nat) : (ancM dm done).testBit j = true ↔ dm.testBit j = true ∨ ∃ y ∈ done, dm.testBit y.i = true ∧ y.A.testBit j = true := by
  induction done with
  | nil => simp [ancM]
  | cons y l ih =>
    show (ifB (bitB dm y.i) (Nat.lor y.A (ancM dm l)) (ancM dm l)).testBit j = true ↔ _
    rw [ifB_eq, bitB_eq]
    by_cases hb : dm.testBit y.i = true
    · rw [if_pos hb]
      show (y.A ||| ancM dm l).testBit j = true ↔ _
      rw [Nat.testBit_or, Bool.or_eq_true, ih]
      constructor
      · rintro (h | h | ⟨y', h1, h2⟩)
        · exact .inr ⟨y, List.mem_cons_self .., hb, h⟩
        · exact .inl h
        · exact .inr ⟨y', List.mem_cons_of_mem _ h1, h2⟩
      · rintro (h | ⟨y', h1, h2, h3⟩)
        · exact .inr (.inl h)
        · rcases List.mem_cons.1 h1 with rfl | h1
          · exact .inl h3
          · exact .inr (.inr ⟨y', h1, h2, h3⟩)
    · rw [if_neg hb, ih]
      constructor
      · rintro (h | ⟨y', h1, h2⟩)
        · exact .inl h
        · exact .inr ⟨y', List.mem_cons_of_mem _ h1, h2⟩
      · rintro (h | ⟨y', h1, h2, h3⟩)
        · exact .inl h
        · rcases List.mem_cons.1 h1 with rfl | h1
          · exact absurd h2 hb
          · exact .inr ⟨y', h1, h2, h3⟩
theorem land_sub_ok {a b : Nat} (h : Nat.beq (Nat.land a b) a = true) (j : Nat) (hj : a.testBit j = true) : b.testBit j = true := by
  have e : a &&& b = a := Nat.eq_of_beq_eq_true h
  have : (a &&& b).testBit j = true := by rw [e]; exact hj
  rw [Nat.testBit_and, Bool.and_eq_true] at this
  exact this.2
theorem memN_ok (t : Nat) (l : List Nat) : memN t l = true ↔ t ∈ l := by
  induction l with
  | nil => simp [memN]
  | cons x l ih =>
    show ifB (Nat.beq x t) true (memN t l) = true ↔ _
    rw [ifB_eq]
    by_cases h : x = t
    · subst h
      rw [if_pos (Nat.beq_refl x)]; simp
    · rw [if_neg (fun e => h (Nat.eq_of_beq_eq_true e)), ih, List.mem_cons]
      constructor
      · exact .inr
      · rintro (e | e)
        · exact absurd e.symm h
        · exact e
/-- Two operations that may come in either order, or in this one. -/
def Apart (ops : Array Oper) (x y : PI) : Prop :=
  (∀ t u, x.o.dst = some t → y.o.dst = some u → t ≠ u) ∧ (x.A.testBit y.i = true ∨ ((∀ u, y.o.dst = some u → u ∉ readsT ops x.o) ∧ (∀ t, x.o.dst = some t → t ∉ readsT ops y.o)))
theorem apartOk_ok {x : PI} {done : List PI} (h : apartOk ops x done = true) : ∀ y ∈ done, Apart ops x y := by
  induction done with
  | nil => intro y hy; cases hy
  | cons z l ih =>
    have h0 : ifB (match x.o.dst, z.o.dst with | some t, some u => !Nat.beq t u | _, _ => true)
      (ifB (bitB x.A z.i) (apartOk ops x l)
        (ifB (match z.o.dst with | some u => !memN u (readsT ops x.o) | none => true) (ifB (match x.o.dst with | some t => !memN t (readsT ops z.o) | none => true) (apartOk ops x l) false) false)) false = true := h
    obtain ⟨h1, h0⟩ := ifB_inv h0 (by decide : false ≠ true)
    have hd : ∀ t u, x.o.dst = some t → z.o.dst = some u → t ≠ u := by
      intro t u e1 e2 e
      subst e
      simp only [e1, e2, Nat.beq_refl] at h1
      cases h1
    have key : Apart ops x z ∧ apartOk ops x l = true := by
      cases hb : bitB x.A z.i with
      | true =>
        rw [hb] at h0
        exact ⟨⟨hd, .inl (by rw [← bitB_eq]; exact hb)⟩, h0⟩
      | false =>
        rw [hb] at h0
        obtain ⟨h2, h0⟩ := ifB_inv (show ifB _ _ false = true from h0) (by decide : false ≠ true)
        obtain ⟨h3, h0⟩ := ifB_inv h0 (by decide : false ≠ true)
        refine ⟨⟨hd, .inr ⟨fun u e hm => ?_, fun t e hm => ?_⟩⟩, h0⟩
        · have : memN u (readsT ops x.o) = true := (memN_ok _ _).2 hm
          simp only [e, this] at h2
          cases h2
        · have : memN t (readsT ops z.o) = true := (memN_ok _ _).2 hm
          simp only [e, this] at h3
          cases h3
    intro y hy
    rcases List.mem_cons.1 hy with rfl | hy
    · exact key.1
    · exact ih key.2 y hy
/-- An operation well placed behind what is done. -/
structure ItemOk (P : Program) (ops : Array Oper) (x : PI) (done : List PI) : Prop where
  at_ : ops[x.i]? = some x.o
  new : ∀ y ∈ done, y.i ≠ x.i
  deps : ∀ j, Dep x.o j → ∃ y ∈ done, y.i = j
  anc : ∀ j, x.A.testBit j = true ↔ Dep x.o j ∨ ∃ y ∈ done, Dep x.o y.i ∧ y.A.testBit j = true
  cnt : x.c = lateN x.A done + 1
  kind : x.kd = kdOf P x.o.op
  grp : x.g = cntA done
  apart : ∀ y ∈ done, Apart ops x y
  lazy : x.kd = .e → ∀ y ∈ done, x.A.testBit y.i = true
inductive PlanOk (P : Program) (ops : Array Oper) : List PI → List PI → Prop
  | nil {done : List PI} : (∀ j, j < ops.size → ∃ y ∈ done, y.i = j) → PlanOk P ops [] done
  | cons {x : PI} {l done : List PI} : ItemOk P ops x done → PlanOk P ops l (x :: done) → PlanOk P ops (x :: l) done
theorem planned_ok : ∀ (l : List Nat) (done r : List PI), planned P ops l done = some r → PlanOk P ops r done
  | [], done, r, h => by
    have h0 : (bif Nat.beq (Nat.succ (doneM done)) (Nat.pow 2 ops.size) then some [] else none) = some r := h
    cases hb : Nat.beq (Nat.succ (doneM done)) (Nat.pow 2 ops.size) with
    | false => rw [hb] at h0; cases h0
    | true =>
      rw [hb] at h0; cases h0
      refine .nil fun j hj => (doneM_ok done j).1 ?_
      have e : doneM done + 1 = 2 ^ ops.size := Nat.eq_of_beq_eq_true hb
      have e2 : doneM done = 2 ^ ops.size - 1 := by omega
      rw [e2, Nat.testBit_two_pow_sub_one]; simpa using hj
  | i :: l, done, r, h => by
    have h0 : (match ops[i]? with
      | none => none
      | some o => (fun A => (fun x : PI => bif itemOk ops x done then (match planned P ops l (x :: done) with | some l => some (x :: l) | none => none) else none)
        ⟨i, o, A, Nat.succ (lateN A done), kdOf P o.op, cntA done⟩) (ancM (depM o) done)) = some r := h
    cases ho : ops[i]? with
    | none => simp only [ho] at h0; cases h0
    | some o =>
      simp only [ho] at h0
      generalize hx : (⟨i, o, ancM (depM o) done, Nat.succ (lateN (ancM (depM o) done) done), kdOf P o.op, cntA done⟩ : PI) = x at h0
      cases hb : itemOk ops x done with
      | false => rw [hb] at h0; cases h0
      | true =>
        rw [hb, cond_true] at h0
        cases hr : planned P ops l (x :: done) with
        | none => simp only [hr] at h0; cases h0
        | some r' =>
          simp only [hr] at h0
          cases h0
          refine .cons ?_ (planned_ok l _ _ hr)
          have hb : ifB (!bitB (doneM done) x.i) (ifB (Nat.beq (Nat.land (depM x.o) (doneM done)) (depM x.o)) (ifB (apartOk ops x done) (KD.rec (motive := fun _ => Bool) true true (Nat.beq (Nat.land (doneM done) x.A) (doneM done)) x.kd) false) false) false = true := hb
          obtain ⟨h1, hb⟩ := ifB_inv hb (by decide : false ≠ true)
          obtain ⟨h2, hb⟩ := ifB_inv hb (by decide : false ≠ true)
          obtain ⟨h3, hb⟩ := ifB_inv hb (by decide : false ≠ true)
          rw [bitB_eq] at h1
          refine ⟨by rw [← hx]; exact ho, fun y hy e => ?_, fun j hj => (doneM_ok done j).1 (land_sub_ok h2 j ((depM_ok _ j).2 hj)), fun j => ?_, by rw [← hx], by rw [← hx], by rw [← hx], apartOk_ok h3, fun hk y hy => ?_⟩
          · have : (doneM done).testBit x.i = true := (doneM_ok done _).2 ⟨y, hy, e⟩
            rw [this] at h1; cases h1
          · rw [← hx]
            show (ancM (depM o) done).testBit j = true ↔ _
            rw [ancM_ok, depM_ok]
            constructor
            · rintro (h | ⟨y, h4, h5, h6⟩)
              · exact .inl h
              · exact .inr ⟨y, h4, (depM_ok _ _).1 h5, h6⟩
            · rintro (h | ⟨y, h4, h5, h6⟩)
              · exact .inl h
              · exact .inr ⟨y, h4, (depM_ok _ _).2 h5, h6⟩
          · rw [hk] at hb
            exact land_sub_ok hb y.i ((doneM_ok done _).2 ⟨y, hy, rfl⟩)
end
/-! ### Regions that draw their order: the run, told -/
section
variable {T : Ty} {nt : Nat} {ops : Array Oper} {call : CallT}
/-- Is it wanted? -/
def wantV (nt : Nat) (ops : Array Oper) (o : Oper) (f : Fr) : Option Bool := guardC nt ops o (Option Bool) f (some true) (some false) none
theorem wantedA_ok {β : Type} {t : Option EvC} {want : Bool} {f : Fr} {yes no bad r : β} (hr : wantedA t want f yes no bad = r) (n : bad ≠ r) :
    (wantedA t want f (some true) (some false) (none : Option Bool) = some true ∧ yes = r) ∨ (wantedA t want f (some true) (some false) (none : Option Bool) = some false ∧ no = r) := by
  cases t with
  | none => exact .inr ⟨rfl, hr⟩
  | some g =>
    have h0 : (g.run f).onBoolTup (fun b => ifB b (ifB want yes no) (ifB want no yes)) (fun l => List.rec (motive := fun _ => β) no (fun _ _ _ => bad) l) bad = r := hr
    rcases onBoolTup_inv h0 n with ⟨b, e, h1⟩ | ⟨l, e, h1⟩
    · unfold wantedA
      simp only [e]
      cases b <;> cases want <;> first | exact .inl ⟨rfl, h1⟩ | exact .inr ⟨rfl, h1⟩
    · unfold wantedA
      simp only [e]
      cases l with
      | nil => exact .inr ⟨rfl, h1⟩
      | cons _ _ => exact absurd h1 n
theorem guardC_ok {β : Type} {o : Oper} {f : Fr} {yes no bad r : β} (hr : guardC nt ops o β f yes no bad = r) (n : bad ≠ r) : (wantV nt ops o f = some true ∧ yes = r) ∨ (wantV nt ops o f = some false ∧ no = r) := by
  unfold wantV
  unfold guardC at hr ⊢
  cases hg : o.guard with
  | none => simp only [hg] at hr; exact .inl ⟨rfl, hr⟩
  | some jw => simp only [hg] at hr; exact wantedA_ok hr n
/-- The run of a plan. -/
inductive Tr (T : Ty) (nt : Nat) (ops : Array Oper) (call : CallT) (b : Nat) (fe : Fr) (he : H) : List PI → Fr → H → List H → Prop
  | nil {sn : List H} : Tr T nt ops call b fe he [] fe he sn
  | skip {x : PI} {l : List PI} {f : Fr} {h : H} {sn : List H} : x.kd ≠ .e → wantV nt ops x.o f = some false → Tr T nt ops call b fe he l (f.putD nt x.o.dst undefA) h sn → Tr T nt ops call b fe he (x :: l) f h sn
  | skipE {x : PI} {l : List PI} {f : Fr} {h : H} {sn : List H} : x.kd = .e → wantV nt ops x.o f = some false → Tr T nt ops call b fe he l (f.putD nt x.o.dst undefA) h (h :: sn) → Tr T nt ops call b fe he (x :: l) f h sn
  | q {x : PI} {l : List PI} {f : Fr} {h : H} {sn : List H} {v : AV} : x.kd = .q → wantV nt ops x.o f = some true → (∀ H ∈ takeH x.c sn, (opC T nt x.o.op).run (Option AV) call f H (fun v _ => some v) none = some v) →
      Tr T nt ops call b fe he l (f.putD nt x.o.dst v) h sn → Tr T nt ops call b fe he (x :: l) f h sn
  | a {x : PI} {l : List PI} {f : Fr} {h h' : H} {sn : List H} {v : AV} : x.kd = .a → wantV nt ops x.o f = some true → (opC T nt x.o.op).run (Option (AV × H)) call f (atG h (b + x.g)) (fun v h => some (v, h)) none = some (v, h') →
      Tr T nt ops call b fe he l (f.putD nt x.o.dst v) (backG h h') sn → Tr T nt ops call b fe he (x :: l) f h sn
  | e {x : PI} {l : List PI} {f : Fr} {h h' : H} {sn : List H} {v : AV} : x.kd = .e → wantV nt ops x.o f = some true → (opC T nt x.o.op).run (Option (AV × H)) call f h (fun v h => some (v, h)) none = some (v, h') →
      Tr T nt ops call b fe he l (f.putD nt x.o.dst v) h' (h' :: sn) → Tr T nt ops call b fe he (x :: l) f h sn
theorem qSame_ok {β : Type} {o : OpC} {f : Fr} {v : AV} {k s r : β} (n : s ≠ r) : ∀ (l : List H), qSame o call f v k s l = r → (∀ H ∈ l, o.run (Option AV) call f H (fun v _ => some v) none = some v) ∧ k = r
  | [], hr => ⟨fun _ h => (by cases h), hr⟩
  | h :: l, hr => by
    obtain ⟨v', e1, h1⟩ := optRec_inv (show Option.rec (motive := fun _ => β) s (fun v' => ifB (eqAV v v') (qSame o call f v k s l) s) (o.run (Option AV) call f h (fun v _ => some v) none) = r from hr) n
    obtain ⟨h2, h3⟩ := ifB_inv h1 n
    have := eqAV_ok h2
    subst this
    obtain ⟨h4, h5⟩ := qSame_ok n l h3
    refine ⟨fun H hH => ?_, h5⟩
    rcases List.mem_cons.1 hH with rfl | hH
    · exact e1
    · exact h4 H hH
theorem qAll_ok {β : Type} {o : OpC} {f : Fr} {k : AV → β} {s r : β} (n : s ≠ r) {l : List H} (hr : qAll o call f k s l = r) : ∃ v, (∀ H ∈ l, o.run (Option AV) call f H (fun v _ => some v) none = some v) ∧ k v = r := by
  cases l with
  | nil => exact absurd hr n
  | cons h l =>
    obtain ⟨v, e1, h1⟩ := optRec_inv (show Option.rec (motive := fun _ => β) s (fun v => qSame o call f v (k v) s l) (o.run (Option AV) call f h (fun v _ => some v) none) = r from hr) n
    obtain ⟨h2, h3⟩ := qSame_ok n l h1
    refine ⟨v, fun H hH => ?_, h3⟩
    rcases List.mem_cons.1 hH with rfl | hH
    · exact e1
    · exact h2 H hH
theorem onVH_inv {β : Type} {o : Option (AV × H)} {k : AV → H → β} {s r : β} (hr : onVH o k s = r) (n : s ≠ r) : ∃ v h, o = some (v, h) ∧ k v h = r := by
  obtain ⟨⟨v, h⟩, e, h1⟩ := optRec_inv (show Option.rec (motive := fun _ => β) s (fun p => Prod.rec (motive := fun _ => β) k p) o = r from hr) n
  exact ⟨v, h, e, h1⟩
theorem drawC_tr {b : Nat} {k : Fr → H → RS} {r : RS} (n : RS.bad ≠ r) : ∀ (l : List PI) (f : Fr) (h : H) (sn : List H), (drawC T nt ops l).run call b f h sn k = r → ∃ fe he, Tr T nt ops call b fe he l f h sn ∧ k fe he = r
  | [], f, h, sn, hr => ⟨f, h, .nil, hr⟩
  | x :: l, f, h, sn, hr => by
    cases hk : x.kd with
    | q =>
      have h0 : guardC nt ops x.o RS f (qAll (opC T nt x.o.op) call f (fun v => (putD nt x.o.dst).run RS f v fun f => (drawC T nt ops l).run call b f h sn k) .bad (takeH x.c sn)) ((putD nt x.o.dst).run RS f undefA fun f => (drawC T nt ops l).run call b f h sn k) .bad = r := by
        have := hr
        unfold drawC at this
        simp only [hk] at this
        exact this
      rcases guardC_ok h0 n with ⟨h1, h2⟩ | ⟨h1, h2⟩
      · obtain ⟨v, h3, h4⟩ := qAll_ok n h2
        rw [putD_eq] at h4
        obtain ⟨fe, he, t, e⟩ := drawC_tr n l _ _ _ h4
        exact ⟨fe, he, .q hk h1 h3 t, e⟩
      · rw [putD_eq] at h2
        obtain ⟨fe, he, t, e⟩ := drawC_tr n l _ _ _ h2
        exact ⟨fe, he, .skip (by rw [hk]; intro hh; cases hh) h1 t, e⟩
    | a =>
      have h0 : guardC nt ops x.o RS f (forceN (Nat.add b x.g) fun g => onVH ((opC T nt x.o.op).run (Option (AV × H)) call f (atG h g) (fun v h => some (v, h)) none) (fun v h' => (putD nt x.o.dst).run RS f v fun f => (drawC T nt ops l).run call b f (backG h h') sn k) .bad) ((putD nt x.o.dst).run RS f undefA fun f => (drawC T nt ops l).run call b f h sn k) .bad = r := by
        have := hr
        unfold drawC at this
        simp only [hk] at this
        exact this
      rcases guardC_ok h0 n with ⟨h1, h2⟩ | ⟨h1, h2⟩
      · rw [forceN_eq] at h2
        obtain ⟨v, h', h3, h4⟩ := onVH_inv h2 n
        rw [putD_eq] at h4
        obtain ⟨fe, he, t, e⟩ := drawC_tr n l _ _ _ h4
        exact ⟨fe, he, .a hk h1 h3 t, e⟩
      · rw [putD_eq] at h2
        obtain ⟨fe, he, t, e⟩ := drawC_tr n l _ _ _ h2
        exact ⟨fe, he, .skip (by rw [hk]; intro hh; cases hh) h1 t, e⟩
    | e =>
      have h0 : guardC nt ops x.o RS f (onVH ((opC T nt x.o.op).run (Option (AV × H)) call f h (fun v h => some (v, h)) none) (fun v h => (putD nt x.o.dst).run RS f v fun f => (drawC T nt ops l).run call b f h (h :: sn) k) .bad) ((putD nt x.o.dst).run RS f undefA fun f => (drawC T nt ops l).run call b f h (h :: sn) k) .bad = r := by
        have := hr
        unfold drawC at this
        simp only [hk] at this
        exact this
      rcases guardC_ok h0 n with ⟨h1, h2⟩ | ⟨h1, h2⟩
      · obtain ⟨v, h', h3, h4⟩ := onVH_inv h2 n
        rw [putD_eq] at h4
        obtain ⟨fe, he, t, e⟩ := drawC_tr n l _ _ _ h4
        exact ⟨fe, he, .e hk h1 h3 t, e⟩
      · rw [putD_eq] at h2
        obtain ⟨fe, he, t, e⟩ := drawC_tr n l _ _ _ h2
        exact ⟨fe, he, .skipE hk h1 t, e⟩
end
/-! ### Operations that lay one block -/
section
variable {P : Program} {RT : List Rule} [RulesOk P RT] {G : Nat → AV} {nt : Nat} {call : CallT}
/-- How many cells an object has. -/
def lenX (X : Obj) : Nat := match X with | .cells C _ _ => C.size | _ => 0
/-- What an operation that lays one block comes to, told by its operands alone. -/
structure LaysOne (P : Program) (G : Nat → AV) (nt : Nat) (f : Fr) (o : Oper) (V : AV) (h h' : H) (ob : AO) (Fv : Nat → AV) : Prop where
  room : h.nx ≤ 32767
  val : V = Fv h.nx
  mem : h' = h.newv ob
  runs : ∀ (ι : Inj) (a : Act), EvOk G nt ι f a o.op → ∃ (X : Obj) (uu : Nat → Value), (∀ w0 : World, (execOp a.eval o).run P w0 = .ok (.value (uu w0.heap.size)) { w0 with heap := w0.heap.push X }) ∧
    ∀ (ι' : Inj) (g b : Nat) (w' : World), Inj.le ι ι' → ι' g 0 = some ⟨b, 0, 0, lenX X, lenX X, undef⟩ → (∀ s, 0 < s → ι' g s = none) → w'.heap[b]? = some X → ObjOk ι' w' g ob ∧ RV ι' (Fv g) (uu b)
theorem newCells_told {h h' : H} {vs : List AV} {F : Nat → Nat → AV} {V : AV} {q : Nat} (hr : newCells h vs (fun g n h => some (F g n, h)) none q = some (V, h')) : h.nx ≤ 32767 ∧ V = F h.nx vs.length ∧ h' = h.newv (.cells (layL vs (CT.newT q) 0) vs.length 0 0 0) := by
  unfold newCells at hr
  rw [layCells_eq, H.new_eq] at hr
  split at hr
  · rename_i hn
    cases hr
    exact ⟨hn, by simp, by simp⟩
  · cases hr
theorem cells_obj {ι ι' : Inj} {vs : List AV} {us : Array Value} {el : TypeId} {g b : Nat} {w' : World} (hv : RVL ι vs us.toList) (hle : Inj.le ι ι') (hg : ι' g 0 = some ⟨b, 0, 0, vs.length, vs.length, undef⟩) (hs : ∀ s, 0 < s → ι' g s = none) (hb : w'.heap[b]? = some (.cells us el)) (q : Nat := 0) (hq : q = 0 ∨ q = 2 * el + 1 ∨ q = 2 * el + 2 := by exact .inl rfl) :
    ObjOk ι' w' g (.cells (layL vs (CT.newT q) 0) vs.length 0 0 0) := by
  have hl := hv.length
  have hl2 : us.toList.length = us.size := Array.length_toList
  refine ⟨layL_new.1, Nat.le_refl _, hs, fun s h1 h2 => ?_⟩
  have : s = 0 := by omega
  subst this
  refine ⟨_, hg, Nat.le_refl _, fun _ => rfl, us, el, (0, 0), hb, by show us.size = vs.length; omega, fun _ j => by simp, fun _ j _ => by simp, fun j _ hj => ?_, by rw [layL_el]; exact hq.imp id (Or.imp (fun hh => ⟨hh, rfl, rfl, rfl⟩) id)⟩
  obtain ⟨x, hx, hr⟩ := hv.get j hj
  exact ⟨j, x, by simp, by simpa using hx, by rw [layL_new.2 j hj]; exact hr.mono hle⟩
theorem buildSlice_run {t e : TypeId} {len : Nat} {i : TypeInfo} {zv : Value} (ht : P.underlying t = some (.slice e)) (hi : P.info? e = some i) (hz : i.zero = some zv) (hzs : zv.cells.size = i.size) (hbig : len * i.size ≤ 1000000) {us : Array (Nat × Value)} {C : Array Value}
    (hf : Instr.fill (fun j => some (j * i.size, i.size)) ((Array.range (len * zv.cells.size)).map (fun i => zv.cells[i % zv.cells.size]!)) us.toList = some C) (w0 : World) :
    (Instr.buildSlice t len us).run P w0 = .ok (.slice (some ⟨w0.heap.size, 0, none⟩) len len) { w0 with heap := w0.heap.push (.cells C e) } := by
  have hrow : (Array.range (len * i.size)).map (fun j => (if len * i.size = 0 then #[] else zv.cells)[j % (if len * i.size = 0 then #[] else zv.cells).size]!) = (Array.range (len * zv.cells.size)).map (fun i => zv.cells[i % zv.cells.size]!) := by
    by_cases h0 : len * i.size = 0
    · rw [hzs, h0]; simp
    · simp only [if_neg h0, hzs]
  have e1' : Instr.fill (fun j => some (j * i.size, i.size)) ((Array.range (len * i.size)).map (fun j => (if len * i.size = 0 then #[] else zv.cells)[j % (if len * i.size = 0 then #[] else zv.cells).size]!)) us.toList = some C := by rw [hrow]; exact hf
  have hno : ¬ (len * i.size > 2 ^ 24) := by omega
  have e4 : (newRow e C).run P w0 = .ok ⟨w0.heap.size, 0, none⟩ { w0 with heap := w0.heap.push (.cells C e) } := rfl
  by_cases h0 : len * i.size = 0
  · simp only [if_pos h0] at e1'
    simp only [Instr.buildSlice, Sem.run_bind, underlying_run ht, Result.andThen, sizeOf_run hi, if_neg hno, if_pos h0, Sem.run_pure, e1', e4]
  · simp only [if_neg h0] at e1'
    simp only [Instr.buildSlice, Sem.run_bind, underlying_run ht, Result.andThen, sizeOf_run hi, if_neg hno, if_neg h0, Sem.run_pure, zeroValue_run hi hz, e1', e4]
theorem fill_size : ∀ (us : List (Nat × Value)) (C C' : Array Value) (pl : Nat → Option (Nat × Nat)), Instr.fill pl C us = some C' → C'.size = C.size
  | [], C, C', pl, hh => by cases hh; rfl
  | p :: us, C, C', pl, hh => by
    rw [Instr.fill] at hh
    split at hh
    · cases hh
    · split at hh
      · cases hh
      · rw [fill_size us _ _ _ hh, foldl_zipA, putL_size]
theorem alloc_lays {t : TypeId} {o : Oper} (hop : o.op = .alloc t) {f : Fr} {h h' : H} {V : AV} (hr : (opB ⟨P, G, RT⟩ nt o.op).run (Option (AV × H)) call f h (fun v h => some (v, h)) none = some (V, h')) :
    ∃ ob Fv, LaysOne P G nt f o V h h' ob Fv := by
  rw [hop] at hr
  simp only [opB] at hr
  cases hz : (Ty.mk P G RT).zeroL t with
  | none => simp only [hz] at hr; cases hr
  | some z =>
    simp only [hz] at hr
    obtain ⟨i, zv, hi, hzv, rfl⟩ := zeroL_inv hz
    obtain ⟨h1, h2, h3⟩ := newCells_told (F := fun g n => .ptr g 0 0 n) hr
    refine ⟨_, fun g => .ptr g 0 0 (zv.cells.toList.map AV.ofV1).length, h1, h2, h3, fun ι a _ => ⟨.cells zv.cells t, fun b => .pointer (some ⟨b, 0, none⟩), fun w0 => ?_, fun ι' g b w' hle hg0 hs hb => (fun hg : ι' g 0 = some ⟨b, 0, 0, (zv.cells.toList.map AV.ofV1).length, (zv.cells.toList.map AV.ofV1).length, undef⟩ => ⟨cells_obj (ofVL_rv ι _) hle hg hs hb _ (.inr (.inl rfl)), .ptr hg (Nat.le_refl _) (Nat.le_refl _) rfl (by simp)⟩) (by rw [hg0]; simp [lenX])⟩⟩
    unfold execOp
    rw [hop]
    simp only [Instr.alloc, Sem.run_bind, zeroValue_run hi hzv, Result.andThen, Sem.run_pure, newVar, newRow, newObj, Sem.run]
theorem box_lays {t : TypeId} {x : Operand} {o : Oper} (hop : o.op = .box t x) {f : Fr} {h h' : H} {V : AV} (hr : (opB ⟨P, G, RT⟩ nt o.op).run (Option (AV × H)) call f h (fun v h => some (v, h)) none = some (V, h')) :
    ∃ ob Fv, LaysOne P G nt f o V h h' ob Fv := by
  rw [hop] at hr
  have hr : ((evO G nt x).run f).cellsK (fun l => newCells h l (fun g n h => some (AV.ptr g 0 0 n, h)) none) none = some (V, h') := hr
  have hnn : (none : Option (AV × H)) ≠ some (V, h') := fun hh => by cases hh
  -- the cells, by the operand's shape
  have hsh : ∃ l, (∀ {β : Type} (k : List AV → β) (s : β), ((evO G nt x).run f).cellsK k s = k l) := by
    generalize (evO G nt x).run f = v at hr
    cases v with
    | tup l => exact absurd hr hnn
    | agg l => exact ⟨l, fun _ _ => rfl⟩
    | raw u =>
      cases hu : rawOne u with
      | false =>
        have h0 : Bool.rec (motive := fun _ => Option (AV × H)) none (newCells h [.raw u] (fun g n h => some (AV.ptr g 0 0 n, h)) none) (rawOne u) = some (V, h') := hr
        rw [hu] at h0; exact absurd h0 hnn
      | true =>
        refine ⟨[.raw u], fun {β} k s => ?_⟩
        show Bool.rec (motive := fun _ => β) s (k [.raw u]) (rawOne u) = _
        rw [hu]
    | sx t a =>
      cases t with
      | zero => exact absurd hr hnn
      | succ t => exact ⟨[.sx (t + 1) a], fun _ _ => rfl⟩
    | _ => exact ⟨[_], fun _ _ => rfl⟩
  obtain ⟨l, hl⟩ := hsh
  rw [hl] at hr
  obtain ⟨h1, h2, h3⟩ := newCells_told (F := fun g n => .ptr g 0 0 n) hr
  refine ⟨_, fun g => .ptr g 0 0 l.length, h1, h2, h3, fun ι a ev => ?_⟩
  have hx := ev x (by rw [hop]; simp [Op.operands])
  have h0 : ((evO G nt x).run f).cellsK (fun l => some l) none = some l := hl _ _
  obtain ⟨l', hl', e'⟩ := cellsK_ok h0 (fun hh => by cases hh) hx
  cases e'
  refine ⟨.cells (a.eval x).cells t, fun b => .pointer (some ⟨b, 0, none⟩), fun w0 => ?_, fun ι' g b w' hle hg0 hs hb => (fun hg : ι' g 0 = some ⟨b, 0, 0, l.length, l.length, undef⟩ => ⟨cells_obj hl' hle hg hs hb, .ptr hg (Nat.le_refl _) (Nat.le_refl _) rfl (by simp)⟩) (by rw [hg0, hl'.length]; simp [lenX])⟩
  unfold execOp
  rw [hop]
  simp only [Instr.box, Sem.run_bind, Result.andThen, Sem.run_pure, newVar, newRow, newObj, Sem.run]
end
section
variable {P : Program} {RT : List Rule} [RulesOk P RT] {G : Nat → AV} {nt : Nat} {call : CallT}
theorem makeMap_lays {t : TypeId} {c : Option Operand} {o : Oper} (hop : o.op = .makeMap t c) {f : Fr} {h h' : H} {V : AV} (hr : (opB ⟨P, G, RT⟩ nt o.op).run (Option (AV × H)) call f h (fun v h => some (v, h)) none = some (V, h')) :
    ∃ ob Fv, LaysOne P G nt f o V h h' ob Fv := by
  rw [hop] at hr
  have hnn : (none : Option (AV × H)) ≠ some (V, h') := fun hh => by cases hh
  have go : h.new (.map [] 0) (fun g h => some (AV.map g, h)) none = some (V, h') → (∀ (ι : Inj) (a : Act), EvOk G nt ι f a o.op → ∀ w0 : World, (Instr.makeMap t (c.map a.eval)).run P w0 = .ok (.map (some w0.heap.size)) { w0 with heap := w0.heap.push (.map #[] 0) }) → ∃ ob Fv, LaysOne P G nt f o V h h' ob Fv := by
    intro h1 h2
    rw [H.new_eq] at h1
    split at h1
    · rename_i hn
      cases h1
      refine ⟨_, fun g => .map g, hn, rfl, rfl, fun ι a ev => ⟨.map #[] 0, fun b => .map (some b), fun w0 => ?_, fun ι' g b w' _ hg hs hb => ⟨⟨hs, _, hg, #[], hb, .nil⟩, .map (l := ⟨b, 0, 0, 0, 0, undef⟩) hg⟩⟩⟩
      unfold execOp
      rw [hop]
      simp only [Sem.run_bind, h2 ι a ev w0, Result.andThen, Sem.run_pure]
    · cases h1
  simp only [opB] at hr
  cases ht : P.underlying t with
  | none => simp only [ht] at hr; cases hr
  | some d =>
    simp only [ht] at hr
    cases d with
    | map kt e =>
      cases c with
      | none => exact go hr fun _ _ _ _ => rfl
      | some x =>
        obtain ⟨q, m, ex, h1⟩ := AV.onInt_inv (show ((evO G nt x).run f).onInt _ none = some (V, h') from hr) hnn
        refine go h1 fun ι a ev w0 => ?_
        have hx := ev x (by rw [hop]; simp [Op.operands])
        rw [ex] at hx
        rw [Option.map_some, rv_int hx]
        simp only [Instr.makeMap, Sem.run_bind, underlying_run ht, Result.andThen, asInt, asIntOf, Sem.run_pure]
        rfl
    | _ => cases hr
theorem buildSlice_lays {t : TypeId} {len : Nat} {ps : Array (Nat × Operand)} {o : Oper} (hop : o.op = .buildSlice t len ps) {f : Fr} {h h' : H} {V : AV} (hr : (opB ⟨P, G, RT⟩ nt o.op).run (Option (AV × H)) call f h (fun v h => some (v, h)) none = some (V, h')) :
    ∃ ob Fv, LaysOne P G nt f o V h h' ob Fv := by
  rw [hop] at hr
  have hnn : (none : Option (AV × H)) ≠ some (V, h') := fun hh => by cases hh
  simp only [opB] at hr
  cases ht : P.underlying t with
  | none => simp only [ht] at hr; cases hr
  | some d =>
    simp only [ht] at hr
    cases d with
    | slice e =>
      simp only at hr
      cases hz : (Ty.mk P G RT).zeroL e with
      | none => simp only [hz] at hr; cases hr
      | some z =>
        simp only [hz] at hr
        obtain ⟨i, zv, hi, hzv, rfl⟩ := zeroL_inv hz
        simp only [size_eq_of hi, lenL_eq] at hr
        rw [eqN_eq] at hr
        split at hr
        · cases hr
        · rename_i hsz0
          cases hb : (!Nat.beq (zv.cells.toList.map AV.ofV1).length i.size || !Nat.ble (Nat.mul len i.size) 1000000) with
          | true => rw [hb] at hr; cases hr
          | false =>
            rw [hb] at hr
            simp only [Bool.or_eq_false_iff, Bool.not_eq_false'] at hb
            have hb2 : zv.cells.size = i.size := by have := Nat.eq_of_beq_eq_true hb.1; simpa using this
            have hbig : len * i.size ≤ 1000000 := Nat.le_of_ble_eq_true hb.2
            have hr : fillA (fun j => some (Nat.mul j i.size, i.size)) ((evParts G nt ps.toList).run f) (replA len (zv.cells.toList.map AV.ofV1)) (fun l => newSlice h l i.size len (some len) (fun v h => some (v, h)) none) none = some (V, h') := hr
            -- the row, by the operands' shape
            have hfill : ∃ l, fillA (fun j => some (Nat.mul j i.size, i.size)) ((evParts G nt ps.toList).run f) (replA len (zv.cells.toList.map AV.ofV1)) (fun l => some l) none = some l ∧ newSlice h l i.size len (some len) (fun v h => some (v, h)) none = some (V, h') := by
              generalize (evParts G nt ps.toList).run f = q at hr
              generalize replA len (zv.cells.toList.map AV.ofV1) = c0 at hr
              induction q generalizing c0 with
              | nil => exact ⟨c0, rfl, hr⟩
              | cons p q ih =>
                have h0 : Option.rec (motive := fun _ => Option (AV × H)) none (fun y => p.2.cellsK (fun l => eqN (lenL l) y.2 (le (Nat.add y.1 y.2) (lenL c0) (fillA (fun j => some (Nat.mul j i.size, i.size)) q (splice l c0 y.1) (fun l => newSlice h l i.size len (some len) (fun v h => some (v, h)) none) none) none) none) none) (some (Nat.mul p.1 i.size, i.size)) = some (V, h') := hr
                have h0 : p.2.cellsK (fun l => eqN (lenL l) i.size (le (Nat.add (Nat.mul p.1 i.size) i.size) (lenL c0) (fillA (fun j => some (Nat.mul j i.size, i.size)) q (splice l c0 (Nat.mul p.1 i.size)) (fun l => newSlice h l i.size len (some len) (fun v h => some (v, h)) none) none) none) none) none = some (V, h') := h0
                have hsh : (∃ l, ∀ {β : Type} (k : List AV → β) (s : β), p.2.cellsK k s = k l) ∨ (∀ {β : Type} (k : List AV → β) (s : β), p.2.cellsK k s = s) := by
                  generalize p.2 = v
                  cases v with
                  | tup l => exact .inr fun _ _ => rfl
                  | agg l => exact .inl ⟨l, fun _ _ => rfl⟩
                  | raw u =>
                    cases hu : rawOne u with
                    | false =>
                      refine .inr fun {β} k s => ?_
                      show Bool.rec (motive := fun _ => β) s (k [.raw u]) (rawOne u) = _
                      rw [hu]
                    | true =>
                      refine .inl ⟨[.raw u], fun {β} k s => ?_⟩
                      show Bool.rec (motive := fun _ => β) s (k [.raw u]) (rawOne u) = _
                      rw [hu]
                  | sx t a =>
                    cases t with
                    | zero => exact .inr fun _ _ => rfl
                    | succ t => exact .inl ⟨[.sx (t + 1) a], fun _ _ => rfl⟩
                  | _ => exact .inl ⟨[_], fun _ _ => rfl⟩
                rcases hsh with ⟨l, hl⟩ | hl
                · rw [hl] at h0
                  obtain ⟨h1, h2⟩ := eqN_inv h0 hnn
                  obtain ⟨h3, h4⟩ := le_inv h2 hnn
                  obtain ⟨l', e1, e2⟩ := ih _ h4
                  refine ⟨l', ?_, e2⟩
                  show p.2.cellsK (fun l => eqN (lenL l) i.size (le (Nat.add (Nat.mul p.1 i.size) i.size) (lenL c0) (fillA (fun j => some (Nat.mul j i.size, i.size)) q (splice l c0 (Nat.mul p.1 i.size)) (fun l => some l) none) none) none) none = some l'
                  rw [hl, eqN_eq, if_pos h1, le_eq, if_pos h3]
                  exact e1
                · rw [hl] at h0; cases h0
            obtain ⟨l, hl1, hl2⟩ := hfill
            have hl2 : newCells h l (fun g _ h => some (AV.sl g 0 0 len (some len) i.size, h)) none = some (V, h') := hl2
            obtain ⟨h1, h2, h3⟩ := newCells_told (F := fun g _ => .sl g 0 0 len (some len) i.size) hl2
            refine ⟨_, fun g => .sl g 0 0 len (some len) i.size, h1, h2, h3, fun ι a ev => ?_⟩
            have hps : RVP ι ((evParts G nt ps.toList).run f) (ps.map fun (i, x) => (i, a.eval x)).toList := by rw [Array.toList_map]; exact evParts_ok ps.toList fun y hy => ev y (by rw [hop]; simpa [Op.operands] using hy)
            obtain ⟨l', C', e1, e2, e3⟩ := fillA_ok _ _ _ _ _ hl1 (fun hh => by cases hh) hps (repl_ok (ofVL_rv ι _) len)
            cases e3
            have hlen : l.length = len * i.size := by
              have h4 := e2.length
              have h5 := fill_size _ _ _ _ e1
              have h6 : C'.toList.length = C'.size := Array.length_toList
              rw [h4, h6, h5]; simp [hb2]
            refine ⟨.cells C' e, fun b => .slice (some ⟨b, 0, none⟩) len len, fun w0 => ?_, fun ι' g b w' hle hg0 hs hb => ?_⟩
            · unfold execOp
              rw [hop]
              simp only [Sem.run_bind, buildSlice_run ht hi hzv hb2 hbig e1 w0, Result.andThen, Sem.run_pure]
            · have hg : ι' g 0 = some ⟨b, 0, 0, l.length, l.length, undef⟩ := by rw [hg0, e2.length]; simp [lenX]
              refine ⟨cells_obj e2 hle hg hs hb, ?_⟩
              exact .sl hg (Nat.zero_le _) (by show 0 + len * i.size ≤ l.length; omega) (.inl rfl) (Nat.le_refl _) (fun _ => by show 0 + len * i.size ≤ l.length; omega) (fun q hq => by cases hq; exact ⟨rfl, by show 0 + len * i.size ≤ l.length; omega⟩) (fun hn => by cases hn)
    | _ => cases hr
theorem makeSlice_run {t e : TypeId} {i : TypeInfo} {zv : Value} (ht : P.underlying t = some (.slice e)) (hi : P.info? e = some i) (hz : i.zero = some zv) (hzs : zv.cells.size = i.size) (hb : i.bytes ≤ 1000000) {l c : Nat} (hl : l ≤ c) (hc : c ≤ 1000000) (q1 q2 : IntKind) (w : World) :
    (Instr.makeSlice t (.int q1 (l : Int)) (.int q2 (c : Int))).run P w = .ok (.slice (some ⟨w.heap.size, 0, none⟩) l c) { w with heap := w.heap.push (.cells ((Array.range (c * zv.cells.size)).map (fun i => zv.cells[i % zv.cells.size]!)) e) } := by
  have hrow : (Array.range (c * i.size)).map (fun j => (if c * i.size = 0 then #[] else zv.cells)[j % (if c * i.size = 0 then #[] else zv.cells).size]!) = (Array.range (c * zv.cells.size)).map (fun i => zv.cells[i % zv.cells.size]!) := by
    by_cases h0 : c * i.size = 0
    · rw [hzs, h0]; simp
    · simp only [if_neg h0, hzs]
  have e4 : (newRow e ((Array.range (c * zv.cells.size)).map (fun i => zv.cells[i % zv.cells.size]!))).run P w = .ok ⟨w.heap.size, 0, none⟩ { w with heap := w.heap.push (.cells ((Array.range (c * zv.cells.size)).map (fun i => zv.cells[i % zv.cells.size]!)) e) } := rfl
  have w1 : IntKind.wrap .i64 (l : Int) = (l : Int) := by rw [← wrap64_ok]; unfold wrap64A; rw [show fits64 (l : Int) = true from Nat.ble_eq_true_of_le (by omega)]
  have w2 : IntKind.wrap .i64 (c : Int) = (c : Int) := by rw [← wrap64_ok]; unfold wrap64A; rw [show fits64 (c : Int) = true from Nat.ble_eq_true_of_le (by omega)]
  have hbc : i.bytes * c ≤ 1000000 * 1000000 := Nat.mul_le_mul hb hc
  have t1 : ¬ ((i.bytes : Int) * (c : Int) > 2 ^ 48) := by
    have : ((i.bytes * c : Nat) : Int) ≤ ((1000000 * 1000000 : Nat) : Int) := Int.ofNat_le.2 hbc
    rw [Int.natCast_mul] at this
    omega
  simp only [Instr.makeSlice, Sem.run_bind, underlying_run ht, Result.andThen, asInt, asIntOf, Sem.run_pure, typeInfo_run hi, w1, w2]
  have t2 : (decide ((c : Int) < 0) || decide ((i.bytes : Int) * (c : Int) > 2 ^ 48) || decide ((l : Int) < 0) || decide ((l : Int) > (c : Int))) = false := by
    simp only [Bool.or_eq_false_iff, decide_eq_false_iff_not]
    refine ⟨⟨⟨by omega, t1⟩, by omega⟩, by omega⟩
  by_cases h0 : c * i.size = 0
  · simp only [if_pos h0] at hrow
    simp only [t2, Bool.false_eq_true, if_false, Sem.run_bind, run_askRoom, Result.andThen, sizeOf_run hi, Int.toNat_natCast, if_pos h0, Sem.run_pure, hrow, e4]
  · simp only [if_neg h0] at hrow
    simp only [t2, Bool.false_eq_true, if_false, Sem.run_bind, run_askRoom, Result.andThen, sizeOf_run hi, Int.toNat_natCast, if_neg h0, Sem.run_pure, zeroValue_run hi hz, hrow, e4]
theorem makeSlice_lays {t : TypeId} {x y : Operand} {o : Oper} (hop : o.op = .makeSlice t x y) {f : Fr} {h h' : H} {V : AV} (hr : (opB ⟨P, G, RT⟩ nt o.op).run (Option (AV × H)) call f h (fun v h => some (v, h)) none = some (V, h')) :
    ∃ ob Fv, LaysOne P G nt f o V h h' ob Fv := by
  rw [hop] at hr
  have hnn : (none : Option (AV × H)) ≠ some (V, h') := fun hh => by cases hh
  simp only [opB] at hr
  cases ht : P.underlying t with
  | none => simp only [ht] at hr; cases hr
  | some d =>
    simp only [ht] at hr
    cases d with
    | slice e =>
      simp only at hr
      cases hz : (Ty.mk P G RT).zeroL e with
      | none => simp only [hz] at hr; cases hr
      | some z =>
        simp only [hz] at hr
        obtain ⟨i, zv, hi, hzv, rfl⟩ := zeroL_inv hz
        simp only [size_eq_of hi, bytes_eq_of hi, lenL_eq] at hr
        cases hb : (Nat.beq i.size 0 || !Nat.beq (zv.cells.toList.map AV.ofV1).length i.size || !Nat.ble i.bytes 1000000) with
        | true => rw [hb] at hr; cases hr
        | false =>
          rw [hb] at hr
          simp only [Bool.or_eq_false_iff, Bool.not_eq_false'] at hb
          have hb2 : zv.cells.size = i.size := by have := Nat.eq_of_beq_eq_true hb.1.2; simpa using this
          obtain ⟨q1, m1, e1, h1⟩ := natOf_inv (show natOf ((evO G nt x).run f) _ none = some (V, h') from hr) hnn
          obtain ⟨q2, m2, e2, h2⟩ := natOf_inv h1 hnn
          obtain ⟨h3, h4⟩ := le_inv h2 hnn
          obtain ⟨h5, h6⟩ := le_inv h4 hnn
          have h6 : newCells h (replA m2 (zv.cells.toList.map AV.ofV1)) (fun g _ h => some (AV.sl g 0 0 m1 (some m2) i.size, h)) none = some (V, h') := h6
          obtain ⟨k1, k2, k3⟩ := newCells_told (F := fun g _ => .sl g 0 0 m1 (some m2) i.size) h6
          refine ⟨_, fun g => .sl g 0 0 m1 (some m2) i.size, k1, k2, k3, fun ι a ev => ?_⟩
          have hx := ev x (by rw [hop]; simp [Op.operands])
          have hy := ev y (by rw [hop]; simp [Op.operands])
          rw [e1] at hx
          rw [e2] at hy
          have hrep : RVL ι (replA m2 (zv.cells.toList.map AV.ofV1)) ((Array.range (m2 * zv.cells.size)).map (fun i => zv.cells[i % zv.cells.size]!)).toList := repl_ok (ofVL_rv ι _) m2
          have hlen : (replA m2 (zv.cells.toList.map AV.ofV1)).length = m2 * i.size := by
            have := hrep.length
            rw [this]; simp [hb2]
          have hmul : m1 * i.size ≤ m2 * i.size := Nat.mul_le_mul_right _ h3
          refine ⟨.cells ((Array.range (m2 * zv.cells.size)).map (fun i => zv.cells[i % zv.cells.size]!)) e, fun b => .slice (some ⟨b, 0, none⟩) m1 m2, fun w0 => ?_, fun ι' g b w' hle hg0 hs hb' => ?_⟩
          · unfold execOp
            rw [hop]
            simp only [rv_int hx, rv_int hy, Sem.run_bind, makeSlice_run ht hi hzv hb2 (Nat.le_of_ble_eq_true hb.2) h3 h5 q1 q2 w0, Result.andThen, Sem.run_pure]
          · have hg : ι' g 0 = some ⟨b, 0, 0, (replA m2 (zv.cells.toList.map AV.ofV1)).length, (replA m2 (zv.cells.toList.map AV.ofV1)).length, undef⟩ := by rw [hg0, hrep.length]; simp [lenX]
            refine ⟨cells_obj hrep hle hg hs hb', ?_⟩
            exact .sl hg (Nat.zero_le _) (by show 0 + m1 * i.size ≤ (replA m2 _).length; omega) (.inl rfl) h3 (fun _ => by show 0 + m2 * i.size ≤ (replA m2 _).length; omega) (fun q hq => by cases hq; exact ⟨rfl, by show 0 + m2 * i.size ≤ (replA m2 _).length; omega⟩) (fun hn => by cases hn)
    | _ => cases hr
theorem allocB_lays_ {o : Oper} (ha : allocB o.op = true) {f : Fr} {h h' : H} {V : AV} (hr : (opB ⟨P, G, RT⟩ nt o.op).run (Option (AV × H)) call f h (fun v h => some (v, h)) none = some (V, h')) :
    ∃ ob Fv, LaysOne P G nt f o V h h' ob Fv := by
  cases hop : o.op with
  | alloc t => exact alloc_lays hop hr
  | box t x => exact box_lays hop hr
  | makeMap t c => exact makeMap_lays hop hr
  | buildSlice t len ps => exact buildSlice_lays hop hr
  | makeSlice t x y => exact makeSlice_lays hop hr
  | _ => rw [hop] at ha; cases ha
theorem opC_alloc {T : Ty} {op : Op} (ha : allocB op = true) : opC T nt op = opB T nt op := by
  cases op <;> first | rfl | cases ha
theorem allocB_lays {o : Oper} (ha : allocB o.op = true) {f : Fr} {h h' : H} {V : AV} (hr : (opC ⟨P, G, RT⟩ nt o.op).run (Option (AV × H)) call f h (fun v h => some (v, h)) none = some (V, h')) :
    ∃ ob Fv, LaysOne P G nt f o V h h' ob Fv := by
  rw [opC_alloc ha] at hr
  exact allocB_lays_ ha hr
end
/-! ### Groups kept for blocks to come -/
section
variable {ι ι0 : Inj} {h h0 : H} {w w0 : World}
theorem Sim.reserve (S : Sim ι h w) (hn : h.nx ≤ 32767) : Sim ι (h.newv .no) w := by
  refine ⟨by show h.nx + 1 ≤ 32768; omega, fun g s hg => S.beyond g s (by have hg' : h.nx + 1 ≤ g := hg; omega), S.inj, S.inw, fun g hg => ?_⟩
  have hg' : g < h.nx + 1 := hg
  rw [H.obj_newv h g .no (by omega) (by omega)]
  by_cases e : h.nx = g
  · rw [if_pos e]; trivial
  · rw [if_neg e]; exact S.obj g (by omega)
theorem Grows.reserve (S : Sim ι h w) (g : Grows ι0 h0 w0 ι h w) (hn : h.nx ≤ 32767) : Grows ι0 h0 w0 ι (h.newv .no) w := by
  have h1 := g.nx
  refine ⟨g.ext, Nat.le_trans g.nx (Nat.le_succ _), g.size, g.fresh, fun g' hg' hw => ?_, g.keep, fun g' hg' ho => ?_, g.streams⟩
  · rw [H.obj_newv h g' .no (by omega) (by have := S.nx; omega), if_neg (by omega)] at hw
    exact g.old g' hg' hw
  · rw [H.obj_newv h g' .no (by omega) (by have := S.nx; omega), if_neg (by omega)]
    exact g.kept g' hg' ho
/-- A block is laid early: its group is kept, and holds nothing yet. -/
theorem Sim.early (S : Sim ι h w) {g : Nat} (hg : g < h.nx) (ho : h.obj g = .no) (hnone : ∀ s, ι g s = none) (X : Obj) (len : Nat) : Sim (ι.add g 0 ⟨w.heap.size, 0, 0, len, len, undef⟩) h { w with heap := w.heap.push X } := by
  have hle := Inj.add_le ι g 0 ⟨w.heap.size, 0, 0, len, len, undef⟩ (hnone 0)
  have key : ∀ g' s l', ι.add g 0 ⟨w.heap.size, 0, 0, len, len, undef⟩ g' s = some l' → ι g' s = some l' ∨ (g' = g ∧ s = 0 ∧ l' = ⟨w.heap.size, 0, 0, len, len, undef⟩) := by
    intro g' s l' e
    by_cases hh : g' = g ∧ s = 0
    · obtain ⟨rfl, rfl⟩ := hh; rw [Inj.add_same] at e; cases e; exact .inr ⟨rfl, rfl, rfl⟩
    · rw [Inj.add_other _ _ _ _ hh] at e; exact .inl e
  refine ⟨S.nx, fun g' s hg' => ?_, ?_, ?_, fun g' hg' => ?_⟩
  · rw [Inj.add_other _ _ _ _ (by omega)]; exact S.beyond g' s hg'
  · intro g1 s1 l1 g2 s2 l2 e1 e2 hbb
    rcases key _ _ _ e1 with k1 | ⟨rfl, rfl, rfl⟩
    · rcases key _ _ _ e2 with k2 | ⟨rfl, rfl, rfl⟩
      · exact S.inj _ _ _ _ _ _ k1 k2 hbb
      · have := S.inw _ _ _ k1
        have hbb' : l1.b = w.heap.size := hbb
        omega
    · rcases key _ _ _ e2 with k2 | ⟨rfl, rfl, rfl⟩
      · have := S.inw _ _ _ k2
        have hbb' : w.heap.size = l2.b := hbb
        omega
      · exact ⟨rfl, rfl⟩
  · intro g' s l' e
    rcases key _ _ _ e with k | ⟨rfl, rfl, rfl⟩
    · have := S.inw _ _ _ k
      show l'.b < (w.heap.push X).size
      rw [Array.size_push]; omega
    · show w.heap.size < (w.heap.push X).size
      rw [Array.size_push]; omega
  · by_cases e : g' = g
    · subst e; rw [ho]; trivial
    · exact objOk_keep (S.obj g' hg') hle (fun s => Inj.add_other _ _ _ _ (by omega)) (fun s l hl => by
        have := S.inw _ _ _ hl
        show (w.heap.push X)[l.b]? = _
        rw [Array.getElem?_push_lt this, Array.getElem?_eq_getElem this])
theorem Grows.early (gr : Grows ι0 h0 w0 ι h w) {g : Nat} (hg0 : h0.nx ≤ g) (hnone : ∀ s, ι g s = none) (X : Obj) (len : Nat) : Grows ι0 h0 w0 (ι.add g 0 ⟨w.heap.size, 0, 0, len, len, undef⟩) h { w with heap := w.heap.push X } := by
  have hle := Inj.add_le ι g 0 ⟨w.heap.size, 0, 0, len, len, undef⟩ (hnone 0)
  refine ⟨Inj.le_trans gr.ext hle, gr.nx, by show _ ≤ (w.heap.push X).size; rw [Array.size_push]; have := gr.size; omega, fun g' s l' e n => ?_, gr.old, fun b hb hn => ?_, fun g' hg' ho => ⟨(gr.kept g' hg' ho).1, fun s => by rw [Inj.add_other _ _ _ _ (by omega)]; exact (gr.kept g' hg' ho).2 s⟩, gr.streams⟩
  · by_cases hh : g' = g ∧ s = 0
    · obtain ⟨rfl, rfl⟩ := hh; rw [Inj.add_same] at e; cases e; exact .inl gr.size
    · rw [Inj.add_other _ _ _ _ hh] at e; exact gr.fresh g' s l' e n
  · have hlt : b < w.heap.size := Nat.lt_of_lt_of_le hb gr.size
    show (w.heap.push X)[b]? = _
    rw [Array.getElem?_push_lt hlt, ← gr.keep b hb hn, Array.getElem?_eq_getElem hlt]
/-- Its turn has come: the group holds it. -/
theorem Sim.adopt (S : Sim ι h w) {g : Nat} (hg : g < h.nx) {ob : AO} (hobj : ObjOk ι w g ob) : Sim ι (h.putv g ob) w := by
  have hnx := S.nx
  refine ⟨hnx, S.beyond, S.inj, S.inw, fun g' hg' => ?_⟩
  have hg'' : g' < h.nx := hg'
  rw [H.obj_putv h g g' ob (by omega) (by omega)]
  by_cases e : g = g'
  · subst e; rw [if_pos rfl]; exact hobj
  · rw [if_neg e]; exact S.obj g' hg''
theorem Grows.adopt (S : Sim ι h w) (gr : Grows ι0 h0 w0 ι h w) {g : Nat} (hg : g < h.nx) (hg0 : h0.nx ≤ g) (ob : AO) : Grows ι0 h0 w0 ι (h.putv g ob) w := by
  have hnx := S.nx
  have h1 := gr.nx
  refine ⟨gr.ext, gr.nx, gr.size, gr.fresh, fun g' hg' hw => ?_, gr.keep, fun g' hg' ho => ?_, gr.streams⟩
  · rw [H.obj_putv h g g' ob (by omega) (by omega), if_neg (by omega)] at hw
    exact gr.old g' hg' hw
  · rw [H.obj_putv h g g' ob (by omega) (by omega), if_neg (by omega)]
    exact gr.kept g' hg' ho
end
/-! ### One operation of a region that draws its order -/
section
variable {P : Program} {RT : List Rule} [RulesOk P RT] {G : Nat → AV} {nt : Nat} {rd : Option Nat} {call : CallT} {pb : FuncId → Bool}
/-- An operation, whatever it does to memory. -/
theorem eff_ok (hcall : CallOk P G pb call) {o : Oper} {ι : Inj} {f : Fr} {h h' : H} {a : Act} {w : World} {V : AV} {K : Act → World → Prop} {Q : Exit → Act → World → Prop}
    (hr : (opC ⟨P, G, RT⟩ nt o.op).run (Option (AV × H)) call f h (fun v h => some (v, h)) none = some (V, h')) (hG : GlobOk G ι) (ev : EvOk G nt ι f a o.op) (S : Sim ι h w)
    (hK : ∀ u ι1 w1, Sim ι1 h' w1 → RV ι1 V u → Grows ι h w ι1 h' w1 → K (a.put o.dst u) w1) : o.wpIn (Wd rd) 0 P a w K Q := by
  have n : (none : Option (AV × H)) ≠ some (V, h') := fun hh => by cases hh
  have go : ∀ {u : Value} {w1 : World}, PostK ι h w (fun v h => some (v, h)) (some (V, h')) u w1 → K (a.put o.dst u) w1 := by
    intro u w1 ⟨v, h1, ι1, e1, S1, hv, g⟩
    cases e1
    exact hK u ι1 w1 S1 hv g
  refine ⟨fun _ _ => trivial, ?_⟩
  have hnd : ∀ c, o.op ≠ .defer c := by
    intro c hh
    rw [hh] at hr
    exact absurd hr n
  rw [Oper.semAt_plain (Wd rd) a.eval o hnd]
  cases hc : callsB o.op with
  | false =>
    obtain ⟨u, w1, hrun, hp⟩ := (opC_ok hr n ev S hc).1
    rcases hrun with hrun | ⟨hrun, rfl⟩
    · rw [hrun]; exact go hp
    · rw [hrun]; exact go hp
  | true =>
    cases hop : o.op with
    | call c =>
      rw [hop] at hr hc ev
      cases hcc : c.callee with
      | value g =>
        have eo : sopOf (Ty.mk P G RT).P (.call c) = none := by simp only [sopOf, hcc]
        simp only [opC, eo, opB, hcc] at hr
        obtain ⟨v1, h1, ec, hr⟩ := onR2_inv hr n
        cases hr
        have hargs : RVL ι ((evs G nt c.args.toList).run f) (c.args.map a.eval).toList := by
          rw [Array.toList_map]
          exact evs_ok _ fun y hy => ev y (by simp only [Op.operands, Call.operands, hcc, Array.toList_append, List.mem_append]; exact .inr hy)
        have hgv : RV ι ((evO G nt g).run f) (a.eval g) := ev g (by simp [Op.operands, Call.operands, hcc])
        have fin : ∀ {u : Value} {w1 : World}, CallPost ι h w V h' u w1 → K (a.put o.dst u) w1 := fun ⟨ι1, S1, hv, g⟩ => hK _ ι1 _ S1 hv g
        rcases hcall ι h w _ (a.eval g) _ (c.args.map a.eval) V h' ec hG S hgv hargs with ⟨fid, first, caps, efv, hres⟩ | ⟨l, fid, tmps, assign, body, efv, hy, hround⟩
        · have hexec : (execOp a.eval o).run P w = (callFunc fid (first ++ c.args.map a.eval ++ caps)).run P w := by
            unfold execOp
            rw [hop]
            simp only [resolve, hcc, efv, Deferred.ofValue, Sem.run_bind, Sem.run_pure, Result.andThen, invoke]
          rw [hexec]
          rcases hres with ⟨u, w1, _, e1, e2⟩ | ⟨e1, e2⟩
          · rw [e1]; exact fin e2
          · rw [e1, Oper.uponIn_enter]
            refine ⟨fun hh => by simp [Wd, Fence.wide] at hh, CallsIn.mono (callsIn_wd.2 e2) fun e w1 he => ?_⟩
            obtain ⟨u, rfl, hp⟩ := he
            exact fin hp
        · have hexec : (execOp a.eval o).run P w = (Instr.yield l (c.args.map a.eval)).run P w := by
            unfold execOp
            rw [hop]
            simp only [resolve, hcc, efv, Deferred.ofValue, Sem.run_bind, Sem.run_pure, Result.andThen, invoke]
            congr 2
            apply Array.ext'
            simp
          rw [hexec, hy, Oper.uponIn_round]
          refine ⟨fun hh => by simp [Wd, Fence.wide] at hh, RoundIn.mono (hround rd) fun e w1 he => ?_⟩
          obtain ⟨u, rfl, hp⟩ := he
          exact fin hp
      | _ => simp [callsB, hcc] at hc
    | _ => rw [hop] at hc; cases hc
theorem quietA_calls {o : Op} (hq : quietA P o = true) : callsB o = false ∧ quietB P o = true := by
  cases o <;> first
    | exact ⟨rfl, rfl⟩
    | cases hq
    | (rename_i s d x; exact ⟨rfl, hq⟩)
    | (rename_i c
       unfold quietA at hq
       unfold callsB quietB
       cases hcc : c.callee with
       | builtin b => simp only [hcc] at hq ⊢; exact ⟨trivial, by cases b <;> first | rfl | cases hq⟩
       | _ => simp only [hcc] at hq; cases hq)
/-- A quiet operation. -/
theorem quiet_ok {o : Oper} {ι : Inj} {f : Fr} {h : H} {a : Act} {w : World} {V : AV} {K : Act → World → Prop} {Q : Exit → Act → World → Prop} (hq : quietA P o.op = true)
    (hr : (opC ⟨P, G, RT⟩ nt o.op).run (Option AV) call f h (fun v _ => some v) none = some V) (ev : EvOk G nt ι f a o.op) (S : Sim ι h w) (hK : ∀ u, RV ι V u → K (a.put o.dst u) w) : o.wpIn (Wd rd) 0 P a w K Q := by
  have n : (none : Option AV) ≠ some V := fun hh => by cases hh
  obtain ⟨q1, q2⟩ := quietA_calls hq
  obtain ⟨u, v, h1, h2, h3⟩ := (opC_ok hr n ev S q1).2 q2
  cases h3
  have hnd : ∀ c, o.op ≠ .defer c := by
    intro c hh
    rw [hh] at hq
    cases hq
  refine ⟨fun _ _ => trivial, ?_⟩
  rw [Oper.semAt_plain (Wd rd) a.eval o hnd, h1]
  exact hK u h2
end
/-! ### Frames along a trace -/
section
variable {T : Ty} {nt : Nat} {ops : Array Oper} {call : CallT} {b : Nat} {fe : Fr} {he : H}
theorem putD_get {f : Fr} {dst : Option Nat} {v : AV} {t : Nat} (ht : t < nt) (hm : nt ≤ 576) : (getC t).run (f.putD nt dst v) = if dst = some t then v else (getC t).run f := by
  cases dst with
  | none => rfl
  | some d =>
    show (getC t).run (if d < nt then f.put d v else f) = _
    by_cases hd : d < nt
    · rw [if_pos hd, getC_put (by omega) (by omega)]
      by_cases e : d = t
      · subst e; simp
      · rw [if_neg e, if_neg (by simpa using e)]
    · rw [if_neg hd, if_neg (by simp; omega)]
theorem Tr.keep {l : List PI} {f : Fr} {h : H} {sn : List H} (tr : Tr T nt ops call b fe he l f h sn) {t : Nat} (ht : t < nt) (hm : nt ≤ 576) (hd : ∀ y ∈ l, y.o.dst ≠ some t) : (getC t).run fe = (getC t).run f := by
  induction tr with
  | nil => rfl
  | skip _ _ _ ih => rw [ih fun y hy => hd y (List.mem_cons_of_mem _ hy), putD_get ht hm, if_neg (hd _ (List.mem_cons_self ..))]
  | skipE _ _ _ ih => rw [ih fun y hy => hd y (List.mem_cons_of_mem _ hy), putD_get ht hm, if_neg (hd _ (List.mem_cons_self ..))]
  | q _ _ _ _ ih => rw [ih fun y hy => hd y (List.mem_cons_of_mem _ hy), putD_get ht hm, if_neg (hd _ (List.mem_cons_self ..))]
  | a _ _ _ _ ih => rw [ih fun y hy => hd y (List.mem_cons_of_mem _ hy), putD_get ht hm, if_neg (hd _ (List.mem_cons_self ..))]
  | e _ _ _ _ ih => rw [ih fun y hy => hd y (List.mem_cons_of_mem _ hy), putD_get ht hm, if_neg (hd _ (List.mem_cons_self ..))]
/-- Different operations write different temporaries. -/
theorem PlanOk.dsts {P : Program} {ops : Array Oper} {l done : List PI} (h : PlanOk P ops l done) : ∀ x ∈ l, ∀ y ∈ done, ∀ t, x.o.dst = some t → y.o.dst ≠ some t := by
  induction h with
  | nil _ => intro x hx; cases hx
  | cons hi _ ih =>
    intro x hx y hy t e1 e2
    rcases List.mem_cons.1 hx with rfl | hx
    · exact (hi.apart y hy).1 t t e1 e2 rfl
    · exact ih x hx y (List.mem_cons_of_mem _ hy) t e1 e2
/-- What stands ahead of an operation of a closed set is in the set. -/
def ClosedL (ops : Array Oper) (L : Nat → Prop) : Prop := ∀ i o, ops[i]? = some o → L i → ∀ j, Dep o j → L j
theorem anc_closed {P : Program} {ops : Array Oper} {L : Nat → Prop} (hL : ClosedL ops L) : ∀ {l done : List PI}, PlanOk P ops l done → (∀ y ∈ done, L y.i → ∀ j, y.A.testBit j = true → L j) → ∀ x ∈ l, (∀ j, Dep x.o j → L j) → ∀ j, x.A.testBit j = true → L j := by
  intro l done h
  induction h with
  | nil _ => intro _ x hx; cases hx
  | @cons x l done hi _ ih =>
    intro hd
    have hx : (∀ j, Dep x.o j → L j) → ∀ j, x.A.testBit j = true → L j := by
      intro hdep j hj
      rcases (hi.anc j).1 hj with h1 | ⟨y, h1, h2, h3⟩
      · exact hdep j h1
      · exact hd y h1 (hdep _ h2) j h3
    intro z hz
    rcases List.mem_cons.1 hz with rfl | hz
    · exact hx
    · refine ih (fun y hy hLy => ?_) z hz
      rcases List.mem_cons.1 hy with rfl | hy
      · exact hx fun j hj => hL _ _ hi.at_ hLy j hj
      · exact hd y hy hLy
end
/-! ### A place in a trace -/
section
variable {T : Ty} {nt : Nat} {ops : Array Oper} {call : CallT} {b : Nat} {fe : Fr} {he : H} {P : Program}
def effN (l : List PI) : Nat := match l with
  | [] => 0
  | x :: l => (match x.kd with | .e => 1 | _ => 0) + effN l
theorem Tr.at_ {rest : List PI} {f : Fr} {h : H} {sn : List H} (hm : nt ≤ 576) (tr : Tr T nt ops call b fe he rest f h sn) : ∀ {done : List PI}, PlanOk P ops rest done → ∀ x ∈ rest, ∃ l1 l2 fx hx snx pre, rest = l1 ++ x :: l2 ∧ ItemOk P ops x (l1.reverse ++ done) ∧ Tr T nt ops call b fe he (x :: l2) fx hx snx ∧ snx = pre ++ sn ∧ pre.length = effN l1 ∧
    (∀ t, t < nt → (∀ y ∈ l1, y.o.dst ≠ some t) → (getC t).run fx = (getC t).run f) := by
  have here : ∀ {y : PI} {l : List PI} {f : Fr} {h : H} {sn : List H} {done : List PI}, Tr T nt ops call b fe he (y :: l) f h sn → ItemOk P ops y done → ∃ l1 l2 fx hx snx pre, y :: l = l1 ++ y :: l2 ∧ ItemOk P ops y (l1.reverse ++ done) ∧ Tr T nt ops call b fe he (y :: l2) fx hx snx ∧ snx = pre ++ sn ∧ pre.length = effN l1 ∧
      (∀ t, t < nt → (∀ y ∈ l1, y.o.dst ≠ some t) → (getC t).run fx = (getC t).run f) := fun t i => ⟨[], _, _, _, _, [], rfl, i, t, rfl, rfl, fun _ _ _ => rfl⟩
  have later : ∀ {y : PI} {l : List PI} {f : Fr} {sn sn' : List H} {v : AV} {done : List PI} {x : PI}, (∃ pre, sn' = pre ++ sn ∧ pre.length = (match y.kd with | .e => 1 | _ => 0)) →
      (∃ l1 l2 fx hx snx pre, l = l1 ++ x :: l2 ∧ ItemOk P ops x (l1.reverse ++ (y :: done)) ∧ Tr T nt ops call b fe he (x :: l2) fx hx snx ∧ snx = pre ++ sn' ∧ pre.length = effN l1 ∧ (∀ t, t < nt → (∀ z ∈ l1, z.o.dst ≠ some t) → (getC t).run fx = (getC t).run (f.putD nt y.o.dst v))) →
      ∃ l1 l2 fx hx snx pre, y :: l = l1 ++ x :: l2 ∧ ItemOk P ops x (l1.reverse ++ done) ∧ Tr T nt ops call b fe he (x :: l2) fx hx snx ∧ snx = pre ++ sn ∧ pre.length = effN l1 ∧ (∀ t, t < nt → (∀ z ∈ l1, z.o.dst ≠ some t) → (getC t).run fx = (getC t).run f) := by
    intro y l f sn sn' v done x ⟨p0, e0, e1⟩ ⟨l1, l2, fx, hx, snx, pre, q1, q2, q3, q4, q5, q6⟩
    refine ⟨y :: l1, l2, fx, hx, snx, pre ++ p0, by rw [q1]; rfl, by simpa using q2, q3, by rw [q4, e0, List.append_assoc], ?_, fun t ht hd => ?_⟩
    · rw [List.length_append, q5, e1]
      show _ = (match y.kd with | .e => 1 | _ => 0) + effN l1
      omega
    · rw [q6 t ht fun z hz => hd z (List.mem_cons_of_mem _ hz), putD_get ht hm, if_neg (hd y (List.mem_cons_self ..))]
  induction tr with
  | nil => intro done _ x hx; cases hx
  | @skip y l f h sn k1 k2 k3 ih =>
    intro done pl x hx
    cases pl with
    | cons hi pl =>
    rcases List.mem_cons.1 hx with rfl | hx
    · exact here (.skip k1 k2 k3) hi
    · exact later ⟨[], rfl, by cases hk : y.kd <;> first | rfl | exact absurd hk k1⟩ (ih pl x hx)
  | @skipE y l f h sn k1 k2 k3 ih =>
    intro done pl x hx
    cases pl with
    | cons hi pl =>
    rcases List.mem_cons.1 hx with rfl | hx
    · exact here (.skipE k1 k2 k3) hi
    · exact later ⟨[h], rfl, by rw [k1]; rfl⟩ (ih pl x hx)
  | @q y l f h sn v k1 k2 k3 k4 ih =>
    intro done pl x hx
    cases pl with
    | cons hi pl =>
    rcases List.mem_cons.1 hx with rfl | hx
    · exact here (.q k1 k2 k3 k4) hi
    · exact later ⟨[], rfl, by rw [k1]; rfl⟩ (ih pl x hx)
  | @a y l f h h' sn v k1 k2 k3 k4 ih =>
    intro done pl x hx
    cases pl with
    | cons hi pl =>
    rcases List.mem_cons.1 hx with rfl | hx
    · exact here (.a k1 k2 k3 k4) hi
    · exact later ⟨[], rfl, by rw [k1]; rfl⟩ (ih pl x hx)
  | @e y l f h h' sn v k1 k2 k3 k4 ih =>
    intro done pl x hx
    cases pl with
    | cons hi pl =>
    rcases List.mem_cons.1 hx with rfl | hx
    · exact here (.e k1 k2 k3 k4) hi
    · exact later ⟨[h'], rfl, by rw [k1]; rfl⟩ (ih pl x hx)
end
section
theorem lateN_cons (A : Nat) (y : PI) (l : List PI) : lateN A (y :: l) = (match y.kd with | .e => if A.testBit y.i = true then 0 else 1 | _ => 0) + lateN A l := by
  show KD.rec (motive := fun _ => Nat) (lateN A l) (lateN A l) (ifB (bitB A y.i) (lateN A l) (Nat.succ (lateN A l))) y.kd = _
  cases y.kd with
  | q => show lateN A l = 0 + lateN A l; omega
  | a => show lateN A l = 0 + lateN A l; omega
  | e =>
    show ifB (bitB A y.i) (lateN A l) (Nat.succ (lateN A l)) = (if A.testBit y.i = true then 0 else 1) + lateN A l
    rw [ifB_eq, bitB_eq]
    split <;> omega
theorem lateN_append (A : Nat) : ∀ (l d : List PI), lateN A (l ++ d) = lateN A l + lateN A d
  | [], d => by show _ = 0 + lateN A d; simp
  | y :: l, d => by rw [List.cons_append, lateN_cons, lateN_cons, lateN_append A l d]; omega
theorem lateN_reverse (A : Nat) : ∀ (l : List PI), lateN A l.reverse = lateN A l
  | [] => rfl
  | y :: l => by rw [List.reverse_cons, lateN_append, lateN_reverse A l, lateN_cons, lateN_cons]; show _ + (_ + 0) = _; omega
theorem lateN_eff {A : Nat} : ∀ {l : List PI}, (∀ y ∈ l, y.kd = .e → A.testBit y.i = false) → effN l = lateN A l
  | [], _ => rfl
  | y :: l, h => by
    rw [lateN_cons, ← lateN_eff fun z hz => h z (List.mem_cons_of_mem _ hz)]
    show (match y.kd with | .e => 1 | _ => 0) + effN l = _
    have hy := h y (List.mem_cons_self ..)
    cases hk : y.kd with
    | e => rw [hy hk]; simp
    | _ => simp
theorem mem_takeH : ∀ (n : Nat) (pre : List H) (h : H) (sn : List H), pre.length < n → h ∈ takeH n (pre ++ h :: sn)
  | 0, _, _, _, hn => by omega
  | n + 1, [], h, sn, _ => List.mem_cons_self ..
  | n + 1, x :: pre, h, sn, hn => List.mem_cons_of_mem _ (mem_takeH n pre h sn (by simpa using hn))
/-- A quiet operation that may be taken now is told on the memory of now. -/
theorem told_now {P : Program} {ops : Array Oper} {x : PI} {l1 done : List PI} (hi : ItemOk P ops x (l1.reverse ++ done)) (hl : ∀ y ∈ l1, y.kd = .e → x.A.testBit y.i = false) {pre : List H} (hp : pre.length = effN l1) (h : H) (sn : List H) : h ∈ takeH x.c (pre ++ h :: sn) := by
  refine mem_takeH _ _ _ _ ?_
  rw [hi.cnt, lateN_append, lateN_reverse, ← lateN_eff hl, hp]
  omega
end
section
variable {ι ι0 : Inj} {h0 : H} {w w0 : World}
theorem backG_eq (h : H) (g : Nat) (ob : AO) : backG h ((atG h g).newv ob) = h.putv g ob := rfl
theorem atG_nx (h : H) (g : Nat) : (atG h g).nx = g := rfl
theorem reserve_ok {k : H → RS} {r : RS} (n : RS.bad ≠ r) : ∀ (m : Nat) (h : H), reserve m k h = r → Sim ι h w → Grows ι0 h0 w0 ι h w → ∃ h', k h' = r ∧ Sim ι h' w ∧ Grows ι0 h0 w0 ι h' w ∧ h'.nx = h.nx + m ∧ (∀ g, h.nx ≤ g → g < h.nx + m → h'.obj g = .no) ∧ (∀ g, g < h.nx → h'.obj g = h.obj g)
  | 0, h, hr, S, g => ⟨h, hr, S, g, rfl, fun g h1 h2 => by omega, fun _ _ => rfl⟩
  | m + 1, h, hr, S, g => by
    have hr : h.new .no (fun _ h => reserve m k h) .bad = r := hr
    rw [H.new_eq] at hr
    split at hr
    · rename_i hn
      obtain ⟨h', e1, e2, e3, e4, e5, e6⟩ := reserve_ok n m _ hr (S.reserve hn) (Grows.reserve S g hn)
      have hnx : (h.newv .no).nx = h.nx + 1 := rfl
      have hsm := e2.nx
      refine ⟨h', e1, e2, e3, by rw [e4, hnx]; omega, fun g' h1 h2 => ?_, fun g' hg' => ?_⟩
      · by_cases e : g' = h.nx
        · subst e
          rw [e6 h.nx (by rw [hnx]; omega), H.obj_newv h h.nx .no (by omega) (by omega), if_pos rfl]
        · exact e5 g' (by rw [hnx]; omega) (by rw [hnx]; omega)
      · rw [e6 g' (by rw [hnx]; omega), H.obj_newv h g' .no (by omega) (by omega), if_neg (by omega)]
    · exact absurd hr n
end
section
variable {P : Program} {RT : List Rule} [RulesOk P RT] {G : Nat → AV} {nt : Nat} {rd : Option Nat}
/-- An allocation, early or late: its group is kept. -/
theorem alloc_now {o : Oper} {ι : Inj} {f : Fr} {hh h' : H} {a : Act} {w : World} {V : AV} {ob : AO} {Fv : Nat → AV} {g : Nat} {K : Act → World → Prop} {Q : Exit → Act → World → Prop} (ha : allocB o.op = true) (hl : LaysOne P G nt f o V hh h' ob Fv) (hV : V = Fv g) (ev : EvOk G nt ι f a o.op)
    (hnone : ∀ s, ι g s = none)
    (hK : ∀ u X, (∃ uu : Nat → Value, ∀ w0 : World, (execOp a.eval o).run P w0 = .ok (.value (uu w0.heap.size)) { w0 with heap := w0.heap.push X }) → RV (ι.add g 0 ⟨w.heap.size, 0, 0, lenX X, lenX X, undef⟩) V u → K (a.put o.dst u) { w with heap := w.heap.push X }) : o.wpIn (Wd rd) 0 P a w K Q := by
  obtain ⟨X, uu, h1, h2⟩ := hl.runs ι a ev
  have hle := Inj.add_le ι g 0 ⟨w.heap.size, 0, 0, lenX X, lenX X, undef⟩ (hnone 0)
  obtain ⟨_, h3⟩ := h2 (ι.add g 0 ⟨w.heap.size, 0, 0, lenX X, lenX X, undef⟩) g w.heap.size { w with heap := w.heap.push X } hle (Inj.add_same _ _ _ _) (fun s hs => by rw [Inj.add_other _ _ _ _ (by omega)]; exact hnone s) (by simp)
  have hnd : ∀ c, o.op ≠ .defer c := by
    intro c hh
    rw [hh] at ha
    cases ha
  refine ⟨fun _ _ => trivial, ?_⟩
  rw [Oper.semAt_plain (Wd rd) a.eval o hnd, h1 w]
  exact hK _ X ⟨uu, h1⟩ (by rw [hV]; exact h3)
end
end
end Go.Proofs.YtenpnejkgopghaaDoor.AK
