/- Proved: Calls of which rules tell, states of memory out of sight, pieces of code: the interpreter is sound. Conditions: none. -/
import Derived.Test.YtenpnejkgopghaaDoorAkS
set_option maxRecDepth 100000
set_option linter.unusedVariables false
set_option linter.unusedSimpArgs false
set_option linter.unusedSectionVars false
namespace Go.Proofs.YtenpnejkgopghaaDoor.AK
open Go
noncomputable section
variable [Env]
/-! ### A function without arguments that returns true, told by its contract -/
section
variable {P : Program} {RT : List Rule} [RulesOk P RT] {G : Nat → AV} {pb : FuncId → Bool}
def primTrue : FnC := ⟨fun _ _ args h => List.rec (motive := fun _ => R2) (.ok (.bool true) h) (fun _ _ _ => .bad) args⟩
theorem Sim.below {ι : Inj} {h : H} {w w1 : World} (S : Sim ι h w) (b : RowKit.Below w.heap.size w w1) : Sim ι h w1 ∧ Grows ι h w ι h w1 := by
  have hk : ∀ k, k < w.heap.size → w1.heap[k]? = w.heap[k]? := fun k hk => b.block k hk
  have hs := b.size
  refine ⟨⟨S.nx, S.beyond, S.inj, fun g s l hl => Nat.lt_of_lt_of_le (S.inw g s l hl) hs, fun g hg => objOk_keep (S.obj g hg) (Inj.le_refl ι) (fun _ => rfl) (fun s l hl => hk _ (S.inw g s l hl))⟩,
    ⟨Inj.le_refl ι, Nat.le_refl _, hs, fun _ _ _ h1 h2 => (by rw [h1] at h2; cases h2), fun _ _ h => h, fun b hb _ => hk b hb, fun _ _ h => ⟨h, fun _ => rfl⟩, b.os, b.tape, b.output⟩⟩
theorem primTrue_ok {g0 : FuncId} (henter : ∀ (A : Array Value) (w : World), (callFunc g0 A).run P w = .ok (.enter g0 A) w)
    (hc : ∀ w, Calls P g0 #[] w fun e w' => e = .returned (.bool true) ∧ RowKit.Below w.heap.size w w') : PrimOk P G pb g0 primTrue := by
  intro call N _ ι h w args A v1 h1 hr _ S ha
  cases args with
  | cons x l => cases (show R2.bad = R2.ok v1 h1 from hr)
  | nil =>
    have hr : R2.ok (.bool true) h = R2.ok v1 h1 := hr
    cases hr
    have hA : A = #[] := by
      obtain ⟨l⟩ := A
      cases ha
      rfl
    subst hA
    refine .inr ⟨henter _ _, Calls.mono (hc w) fun e w1 ⟨he, b⟩ => ?_⟩
    obtain ⟨S1, g1⟩ := S.below b
    exact ⟨_, he, ι, S1, .bool _, g1⟩
end
/-! ### Calls of which rules tell -/
section
variable {P : Program} {G : Nat → AV} {pb : FuncId → Bool}
def CallTo (r : CRule) (σ : List Value) (w : World) (e : Ending) (w' : World) : Prop :=
  match r.eff with
  | none => ∃ u, e = .returned u ∧ RV (names σ) r.res u ∧ RowKit.Below w.heap.size w w'
  | some k1 => ∃ u vs k0, e = .returned u ∧ RV (names (σ ++ vs)) r.res u ∧ r.st = some k0 ∧ Eff k0 σ w k1 (σ ++ vs) w'
def CRuleOk (P : Program) (r : CRule) : Prop := detL r.args = true ∧ detA r.res = true ∧ (r.st.isSome || (r.args.all statA && statA r.res)) = true ∧ (∀ (A : Array Value) (w : World), (callFunc r.f A).run P w = .ok (.enter r.f A) w) ∧
  ∀ (σ : List Value) (w : World) (A : Array Value), (∀ k0, r.st = some k0 → Env.ext k0 σ w) → RVL (names σ) r.args A.toList → Calls P r.f A w (CallTo r σ w)
theorem primR_ok {g : FuncId} : ∀ {rs : List CRule}, (∀ r ∈ rs, CRuleOk P r) → PrimOk P G pb g (primR rs g)
  | [], _ => fun _ _ _ _ _ _ _ _ _ _ hr _ _ _ => by cases hr
  | r :: rs, hok => by
    intro call N hcall ι h w args A v1 h1 hr hG S ha
    have ih := primR_ok (g := g) (rs := rs) (fun q hq => hok q (List.mem_cons_of_mem _ hq)) call N hcall ι h w args A v1 h1
    have hr : ifB (Nat.beq r.f g) (ifB (stOk r.st (curG h)) (ifB (eqAVL r.args args) (applyCR r h) ((primR rs g).run call N args h)) ((primR rs g).run call N args h)) ((primR rs g).run call N args h) = R2.ok v1 h1 := hr
    cases e1 : Nat.beq r.f g with
    | false => rw [e1] at hr; exact ih hr hG S ha
    | true =>
      rw [e1] at hr
      cases e2 : stOk r.st (curG h) with
      | false => rw [e2] at hr; exact ih hr hG S ha
      | true =>
        rw [e2] at hr
        cases e3 : eqAVL r.args args with
        | false => rw [e3] at hr; exact ih hr hG S ha
        | true =>
          rw [e3] at hr
          have hr : applyCR r h = R2.ok v1 h1 := hr
          obtain ⟨hd, hdr, hsx, hen, hc⟩ := hok r (List.mem_cons_self ..)
          obtain rfl := Nat.eq_of_beq_eq_true e1
          have ea := eqAVL_ok e3
          subst ea
          refine .inr ⟨hen A w, ?_⟩
          obtain ⟨f, args, st, eff, res⟩ := r
          cases st with
          | none =>
            have hsx2 : args.all statA = true ∧ statA res = true := by
              have hsx : (args.all statA && statA res) = true := hsx
              rwa [Bool.and_eq_true] at hsx
            refine Calls.mono (hc [] w A (fun _ hh => by cases hh) (stat_namesL ha hd hsx2.1)) fun e w' he => ?_
            cases eff with
            | none =>
              obtain ⟨u, rfl, e4, e5⟩ := he
              cases (show R2.ok res h = R2.ok v1 h1 from hr)
              obtain ⟨S1, g1⟩ := S.below e5
              exact ⟨u, rfl, ι, S1, stat_names e4 hdr hsx2.2, g1⟩
            | some k1 =>
              obtain ⟨_, _, _, _, _, hh, _⟩ := he
              cases hh
          | some k0 =>
            have hcc : curG h = some k0 := by
              have e2 : stOk (some k0) (curG h) = true := e2
              cases hcc : curG h with
              | none => rw [hcc] at e2; cases e2
              | some b => rw [hcc] at e2; rw [Nat.eq_of_beq_eq_true e2]
            obtain ⟨c1, c2⟩ := curG_ok hcc
            have hobj := S.obj 0 c1
            rw [c2] at hobj
            obtain ⟨σ, g1, g2, g3, g4, g5, g6⟩ := hobj
            have hN : NamesOf ι σ := ⟨g2, g3⟩
            refine Calls.mono (hc σ w A (fun k' hk => by cases hk; exact g1) (to_namesL hN ha hd)) fun e w' he => ?_
            cases eff with
            | none =>
              obtain ⟨u, rfl, e4, e5⟩ := he
              cases (show R2.ok res h = R2.ok v1 h1 from hr)
              obtain ⟨S1, q1⟩ := S.below e5
              exact ⟨u, rfl, ι, S1, of_names hN e4 hdr, q1⟩
            | some k1 =>
              obtain ⟨u, vs, k0', rfl, e4, e5, e6⟩ := he
              cases e5
              have hr : (h.put 0 (.ghost k1) fun h => R2.ok res h) = R2.ok v1 h1 := hr
              rw [H.put_eq] at hr
              cases hr
              obtain ⟨ι', s1, s2, s3, s4⟩ := S.ghost (k1 := k1) c1 c2 g2 g3 g4 g5 g6 e6
              exact ⟨u, rfl, ι', s1, of_names ⟨s3, s4⟩ e4 hdr, s2⟩
theorem primsR_ok {rs : List CRule} {fs : List FuncId} (hok : ∀ r ∈ rs, CRuleOk P r) {pb : FuncId → Bool} (g : FuncId) (p : FnC) (h : primsR rs fs g = some p) : PrimOk P G pb g p := by
  unfold primsR at h
  cases hm : memN g fs with
  | false => rw [hm] at h; cases h
  | true => rw [hm] at h; cases h; exact primR_ok hok
end

/-! ### From a state to another -/
section
variable {P : Program} {RT : List Rule} [RulesOk P RT] {G : Nat → AV} {prim : FuncId → Option FnC}
theorem H.gh_obj (k : Nat) : (H.gh k).obj 0 = .ghost k := TT.get_put_pth 5 _ 0 0 _ (by decide) (by decide) |>.trans (if_pos rfl)
open Classical in
theorem Sim.start {k : Nat} {σ : List Value} {w : World} (he : Env.ext k σ w) : ∃ ι, Sim ι (H.gh k) w ∧ NamesOf ι σ ∧ (∀ s l, ι 0 s = some l → Env.foot k σ l.b) ∧ (∀ g s, 0 < g → ι g s = none) := by
  obtain ⟨b0, hb0⟩ := Env.pos _ _ _ he
  have hlow := Env.low _ _ _ he
  let ι : Inj := fun g s => if g = 0 then (if s % 2 = 0 then (σ[s / 2]?).map (fun v => (⟨b0, 0, 0, 0, 0, v⟩ : Loc)) else if Env.foot k σ (s / 2) then some ⟨s / 2, 0, 0, 0, 0, undef⟩ else none) else none
  have ev : ∀ n, ι 0 (2 * n) = (σ[n]?).map (fun v => (⟨b0, 0, 0, 0, 0, v⟩ : Loc)) := fun n => by
    show (if (0 : Nat) = 0 then (if 2 * n % 2 = 0 then _ else _) else _) = _
    rw [if_pos rfl, if_pos (by omega), show 2 * n / 2 = n by omega]
  have od : ∀ n, ι 0 (2 * n + 1) = if Env.foot k σ n then some ⟨n, 0, 0, 0, 0, undef⟩ else none := fun n => by
    show (if (0 : Nat) = 0 then (if (2 * n + 1) % 2 = 0 then _ else _) else _) = _
    rw [if_pos rfl, if_neg (by omega), show (2 * n + 1) / 2 = n by omega]
  have hN : NamesOf ι σ := by
    refine ⟨fun n v hv => ⟨⟨b0, 0, 0, 0, 0, v⟩, by rw [ev, hv]; rfl, rfl⟩, fun n hn => by rw [ev, List.getElem?_eq_none hn]; rfl⟩
  have hfoot : ∀ s l, ι 0 s = some l → Env.foot k σ l.b ∧ l.d = 0 := by
    intro s l hl
    rcases Nat.mod_two_eq_zero_or_one s with h | h
    · have e : s = 2 * (s / 2) := by omega
      rw [e, ev] at hl
      cases hv : σ[s / 2]? with
      | none => rw [hv] at hl; cases hl
      | some v => rw [hv] at hl; cases hl; exact ⟨hb0, rfl⟩
    · have e : s = 2 * (s / 2) + 1 := by omega
      rw [e, od] at hl
      split at hl
      · cases hl; exact ⟨by assumption, rfl⟩
      · cases hl
  have hout : ∀ g s, 0 < g → ι g s = none := fun g s hg => if_neg (by omega)
  have h0 : ∀ g s l, ι g s = some l → g = 0 := fun g s l hl => by
    rcases Nat.eq_zero_or_pos g with h | h
    · exact h
    · rw [hout g s h] at hl; cases hl
  refine ⟨ι, ⟨by show 1 ≤ 32768; omega, fun g s hg => hout g s hg, fun g s l g' s' l' h1 h2 _ => ?_, fun g s l hl => ?_, fun g hg => ?_⟩, hN, fun s l hl => (hfoot s l hl).1, hout⟩
  · obtain rfl := h0 _ _ _ h1
    obtain rfl := h0 _ _ _ h2
    exact ⟨rfl, (hfoot _ _ h1).2.trans (hfoot _ _ h2).2.symm⟩
  · obtain rfl := h0 _ _ _ hl
    exact hlow _ (hfoot _ _ hl).1
  · have hg : g < 1 := hg
    obtain rfl : g = 0 := by omega
    rw [H.gh_obj]
    refine ⟨σ, he, hN.1, hN.2, fun b hb => ⟨⟨b, 0, 0, 0, 0, undef⟩, by rw [od, if_pos hb], rfl⟩, fun s l hl => (hfoot s l hl).2, fun b l hl => ?_⟩
    rw [od] at hl
    split at hl
    · cases hl; rfl
    · cases hl
theorem H.gh_nx (k : Nat) : (H.gh k).nx = 1 := rfl
/-- What a run leaves, told by states. -/
theorem Sim.finish {k k1 : Nat} {σ : List Value} {w w1 : World} {ι ι1 : Inj} {h1 : H} (hN : NamesOf ι σ) (hf : ∀ s l, ι 0 s = some l → Env.foot k σ l.b) (h0 : ∀ g s, 0 < g → ι g s = none) (S1 : Sim ι1 h1 w1) (g : Grows ι (H.gh k) w ι1 h1 w1) (hk : curG h1 = some k1) :
    ∃ vs, NamesOf ι1 (σ ++ vs) ∧ Eff k σ w k1 (σ ++ vs) w1 ∧ ∀ b, Env.foot k1 (σ ++ vs) b → ∃ s l, ι1 0 s = some l ∧ l.b = b := by
  obtain ⟨c1, c2⟩ := curG_ok hk
  have hobj := S1.obj 0 c1
  rw [c2] at hobj
  obtain ⟨σ1, g1, g2, g3, g4, g5, g6⟩ := hobj
  have hN1 : NamesOf ι1 σ1 := ⟨g2, g3⟩
  have hpre : σ <+: σ1 := by
    have hget : ∀ (n : Nat) (v : Value), σ[n]? = some v → σ1[n]? = some v := by
      intro n v hv
      obtain ⟨l, q1, q2⟩ := hN.1 n v hv
      rw [hN1.get (g.ext _ _ _ q1), q2]
    rw [List.prefix_iff_eq_take]
    apply List.ext_getElem?
    intro n
    by_cases hn : n < σ.length
    · rw [List.getElem?_take_of_lt hn, hget n σ[n] (by simp [hn])]
      simp [hn]
    · rw [List.getElem?_eq_none (by omega), List.getElem?_eq_none (by simp; omega)]
  obtain ⟨vs, rfl⟩ := hpre
  refine ⟨vs, hN1, ⟨g1, g.size, fun b hb hnf => g.keep b hb fun g' s l hg' hw hl hh => ?_, fun b hb => ?_, g.streams⟩, fun b hb => ?_⟩
  · have hg' : g' < 1 := hg'
    obtain rfl : g' = 0 := by omega
    exact hnf (hh ▸ hf s l hl)
  · obtain ⟨l, q1, q2⟩ := g4 b hb
    cases hi : ι 0 (2 * b + 1) with
    | some l0 =>
      have := g.ext _ _ _ hi
      rw [q1] at this
      cases this
      exact .inl (q2 ▸ hf _ _ hi)
    | none =>
      rcases g.fresh _ _ _ q1 hi with q | ⟨s0, l0, q3, q4, _⟩
      · exact .inr (q2 ▸ q)
      · exact .inl (by rw [← q2, ← q4]; exact hf _ _ q3)
  · obtain ⟨l, q1, q2⟩ := g4 b hb
    exact ⟨_, l, q1, q2⟩
/-- A call that the interpreter runs, from a state to another. -/
theorem state_calls (hnum : ∀ g fn, P.funcs[g]? = some fn → prim g = none → fn.name ≠ "runtime.NumGoroutine") (hprim : ∀ g p, prim g = some p → PrimOk P rawG (fun g => (prim g).isSome) g p) {f : FuncId} (hp : prim f = none) {k k1 : Nat} {σ : List Value} {w : World} {avs : List AV} {A : Array Value}
    (he : Env.ext k σ w) (ha : RVL (names σ) avs A.toList) (hd : detL avs = true) (N n : Nat) {v : AV} {h1 : H} (hrun : callN ⟨P, rawG, RT⟩ prim N n (.fn f [] []) avs (H.gh k) = .ok v h1) (hk : curG h1 = some k1) (hv : detA v = true) :
    Calls P f A w fun e w1 => ∃ u vs, e = .returned u ∧ RV (names (σ ++ vs)) v u ∧ Eff k σ w k1 (σ ++ vs) w1 := by
  obtain ⟨ι, S, hN, hf, h0⟩ := Sim.start he
  rcases callN_ok hnum hprim N n ι (H.gh k) w _ _ avs A v h1 hrun (rawG_ok ι) S (.fn (x := #[]) (y := #[]) .nil .nil) (of_namesL hN ha hd) with ⟨f', first, caps, e, hres⟩ | ⟨l, f', tmps, as, bd, e, _⟩
  · injection e with e1 e2 e3
    injection e1 with e1
    subst e1 e2 e3
    rcases hres with ⟨_, _, hpb, _⟩ | ⟨_, hc⟩
    · simp [hp] at hpb
    · simp only [Array.append_empty, Array.empty_append] at hc
      refine Calls.mono hc fun e w1 he => ?_
      obtain ⟨u, rfl, ι1, S1, hvv, g1⟩ := he
      obtain ⟨vs, q1, q2, _⟩ := Sim.finish hN hf h0 S1 g1 hk
      exact ⟨u, vs, rfl, to_names q1 hvv hv, q2⟩
  · injection e with e1
    cases e1
/-- A call that the interpreter runs, no memory in sight. -/
theorem plain_calls (hnum : ∀ g fn, P.funcs[g]? = some fn → prim g = none → fn.name ≠ "runtime.NumGoroutine") (hprim : ∀ g p, prim g = some p → PrimOk P rawG (fun g => (prim g).isSome) g p) {f : FuncId} (hp : prim f = none) {w : World} {avs : List AV} {A : Array Value}
    (ha : RVL (names []) avs A.toList) (hd : detL avs = true) (N n : Nat) {v : AV} {h1 : H} (hrun : callN ⟨P, rawG, RT⟩ prim N n (.fn f [] []) avs H.empty = .ok v h1) (hv : detA v = true) (hsv : statA v = true) :
    Calls P f A w fun e w1 => ∃ u, e = .returned u ∧ RV (names []) v u ∧ RowKit.Below w.heap.size w w1 := by
  refine Calls.mono (runs_ok hnum hprim hp (rawG_ok _) (Sim.empty w) (fun g hg => absurd hg (Nat.not_lt_zero g)) (of_namesL names_nil ha hd) N n hrun) fun e w1 he => ?_
  obtain ⟨u, ι1, e1, e2, e3, e4⟩ := he
  exact ⟨u, e1, stat_names e3 hv hsv, e4⟩
end
/-! ### How rules are shown -/
section
variable {P : Program}
/-- What an abstract value stands for, whatever memory is. -/
structure Is (a : AV) (u : Value) : Prop where
  det : detA a = true
  stat : statA a = true
  to : ∀ ι, RV ι a u
  only : ∀ ι u', RV ι a u' → u' = u
theorem Is.int (k : IntKind) (n : Int) : Is (.int k n) (.int k n) := ⟨rfl, rfl, fun ι => .int k n, fun ι u' h => by cases h; rfl⟩
theorem Is.bool (b : Bool) : Is (.bool b) (.bool b) := ⟨rfl, rfl, fun ι => .bool b, fun ι u' h => by cases h; rfl⟩
theorem Is.nulp : Is (.nul .p) (.pointer none) := ⟨rfl, rfl, fun ι => .nulp, fun ι u' h => by cases h; rfl⟩
theorem Is.nuls : Is (.nul .s) (.slice none 0 0) := ⟨rfl, rfl, fun ι => .nuls, fun ι u' h => by cases h; rfl⟩
theorem Is.fn (f : FuncId) : Is (.fn f [] []) (.func (.func f) #[] #[]) := ⟨rfl, rfl, fun ι => .fn (x := #[]) (y := #[]) .nil .nil, fun ι u' h => by
  cases h with
  | @fn _ _ _ x y h1 h2 =>
    have e1 : x = #[] := by have := h1.length; apply Array.eq_empty_of_size_eq_zero; simpa using this.symm
    have e2 : y = #[] := by have := h2.length; apply Array.eq_empty_of_size_eq_zero; simpa using this.symm
    rw [e1, e2]⟩
theorem Is.sx {n : Nat} {u : Value} (h : Env.v n = u) (ho : rawOne u = true) : Is (.sx 1 n) u := by
  subst h
  exact ⟨rfl, rfl, fun ι => .sx1 n ho, fun ι u' h => by cases h; rfl⟩
theorem Is.raw (v : Value) : Is (.raw v) v := ⟨rfl, rfl, fun ι => .raw v, fun ι u' h => by cases h; rfl⟩
theorem encB_inj : ∀ (l m : List UInt8), l.length = m.length → encB l 0 = encB m 0 → l = m := by
  have key : ∀ (l m : List UInt8) (a b : Nat), l.length = m.length → encB l a = encB m b → l = m ∧ a = b := by
    intro l
    induction l with
    | nil =>
      intro m a b hl h
      cases m with
      | nil => exact ⟨rfl, h⟩
      | cons _ _ => cases hl
    | cons c l ih =>
      intro m a b hl h
      cases m with
      | nil => cases hl
      | cons d m =>
        have h : forceN (Nat.add (Nat.mul a 256) c.toNat) (encB l) = forceN (Nat.add (Nat.mul b 256) d.toNat) (encB m) := h
        rw [forceN_eq, forceN_eq] at h
        obtain ⟨h1, h2⟩ := ih m _ _ (by simpa using hl) h
        have h3 : a * 256 + c.toNat = b * 256 + d.toNat := h2
        have hc := c.toNat_lt
        have hd := d.toNat_lt
        refine ⟨?_, by omega⟩
        rw [h1, show c = d from UInt8.toNat_inj.1 (by omega)]
  exact fun l m hl h => (key l m 0 0 hl h).1
theorem Is.str (s : ByteArray) (n u : Nat) (hn : s.size = n) (hu : encS s = u) : Is (.str n u) (.string s) := by
  subst hn hu
  refine ⟨rfl, rfl, fun ι => .str s, fun ι u' h => ?_⟩
  generalize hn : s.size = n at h
  generalize hu : encS s = m at h
  cases h with
  | str t =>
    have h1 : t.data.toList = s.data.toList := encB_inj _ _ (by simpa using hn.symm) hu.symm
    have h2 : t.data = s.data := Array.toList_inj.1 h1
    cases t; cases s; cases h2; rfl
/-- An operation that reads no memory. -/
theorem rule1 {so : SOp} {x r : AV} {u z : Value} (hx : Is x u) (hr : Is r z) (hg : guardL so [u] = true) (ha : ∀ t q, so ≠ .app t q) (hrun : ∀ w, (so.sem [u]).run P w = .ok (.value z) w) : RuleOk P ⟨so, [x], none, none, r⟩ := by
  refine ⟨by simp [detL, hx.det], hr.det, by simp [hx.stat, hr.stat], fun σ w us _ hu => ?_⟩
  cases hu with
  | cons h1 h2 =>
    cases h2
    cases hx.only _ _ h1
    refine ⟨hg, ?_⟩
    cases so <;> first | exact absurd rfl (ha _ _) | exact ⟨z, hrun w, hr.to _⟩
theorem rule2 {so : SOp} {x y r : AV} {u v z : Value} (hx : Is x u) (hy : Is y v) (hr : Is r z) (hg : guardL so [u, v] = true) (ha : ∀ t q, so ≠ .app t q) (hrun : ∀ w, (so.sem [u, v]).run P w = .ok (.value z) w) : RuleOk P ⟨so, [x, y], none, none, r⟩ := by
  refine ⟨by simp [detL, hx.det, hy.det], hr.det, by simp [hx.stat, hy.stat, hr.stat], fun σ w us _ hu => ?_⟩
  cases hu with
  | cons h1 h2 =>
    cases h2 with
    | cons h2 h3 =>
      cases h3
      cases hx.only _ _ h1
      cases hy.only _ _ h2
      refine ⟨hg, ?_⟩
      cases so <;> first | exact absurd rfl (ha _ _) | exact ⟨z, hrun w, hr.to _⟩
theorem rule3 {so : SOp} {x y y' r : AV} {u v v' z : Value} (hx : Is x u) (hy : Is y v) (hy' : Is y' v') (hr : Is r z) (hg : guardL so [u, v, v'] = true) (ha : ∀ t q, so ≠ .app t q) (hrun : ∀ w, (so.sem [u, v, v']).run P w = .ok (.value z) w) : RuleOk P ⟨so, [x, y, y'], none, none, r⟩ := by
  refine ⟨by simp [detL, hx.det, hy.det, hy'.det], hr.det, by simp [hx.stat, hy.stat, hy'.stat, hr.stat], fun σ w us _ hu => ?_⟩
  cases hu with
  | cons h1 h2 =>
    cases h2 with
    | cons h2 h3 =>
      cases h3 with
      | cons h3 h4 =>
        cases h4
        cases hx.only _ _ h1
        cases hy.only _ _ h2
        cases hy'.only _ _ h3
        refine ⟨hg, ?_⟩
        cases so <;> first | exact absurd rfl (ha _ _) | exact ⟨z, hrun w, hr.to _⟩
/-- A load in a state. -/
theorem rule_load {t : TypeId} {k : Nat} {x r : AV} {p : Value} (hx : Is x p) (hd : detA r = true) (hrun : ∀ σ w, Env.ext k σ w → ∃ z, (Instr.loadAt t p).run P w = .ok z w ∧ RV (names σ) r z) : RuleOk P ⟨.load t, [x], some k, none, r⟩ := by
  refine ⟨by simp [detL, hx.det], hd, rfl, fun σ w us he hu => ?_⟩
  cases hu with
  | cons h1 h2 =>
    cases h2
    cases hx.only _ _ h1
    obtain ⟨z, h3, h4⟩ := hrun σ w (he k rfl)
    exact ⟨rfl, z, by simp only [SOp.sem, Sem.run_bind, h3, Result.andThen, Sem.run_pure], h4⟩
/-- A store from a state to another; what is stored is told by names, or lies in sight. -/
theorem rule_store {t : TypeId} {k k1 : Nat} {x y : AV} {p : Value} (hx : Is x p) (hd : detA y = true) (hrun : ∀ σ w u, Env.ext k σ w → RV (names σ) y u → ∃ w' vs, (Instr.storeAt t p u).run P w = .ok () w' ∧ Eff k σ w k1 (σ ++ vs) w') : RuleOk P ⟨.store t, [x, y], some k, some k1, undefA⟩ := by
  refine ⟨by simp [detL, hx.det, hd], rfl, rfl, fun σ w us he hu => ?_⟩
  cases hu with
  | cons h1 h2 =>
    cases h2 with
    | cons h2 h3 =>
      cases h3
      cases hx.only _ _ h1
      obtain ⟨w', vs, h4, h5⟩ := hrun σ w _ (he k rfl) h2
      exact ⟨rfl, .skip, w', vs, k, by simp only [SOp.sem, Sem.run_bind, h4, Result.andThen, Sem.run_pure], .inr ⟨rfl, rfl⟩, rfl, h5⟩

/-! Numbers, strings. -/
theorem fits_i64 {n : Int} (h1 : -9223372036854775808 ≤ n) (h2 : n ≤ 9223372036854775807) : IntKind.wrap .i64 n = n := by
  unfold IntKind.wrap; simp [IntKind.signed, IntKind.bits]; omega
theorem rule_add {x y r : AV} {a b c : Int} (t : TypeId) (hx : Is x (.int .i64 a)) (hy : Is y (.int .i64 b)) (hr : Is r (.int .i64 c)) (hc : a + b = c) (h1 : -9223372036854775808 ≤ c) (h2 : c ≤ 9223372036854775807) : RuleOk P ⟨.bin .add t, [x, y], none, none, r⟩ :=
  rule2 hx hy hr rfl (fun _ _ h => by cases h) fun w => by
    subst hc
    simp only [SOp.sem, binOp, ne_eq, not_true, if_false, Op.intArith, fits_i64 h1 h2, Sem.run_bind, Sem.run_pure, Result.andThen]
theorem rule_sub {x y r : AV} {a b c : Int} (t : TypeId) (hx : Is x (.int .i64 a)) (hy : Is y (.int .i64 b)) (hr : Is r (.int .i64 c)) (hc : a - b = c) (h1 : -9223372036854775808 ≤ c) (h2 : c ≤ 9223372036854775807) : RuleOk P ⟨.bin .sub t, [x, y], none, none, r⟩ :=
  rule2 hx hy hr rfl (fun _ _ h => by cases h) fun w => by
    subst hc
    simp only [SOp.sem, binOp, ne_eq, not_true, if_false, Op.intArith, fits_i64 h1 h2, Sem.run_bind, Sem.run_pure, Result.andThen]
/-- How two numbers of a kind stand to one another. -/
def cmpI (op : BinOp) (a b : Int) : Option Bool := match op with
  | .eql => some (decide (a = b)) | .neq => some (!decide (a = b)) | .lss => some (decide (a < b)) | .leq => some (decide (a ≤ b)) | .gtr => some (decide (b < a)) | .geq => some (decide (b ≤ a)) | _ => none
theorem rule_cmp {x y : AV} {a b : Int} {k : IntKind} {op : BinOp} {c : Bool} (t : TypeId) (hx : Is x (.int k a)) (hy : Is y (.int k b)) (hc : cmpI op a b = some c) : RuleOk P ⟨.bin op t, [x, y], none, none, .bool c⟩ :=
  rule2 hx hy (Is.bool c) rfl (fun _ _ h => by cases h) fun w => by
    cases op <;> first | (cases hc; done) | (simp only [cmpI, Option.some.injEq] at hc; subst hc; simp only [SOp.sem, binOp, ne_eq, not_true, if_false, Op.intCmp, Sem.run_bind, Sem.run_pure, Result.andThen]; try rfl)
theorem rule_nck {x : AV} {a : Addr} (hx : Is x (.pointer (some a))) : RuleOk P ⟨.nck, [x], none, none, x⟩ :=
  rule1 hx hx rfl (fun _ _ h => by cases h) fun w => rfl
theorem rule_len {x r : AV} {s : ByteArray} {t : TypeId} (ht : P.underlying t = some .string) (hx : Is x (.string s)) (hr : Is r (.int .i64 (s.size : Int))) : RuleOk P ⟨.len t, [x], none, none, r⟩ :=
  rule1 hx hr rfl (fun _ _ h => by cases h) fun w => by
    simp only [SOp.sem, Builtin.len_, List.getElem?_toArray, List.getElem?_cons_zero, Sem.run_bind, underlying_run ht, Result.andThen, Sem.run_pure]
    rfl
theorem rule_lenS {x r : AV} {b : Option Addr} {n c : Nat} {t e : TypeId} (ht : P.underlying t = some (.slice e)) (hx : Is x (.slice b n c)) (hr : Is r (.int .i64 (n : Int))) : RuleOk P ⟨.len t, [x], none, none, r⟩ :=
  rule1 hx hr rfl (fun _ _ h => by cases h) fun w => by
    simp only [SOp.sem, Builtin.len_, List.getElem?_toArray, List.getElem?_cons_zero, Sem.run_bind, underlying_run ht, Result.andThen, Sem.run_pure]
    rfl
theorem rule_idx {x y r : AV} {s : ByteArray} {i : Nat} {c : UInt8} {k : IntKind} {t : TypeId} (ht : P.underlying t = some .string) (hx : Is x (.string s)) (hy : Is y (.int k (i : Int))) (hc : s[i]? = some c) (hr : Is r (.int .u8 (c.toNat : Int))) : RuleOk P ⟨.idx t, [x, y], none, none, r⟩ :=
  rule2 hx hy hr rfl (fun _ _ h => by cases h) fun w => by
    have h0 : (0 : Int) ≤ (i : Int) := Int.natCast_nonneg i
    simp only [SOp.sem, Instr.index, asIntOf, Sem.run_bind, underlying_run ht, Result.andThen, Sem.run_pure, h0, if_true, Int.toNat_natCast, hc]
theorem rule_slc1 {x y r : AV} {s : ByteArray} {i : Nat} {k : IntKind} {t : TypeId} (ht : P.underlying t = some .string) (hx : Is x (.string s)) (hy : Is y (.int k (i : Int))) (hi : i ≤ s.size) (hr : Is r (.string (s.extract i s.size))) : RuleOk P ⟨.slc t 1, [x, y], none, none, r⟩ :=
  rule2 hx hy hr rfl (fun _ _ h => by cases h) fun w => by
    have h0 : (0 : Int) ≤ (i : Int) ∧ (i : Int) ≤ (s.size : Int) := ⟨Int.natCast_nonneg i, by omega⟩
    simp only [SOp.sem, Instr.sliceAt, Instr.slice, Instr.sliceBounds, Instr.sliceBound, asIntOf, Sem.run_bind, underlying_run ht, Result.andThen, Sem.run_pure, Option.isSome_none, Bool.false_eq_true, if_false, h0, and_self, if_true, Int.toNat_natCast]
theorem rule_slc2 {x y r : AV} {s : ByteArray} {j : Nat} {k : IntKind} {t : TypeId} (ht : P.underlying t = some .string) (hx : Is x (.string s)) (hy : Is y (.int k (j : Int))) (hj : j ≤ s.size) (hr : Is r (.string (s.extract 0 j))) : RuleOk P ⟨.slc t 2, [x, y], none, none, r⟩ :=
  rule2 hx hy hr rfl (fun _ _ h => by cases h) fun w => by
    have h0 : (0 : Int) ≤ (j : Int) ∧ (j : Int) ≤ (s.size : Int) := ⟨Int.natCast_nonneg j, by omega⟩
    simp only [SOp.sem, Instr.sliceAt, Instr.slice, Instr.sliceBounds, Instr.sliceBound, asIntOf, Sem.run_bind, underlying_run ht, Result.andThen, Sem.run_pure, Option.isSome_none, Bool.false_eq_true, if_false, h0, and_self, if_true, Int.toNat_natCast]
theorem rule_slc3 {x y y' r : AV} {s : ByteArray} {i j : Nat} {k k' : IntKind} {t : TypeId} (ht : P.underlying t = some .string) (hx : Is x (.string s)) (hy : Is y (.int k (i : Int))) (hy' : Is y' (.int k' (j : Int))) (hij : i ≤ j) (hj : j ≤ s.size) (hr : Is r (.string (s.extract i j))) : RuleOk P ⟨.slc t 3, [x, y, y'], none, none, r⟩ :=
  rule3 hx hy hy' hr rfl (fun _ _ h => by cases h) fun w => by
    have h0 : (0 : Int) ≤ (j : Int) ∧ (j : Int) ≤ (s.size : Int) := ⟨Int.natCast_nonneg j, by omega⟩
    have h1 : (0 : Int) ≤ (i : Int) ∧ (i : Int) ≤ (j : Int) := ⟨Int.natCast_nonneg i, by omega⟩
    simp only [SOp.sem, Instr.sliceAt, Instr.slice, Instr.sliceBounds, Instr.sliceBound, asIntOf, Sem.run_bind, underlying_run ht, Result.andThen, Sem.run_pure, Option.isSome_none, Bool.false_eq_true, if_false, h0, h1, and_self, if_true, Int.toNat_natCast]
theorem rule_strcmp {x y : AV} {s s' : ByteArray} {op : BinOp} {c : Bool} (t : TypeId) (hx : Is x (.string s)) (hy : Is y (.string s')) (hc : (op = .eql ∧ (s == s') = c) ∨ (op = .neq ∧ (!(s == s')) = c)) : RuleOk P ⟨.bin op t, [x, y], none, none, .bool c⟩ :=
  rule2 hx hy (Is.bool c) rfl (fun _ _ h => by cases h) fun w => by
    have e : (s.toList == s'.toList) = (s == s') := by
      rw [toList_eq, toList_eq, ← eqS_ok, size_eq, size_eq, ← encS_eq, ← encS_eq, beqS_ok]
    rcases hc with ⟨rfl, rfl⟩ | ⟨rfl, rfl⟩ <;> simp only [SOp.sem, binOp, Op.stringOp, e, Sem.run_bind, Sem.run_pure, Result.andThen]
theorem rule_cat {x y r : AV} {s s' : ByteArray} (t : TypeId) (hx : Is x (.string s)) (hy : Is y (.string s')) (hr : Is r (.string (s ++ s'))) (hsz : s.size + s'.size ≤ 9223372036854775807) : RuleOk P ⟨.bin .add t, [x, y], none, none, r⟩ :=
  rule2 hx hy hr rfl (fun _ _ h => by cases h) fun w => by
    have e : ¬ ((s.size + s'.size : Nat) : Int) > IntKind.i64.max := by
      have e1 : IntKind.i64.max = 9223372036854775807 := rfl
      rw [e1]; omega
    simp only [SOp.sem, binOp, Op.stringOp, if_neg e, Sem.run_bind, Sem.run_pure, Result.andThen]
theorem rule_fldA {x r : AV} {b o m : Nat} {t : TypeId} {fs : Array Field} {d : Field} {i : TypeInfo} (n : Nat) (ht : P.underlying t = some (.struct fs)) (hf : fs[n]? = some d) (hi : P.info? d.type = some i) (hs : i.size ≠ 0) (hx : Is x (.pointer (some ⟨b, o, none⟩))) (hm : o + d.offset = m) (hr : Is r (.pointer (some ⟨b, m, none⟩))) : RuleOk P ⟨.fldA t n, [x], none, none, r⟩ :=
  rule1 hx hr rfl (fun _ _ h => by cases h) fun w => by
    subst hm
    simp only [SOp.sem, Instr.fieldAt, Sem.run_bind, underlying_run ht, hf, Instr.sureAddr, Sem.run_pure, Result.andThen, fieldPlace, sizeOf_run hi, if_neg hs, add_addr]
end
/-! ### Rows of values -/
section
inductive IsL : List AV → List Value → Prop
  | nil : IsL [] []
  | cons {a : AV} {u : Value} {l : List AV} {us : List Value} : Is a u → IsL l us → IsL (a :: l) (u :: us)
theorem IsL.det : ∀ {l : List AV} {us : List Value}, IsL l us → detL l = true
  | _, _, .nil => rfl
  | _, _, .cons h1 h2 => by
    have := IsL.det h2
    simp only [detL, List.all_cons, Bool.and_eq_true] at this ⊢
    exact ⟨h1.det, this⟩
theorem IsL.stat : ∀ {l : List AV} {us : List Value}, IsL l us → l.all statA = true
  | _, _, .nil => rfl
  | _, _, .cons h1 h2 => by
    have := IsL.stat h2
    simp only [List.all_cons, Bool.and_eq_true] at this ⊢
    exact ⟨h1.stat, this⟩
theorem IsL.to (ι : Inj) : ∀ {l : List AV} {us : List Value}, IsL l us → RVL ι l us
  | _, _, .nil => .nil
  | _, _, .cons h1 h2 => .cons (h1.to ι) (IsL.to ι h2)
theorem IsL.only (ι : Inj) : ∀ {l : List AV} {us us' : List Value}, IsL l us → RVL ι l us' → us' = us
  | _, _, _, .nil, .nil => rfl
  | _, _, _, .cons h1 h2, .cons g1 g2 => by rw [h1.only ι _ g1, IsL.only ι h2 g2]
theorem Is.agg {l : List AV} {us : List Value} (h : IsL l us) (hd : l.all det1 = true) (hs : l.all stat1 = true) : Is (.agg l) (.agg us.toArray) :=
  ⟨hd, hs, fun ι => .agg (h.to ι), fun ι u' h' => by
    cases h' with
    | @agg _ x hx =>
      have := h.only ι hx
      rw [← this]⟩
theorem Is.tup {l : List AV} {us : List Value} (h : IsL l us) (hd : l.all det1 = true) (hs : l.all stat1 = true) : Is (.tup l) (.tuple us.toArray) :=
  ⟨hd, hs, fun ι => .tup (h.to ι), fun ι u' h' => by
    cases h' with
    | @tup _ x hx =>
      have := h.only ι hx
      rw [← this]⟩
end
/-! ### Loads and stores of one block -/
section
variable {P : Program}
theorem loadAt_cell {t : TypeId} (ha : (Ty.mk P rawG []).aggB t = some false) {w : World} {b o : Nat} {C : Array Value} {el : TypeId} {fr : Nat × Nat} {u : Value} (hw : w.heap[b]? = some (.cells C el fr)) (hc : C[o]? = some u) : (Instr.loadAt t (.pointer (some ⟨b, o, none⟩))).run P w = .ok u w := by
  obtain ⟨h1, i, h2, h3⟩ := aggB_run (P := P) (w := w) ha
  simp only [Instr.loadAt, Instr.sureAddr, loadVar, Sem.run_bind, Sem.run_pure, Result.andThen, h1, Bool.false_eq_true, if_false, load_run hw hc]
theorem loadAt_row {t : TypeId} {n : Nat} (ha : (Ty.mk P rawG []).aggB t = some true) (hn : (Ty.mk P rawG []).size t = n) {w : World} {b o : Nat} {C : Array Value} {el : TypeId} {fr : Nat × Nat} (hw : w.heap[b]? = some (.cells C el fr)) (hc : o + n ≤ C.size) : (Instr.loadAt t (.pointer (some ⟨b, o, none⟩))).run P w = .ok (.agg (C.extract o (o + n))) w := by
  obtain ⟨h1, i, h2, h3⟩ := aggB_run (P := P) (w := w) ha
  have h4 : (loadCells ⟨b, o, none⟩ n).run P w = .ok (C.extract o (o + n)) w := by
    have := loadCells_run (P := P) hw o n 0 #[] (by omega)
    unfold loadCells
    simpa using this
  rw [← hn, h3] at h4
  have e : C.extract o (o + i.size) = C.extract o (o + n) := by rw [← h3, hn]
  simp only [Instr.loadAt, Instr.sureAddr, loadVar, Sem.run_bind, Sem.run_pure, Result.andThen, h1, if_true, sizeOf_run h2, h4]
  rw [e]
theorem storeAt_cell {t : TypeId} {i : TypeInfo} (hi : P.info? t = some i) (h1 : i.size = 1) {w : World} {b o : Nat} {C : Array Value} {el : TypeId} {u : Value} {fr : Nat × Nat} (hw : w.heap[b]? = some (.cells C el fr)) (hop : Open2 fr) (ho : o < C.size) (hu : rawOne u = true) :
    (Instr.storeAt t (.pointer (some ⟨b, o, none⟩)) u).run P w = .ok () { w with heap := w.heap.setIfInBounds b (.cells (C.setIfInBounds o u) el fr) } := by
  have hcells := one_cells hu
  have h2 : (storeCells ⟨b, o, none⟩ [u]).run P w = .ok () { w with heap := w.heap.setIfInBounds b (.cells (C.setIfInBounds o u) el fr) } := by
    have := storeCells_run (P := P) [u] 0 hw o (by simp; omega) (fun j _ _ => hop j) (fun v hv => by simp at hv; subst hv; exact one_raw hu)
    simpa [putL] using this
  simp only [Instr.storeAt, Instr.sureAddr, storeVar, Sem.run_bind, Sem.run_pure, Result.andThen, sizeOf_run hi, hcells, h1, List.size_toArray, List.length_cons, List.length_nil, Nat.zero_add, ne_eq, not_true, if_false]
  exact h2
end
/-! ### Comparisons, one by one -/
section
theorem cmp_eqlT {a b : Int} (h : a = b) : cmpI .eql a b = some true := congrArg some (decide_eq_true h)
theorem cmp_eqlF {a b : Int} (h : a ≠ b) : cmpI .eql a b = some false := congrArg some (decide_eq_false h)
theorem cmp_neqT {a b : Int} (h : a ≠ b) : cmpI .neq a b = some true := congrArg (fun b => some (!b)) (decide_eq_false h)
theorem cmp_neqF {a b : Int} (h : a = b) : cmpI .neq a b = some false := congrArg (fun b => some (!b)) (decide_eq_true h)
theorem cmp_lssT {a b : Int} (h : a < b) : cmpI .lss a b = some true := congrArg some (decide_eq_true h)
theorem cmp_lssF {a b : Int} (h : ¬ a < b) : cmpI .lss a b = some false := congrArg some (decide_eq_false h)
theorem cmp_leqT {a b : Int} (h : a ≤ b) : cmpI .leq a b = some true := congrArg some (decide_eq_true h)
theorem cmp_leqF {a b : Int} (h : ¬ a ≤ b) : cmpI .leq a b = some false := congrArg some (decide_eq_false h)
theorem cmp_gtrT {a b : Int} (h : b < a) : cmpI .gtr a b = some true := congrArg some (decide_eq_true h)
theorem cmp_gtrF {a b : Int} (h : ¬ b < a) : cmpI .gtr a b = some false := congrArg some (decide_eq_false h)
theorem cmp_geqT {a b : Int} (h : b ≤ a) : cmpI .geq a b = some true := congrArg some (decide_eq_true h)
theorem cmp_geqF {a b : Int} (h : ¬ b ≤ a) : cmpI .geq a b = some false := congrArg some (decide_eq_false h)
/-- Where a field lies. -/
def fldOff (P : Program) (t : TypeId) (n : Nat) : Option Nat := match P.underlying t with
  | some (.struct fs) => (match fs[n]? with | some d => (match P.info? d.type with | some i => bif Nat.beq i.size 0 then none else some d.offset | none => none) | none => none)
  | _ => none
theorem rule_fld {P : Program} {x r : AV} {b o m d : Nat} {t : TypeId} (n : Nat) (hd : fldOff P t n = some d) (hx : Is x (.pointer (some ⟨b, o, none⟩))) (hm : o + d = m) (hr : Is r (.pointer (some ⟨b, m, none⟩))) : RuleOk P ⟨.fldA t n, [x], none, none, r⟩ := by
  unfold fldOff at hd
  split at hd
  · rename_i fs ht
    split at hd
    · rename_i d' hf
      split at hd
      · rename_i i hi
        cases hs : Nat.beq i.size 0 with
        | true => rw [hs] at hd; cases hd
        | false =>
          rw [hs] at hd
          have e : d'.offset = d := Option.some.inj hd
          subst e
          exact rule_fldA n ht hf hi (fun hh => by rw [hh] at hs; cases hs) hx hm hr
      · cases hd
    · cases hd
  · cases hd
end
/-! ### Pieces of code, from a state to another -/
section
variable {P : Program}
theorem DefF.toL {lo : Nat} {F : Nat → Prop} {w : World} {ι : Inj} (hι : ∀ g s l, ι g s = some l → F l.b) : ∀ {ds : List Deferred}, DefF lo F w ds → DefL lo ι w ds
  | _, .nil => .nil
  | _, .cons h1 h2 h3 h4 h5 h6 h7 => .cons h1 h2 h3 h4 (fun g s l hl e => h5 (e ▸ hι g s l hl)) h6 (DefF.toL hι h7)
theorem DefL.toF {lo : Nat} {F : Nat → Prop} {w : World} {ι : Inj} (hι : ∀ b, F b → ∃ g s l, ι g s = some l ∧ l.b = b) : ∀ {ds : List Deferred}, DefL lo ι w ds → DefF lo F w ds
  | _, .nil => .nil
  | _, .cons h1 h2 h3 h4 h5 h6 h7 => .cons h1 h2 h3 h4 (fun hf => by obtain ⟨g, s, l, q1, q2⟩ := hι _ hf; exact h5 g s l q1 q2) h6 (DefL.toF hι h7)
/-- Between two pieces of code: the state, the frame, what stands deferred. -/
structure At (nt lo k : Nat) (σ : List Value) (fr : List AV) (a : Act) (w : World) : Prop where
  ext : Env.ext k σ w
  frame : RVL (names σ) fr a.tmps.toList
  size : a.tmps.size = nt
  low : lo ≤ w.heap.size
  defs : DefF lo (Env.foot k σ) w a.defers
variable {RT : List Rule} [RulesOk P RT] {prim : FuncId → Option FnC}
/-- The temporaries of a frame, as far as names tell them. -/
def frL (nt : Nat) (f : Fr) : List AV := (List.range nt).map fun t => (fun v => bif detA v then v else .sx 0 0) ((getC t).run f)
theorem frL_rv {ι : Inj} {σ : List Value} (hN : NamesOf ι σ) {nt : Nat} {f : Fr} {tmps : Array Value} (F : FrameRel nt ι f tmps) : RVL (names σ) (frL nt f) tmps.toList := by
  have key : ∀ (n i : Nat) (us : List Value), (∀ j, j < us.length → us[j]? = some (tmps.getD (i + j) undef)) → us.length = n → i + n ≤ nt →
      RVL (names σ) ((List.range' i n).map fun t => (fun v => bif detA v then v else .sx 0 0) ((getC t).run f)) us := by
    intro n
    induction n with
    | zero =>
      intro i us _ hl _
      cases us with
      | nil => exact .nil
      | cons _ _ => cases hl
    | succ n ih =>
      intro i us hu hl hi
      cases us with
      | nil => cases hl
      | cons u us =>
        rw [List.range'_succ, List.map_cons]
        refine .cons ?_ (ih (i + 1) us (fun j hj => ?_) (by simpa using hl) (by omega))
        · have h0 := hu 0 (by simp)
          simp only [List.getElem?_cons_zero, Nat.add_zero, Option.some.injEq] at h0
          have h1 := F.get i (by omega)
          rw [← h0] at h1
          show RV (names σ) (bif detA ((getC i).run f) then (getC i).run f else .sx 0 0) u
          cases hd : detA ((getC i).run f) with
          | true => exact to_names hN h1 hd
          | false => exact .any 0 u
        · have := hu (j + 1) (by simpa using hj)
          simpa [Nat.add_assoc, Nat.add_comm 1 j] using this
  have h := key nt 0 tmps.toList (fun j hj => by
    simp only [Nat.zero_add]
    rw [Array.getElem?_toList, Array.getD_eq_getD_getElem?]
    have hj' : j < tmps.size := by simpa using hj
    simp [hj']) (by simpa using F.size) (by omega)
  rw [frL, List.range_eq_range']
  exact h
/-- A piece of code that the interpreter runs. -/
theorem piece_ok (hnum : ∀ g fn, P.funcs[g]? = some fn → prim g = none → fn.name ≠ "runtime.NumGoroutine") (hprim : ∀ g p, prim g = some p → PrimOk P rawG (fun g => (prim g).isSome) g p) {nt lo k k1 : Nat} {σ : List Value} {fr : List AV} {a : Act} {w : World} {c : Code} (hat : At nt lo k σ fr a w) (hd : detL fr = true) (hmost : nt ≤ 576) (N n : Nat)
    {e : E} {f1 : Fr} {h1 : H} (hrun : (codeC ⟨P, rawG, RT⟩ (fun g => (prim g).isSome) nt false c).run (callN ⟨P, rawG, RT⟩ prim N n) N (frV fr Fr.new 0) (H.gh k) (fun f h => .ok .normal f h) = .ok e f1 h1) (hk : curG h1 = some k1) {Q : Exit → Act → World → Prop}
    (hQ : ∀ a1 w1 vs, At nt lo k1 (σ ++ vs) (frL nt f1) a1 w1 → Eff k σ w k1 (σ ++ vs) w1 → Q (exitE e) a1 w1) : c.wpIn (Wd none) 0 P Q a w := by
  obtain ⟨ι, S, hN, hf, h0⟩ := Sim.start hat.ext
  have hcall := callN_ok (P := P) (G := rawG) (RT := RT) hnum hprim N n
  have hlen : fr.length = nt := by rw [hat.frame.length, Array.length_toList, hat.size]
  have F : FrameRel nt ι (frV fr Fr.new 0) a.tmps := by
    have hh := frame_ok (nt := nt) (of_namesL hN hat.frame hd) (by omega) hmost
    rw [hat.size, Nat.sub_self] at hh
    simpa using hh
  have hι : ∀ g s l, ι g s = some l → Env.foot k σ l.b := fun g s l hl => by
    rcases Nat.eq_zero_or_pos g with q | q
    · subst q; exact hf s l hl
    · rw [h0 g s q] at hl; cases hl
  refine wpIn_mono (code_ok (lo := lo) (fr := none) hcall (fun _ => rfl) c (fun hh => by cases hh) hrun (rawG_ok ι) F S ⟨hat.low, hat.defs.toL hι⟩) fun e1 a1 w1 hp => ?_
  obtain ⟨f2, h2, ι1, S1, F1, g1, D1, he⟩ := hp
  have fin : RS.ok e f2 h2 = RS.ok e f1 h1 → Q (exitE e) a1 w1 := by
    intro hh
    injection hh with q1 q2 q3
    subst q2 q3
    obtain ⟨vs, r1, r2, r3⟩ := Sim.finish hN hf h0 S1 g1 hk
    refine hQ a1 w1 vs ⟨r2.ext, frL_rv r1 F1, F1.size, D1.1, D1.2.toF fun b hb => ?_⟩ r2
    obtain ⟨s, l, q1, q2⟩ := r3 b hb
    exact ⟨0, s, l, q1, q2⟩
  cases e1 with
  | normal =>
    have he : RS.ok .normal f2 h2 = RS.ok e f1 h1 := he
    injection he with q1 q2 q3
    subst q1
    exact fin (by rw [q2, q3])
  | exit i =>
    have he : RS.ok (.exit i) f2 h2 = RS.ok e f1 h1 := he
    injection he with q1 q2 q3
    subst q1
    exact fin (by rw [q2, q3])
  | goto l =>
    have he : RS.ok (.goto l) f2 h2 = RS.ok e f1 h1 := he
    injection he with q1 q2 q3
    subst q1
    exact fin (by rw [q2, q3])
  | ret =>
    have he : RS.ok .ret f2 h2 = RS.ok e f1 h1 := he
    injection he with q1 q2 q3
    subst q1
    exact fin (by rw [q2, q3])
  | panic _ => exact he.elim
  | outgrown => exact he.elim
end
/-! ### Functions of several pieces -/
section
variable {P : Program}
theorem Eff.trans {k0 k1 k2 : Nat} {σ0 σ1 σ2 : List Value} {w0 w1 w2 : World} (a : Eff k0 σ0 w0 k1 σ1 w1) (b : Eff k1 σ1 w1 k2 σ2 w2) : Eff k0 σ0 w0 k2 σ2 w2 where
  ext := b.ext
  size := Nat.le_trans a.size b.size
  keep := fun x hx hn => by
    rw [b.keep x (Nat.lt_of_lt_of_le hx a.size) ?_, a.keep x hx hn]
    intro hf
    rcases a.foot x hf with q | q
    · exact hn q
    · omega
  foot := fun x hx => by
    rcases b.foot x hx with q | q
    · exact a.foot x q
    · exact .inr (Nat.le_trans a.size q)
  same := ⟨b.same.1.trans a.same.1, b.same.2.1.trans a.same.2.1, b.same.2.2.trans a.same.2.2⟩
theorem Eff.refl {k : Nat} {σ : List Value} {w : World} (he : Env.ext k σ w) : Eff k σ w k σ w := ⟨he, Nat.le_refl _, fun _ _ _ => rfl, fun _ h => .inl h, rfl, rfl, rfl⟩
theorem leaveF {k k1 : Nat} {σ σ1 : List Value} {w0 : World} {fn : Func} {tmps : Array Value} {R : Ending → World → Prop} : ∀ (ds : List Deferred) (w1 : World), Eff k σ w0 k1 σ1 w1 → DefF w0.heap.size (Env.foot k1 σ1) w1 ds →
    (∀ w2, Eff k σ w0 k1 σ1 w2 → ∃ v, (results fn tmps).run P w2 = .ok v w2 ∧ R (.returned v) w2) → LeavesInM (Wd none) 0 P fn tmps R ds .returning w1
  | [], w1, E, _, K => K w1 E
  | d :: ds, w1, E, D, K => by
    cases D with
    | @cons _ _ r e1 e2 e3 e4 e5 e6 D =>
    refine ⟨by simp, .inl ⟨r, { w1 with heap := w1.heap.setIfInBounds r (.deferred none) }, e1, takeDeferred_run e4, ?_⟩⟩
    have hat : ∀ b', r ≠ b' → (w1.heap.setIfInBounds r (Obj.deferred none))[b']? = w1.heap[b']? := fun b' hne => by rw [Array.getElem?_setIfInBounds, if_neg hne]
    refine leaveF ds _ ⟨Env.keep _ _ _ _ E.ext fun b hb => hat b (by rintro rfl; exact e5 hb), by simpa using E.size, fun b hb hn => ?_, E.foot, E.same⟩ ?_ K
    · show (w1.heap.setIfInBounds r (Obj.deferred none))[b]? = _
      rw [hat b (by omega)]; exact E.keep b hb hn
    · have : ∀ {ds : List Deferred}, DefF w0.heap.size (Env.foot k1 σ1) w1 ds → (∀ d' ∈ ds, d'.target ≠ .collected r) → DefF w0.heap.size (Env.foot k1 σ1) { w1 with heap := w1.heap.setIfInBounds r (.deferred none) } ds := by
        intro ds hds
        induction hds with
        | nil => intro _; exact .nil
        | cons f1 f2 f3 f4 f5 f6 _ ih =>
          rename_i d' ds' r' _
          intro hh
          have hne : r ≠ r' := by
            rintro rfl
            exact hh d' (List.mem_cons_self ..) f1
          exact .cons f1 f2 (by simpa using f3) ((hat _ hne).trans f4) f5 f6 (ih fun d'' hd'' => hh d'' (List.mem_cons_of_mem _ hd''))
      exact this D e6
variable {RT : List Rule} [RulesOk P RT]
theorem repl_undef (ι : Inj) : ∀ n, RVL ι (List.replicate n undefA) (List.replicate n undef)
  | 0 => .nil
  | n + 1 => .cons (undef_rv ι) (repl_undef ι n)
/-- A function, out of its pieces. -/
theorem fn_calls {f : FuncId} {fn : Func} {c : Code} (hf : P.funcs[f]? = some fn) (hb : fn.body = some c) (hmost : fn.ntmps ≤ 576) {k : Nat} {σ : List Value} {w : World} {avs : List AV} {A : Array Value} {R : Ending → World → Prop} (he : Env.ext k σ w) (ha : RVL (names σ) avs A.toList) (hlen : avs.length ≤ fn.ntmps)
    (hbody : ∀ a, At fn.ntmps w.heap.size k σ (avs ++ List.replicate (fn.ntmps - avs.length) undefA) a w → c.wpIn (Wd none) 0 P (fun e a1 w1 => (e = .normal ∨ e = .ret) ∧ ∃ k1 σ1 fr1 v, At fn.ntmps w.heap.size k1 σ1 fr1 a1 w1 ∧ detL fr1 = true ∧ Eff k σ w k1 σ1 w1 ∧
      (resC ⟨P, rawG, RT⟩ fn.ntmps fn.results.toList).run (frV fr1 Fr.new 0) (H.gh k1) (fun v => .ok v (H.gh k1)) = .ok v (H.gh k1) ∧ detA v = true ∧ ∀ u w2, RV (names σ1) v u → Eff k σ w k1 σ1 w2 → R (.returned u) w2) a w) : Calls P f A w R := by
  have hA : A.toList.length = A.size := Array.length_toList
  have hl := ha.length
  refine (callsIn_wd (rd := none) (n := 0)).1 (callsIn_of_wp_marks hf hb trivial (wpIn_mono (hbody _ ⟨he, ?_, ?_, Nat.le_refl _, .nil⟩) fun e a1 w1 hp => ?_))
  · have := ha.append (repl_undef (names σ) (fn.ntmps - avs.length))
    rw [hl, hA] at this ⊢
    simpa using this
  · simp; omega
  · obtain ⟨hexit, k1, σ1, fr1, v, hat, hd, hE, hres, hdv, hR⟩ := hp
    have fin : LeavesInM (Wd none) 0 P fn a1.tmps R a1.defers .returning w1 := by
      refine leaveF a1.defers w1 hE hat.defs fun w2 E2 => ?_
      obtain ⟨ι, S, hN, _, _⟩ := Sim.start E2.ext
      have hlen1 : fr1.length = fn.ntmps := by rw [hat.frame.length, Array.length_toList, hat.size]
      have F : FrameRel fn.ntmps ι (frV fr1 Fr.new 0) a1.tmps := by
        have hh := frame_ok (nt := fn.ntmps) (of_namesL hN hat.frame hd) (by omega) hmost
        rw [hat.size, Nat.sub_self] at hh
        simpa using hh
      obtain ⟨u, v', e1, e2, e3⟩ := results_ok (P := P) (w := w2) (fn := fn) (k := fun v => R2.ok v (H.gh k1)) (fun hh => by cases hh) F S hres
      injection e3 with q4 q5
      subst q4
      exact ⟨u, e1, hR u w2 (to_names hN e2 hdv) E2⟩
    rcases hexit with rfl | rfl
    · exact fin
    · exact fin
end
/-! ### Rows that grow -/
section
variable {P : Program}
/-- What an append to such a slice comes to. -/
structure Grew (w : World) (B : Nat) (e : TypeId) (sz : Nat) (v : Value) (n : Nat) (xs : List Value) (v' : Value) (w' : World) : Prop where
  row : Row w' B e sz v' n xs
  size : w.heap.size ≤ w'.heap.size
  keep : ∀ b, b < w.heap.size → ownB v ≠ some b → w'.heap[b]? = w.heap[b]?
  own : ∀ b, ownB v' = some b → ownB v = some b ∨ w.heap.size ≤ b
  same : SameExt w w'
theorem row_append {ts : Array TypeId} {ty t e : TypeId} {i : TypeInfo} {z : Value} {args : Array Value} {x v : Value} {B n m : Nat} {xs : List Value} {us : Array Value} {w : World} (h0 : ts[0]? = some t) (ht : P.underlying t = some (.slice e)) {t1 : TypeId} {d1 : TypeDesc} (h1 : ts[1]? = some t1) (ht1 : P.underlying t1 = some d1) (hd1 : ∀ q, d1 ≠ .int q)
    (ha0 : args[0]? = some v) (ha1 : args[1]? = some x) (hi : P.info? e = some i) (hz : i.zero = some z) (hb : i.bytes ≤ 1000000) (hsz0 : i.size ≠ 0) (hzs : z.cells.size = i.size)
    (h : Row w B e i.size v n xs) (hB : B ≤ w.heap.size) (hlen : (Builtin.lenOf x).run P w = .ok m w) (hus : us.toList.length = m * i.size) (hf : ∀ w2 : World, w2.heap = w.heap → (Builtin.firstCells i.size m x).run P w2 = .ok us w2) (hone : ∀ u ∈ us.toList, oneV u) (hn : n + m ≤ 1000000) :
    ∃ v' w', (Builtin.append_ ts ty args).run P w = .ok v' w' ∧ Grew w B e i.size v (n + m) (xs ++ us.toList) v' w' := by
  have hA : AppIn P i z d1 x m w us := .inl ⟨hd1, hlen, hf⟩
  have hxl : (xs ++ us.toList).length = (n + m) * i.size := by rw [List.length_append, h.1, hus, Nat.add_mul]
  -- a row laid anew
  have grow : ∀ {base : Option Addr} {sCap : Nat} {old : Array Value}, v = .slice base n sCap → sCap < n + m → old.toList = xs → (∀ w' : World, w'.heap = w.heap → (Builtin.firstCells i.size n (.slice base n sCap)).run P w' = .ok old w') →
      ∃ v' w', (Builtin.append_ ts ty args).run P w = .ok v' w' ∧ Grew w B e i.size v (n + m) (xs ++ us.toList) v' w' := by
    intro base sCap old hv hcap hold hfo
    subst hv
    obtain ⟨c, hc, hrun⟩ := append_grow (P := P) (ty := ty) h0 ht h1 ht1 ha0 ha1 hi hz hb hsz0 hA hn hcap hfo
    have hzc : (Builtin.zeroCells z.cells (c - (n + m))).size = (c - (n + m)) * i.size := by simp [Builtin.zeroCells, hzs]
    have hol : old.size = n * i.size := by rw [← Array.length_toList, hold, h.1]
    have hul : us.size = m * i.size := by rw [← Array.length_toList]; exact hus
    refine ⟨.slice (some ⟨w.heap.size, 0, none⟩) (n + m) c, { w with heap := w.heap.push (.cells (old ++ us ++ Builtin.zeroCells z.cells (c - (n + m))) e), drawn := w.drawn + 1 }, ?_, ⟨hxl, .inr ⟨w.heap.size, c, old ++ us ++ Builtin.zeroCells z.cells (c - (n + m)), (0, 0), rfl, hB, Array.getElem?_push_size, fun j hh => by simp at hh, hc, ?_, ?_⟩⟩, by simp, fun b hb _ => ?_, fun b hb => ?_, rfl, rfl, rfl⟩
    · rw [hrun]
      simp only [newRow, newObj, Sem.run_bind, Sem.run, Result.andThen, Sem.run_pure]
    · rw [Array.size_append, Array.size_append, hzc, hol, hul, ← Nat.add_mul, ← Nat.add_mul]
      congr 1; omega
    · rw [Array.toList_append, Array.toList_append, hold, List.take_append_of_le_length (by rw [hxl]; exact Nat.le_refl _), List.take_of_length_le (by rw [hxl]; exact Nat.le_refl _)]
    · show (w.heap.push _)[b]? = _
      rw [Array.getElem?_push_lt hb, Array.getElem?_eq_getElem hb]
    · cases hb; exact .inr (Nat.le_refl _)
  rcases h.2 with ⟨rfl, rfl⟩ | ⟨g, cap, cur, fr, rfl, hBg, hg, hop, hnc, hcs, htk⟩
  · have hxs : xs = [] := List.length_eq_zero_iff.1 (by rw [h.1]; simp)
    by_cases hm : m = 0
    · subst hm
      have hu0 : us.toList = [] := List.length_eq_zero_iff.1 (by rw [hus]; simp)
      have hrun := append_fit (P := P) (ty := ty) (w' := w) h0 ht h1 ht1 ha0 ha1 hi hz hb hsz0 hA (Nat.le_refl _) rfl
      refine ⟨_, w, hrun, ?_, Nat.le_refl _, fun _ _ _ => rfl, fun b hb => (by cases hb), rfl, rfl, rfl⟩
      rw [hxs, hu0]
      exact Row.nil w B e i.size
    · refine grow (base := none) (sCap := 0) (old := #[]) rfl (by omega) hxs.symm fun w' _ => ?_
      simp only [Builtin.firstCells, Sem.run_pure]
  · have hgl : g < w.heap.size := (Array.getElem?_eq_some_iff.1 hg).1
    by_cases hfit : n + m ≤ cap
    · have hroom : n * i.size + us.toList.length ≤ cur.size := by
        rw [hus, hcs, ← Nat.add_mul]; exact Nat.mul_le_mul_right _ hfit
      have hst : (storeCells ((⟨g, 0, none⟩ : Addr).add (n * i.size)) us.toList).run P w = .ok () { w with heap := w.heap.setIfInBounds g (.cells (putL us.toList (n * i.size) cur) e fr) } := by
        rw [add_addr, Nat.zero_add]
        have := storeCells_run (P := P) us.toList 0 hg (n * i.size) (by simpa using hroom) (fun j _ _ => hop j) hone
        simpa using this
      have hrun := append_fit (P := P) (ty := ty) (base := some ⟨g, 0, none⟩) h0 ht h1 ht1 ha0 ha1 hi hz hb hsz0 hA hfit hst
      refine ⟨_, _, hrun, ⟨hxl, .inr ⟨g, cap, putL us.toList (n * i.size) cur, fr, rfl, hBg, ?_, hop, hfit, by rw [putL_size]; exact hcs, ?_⟩⟩, by simp, fun b hb hne => ?_, fun b hb => .inl hb, rfl, rfl, rfl⟩
      · show (w.heap.setIfInBounds g _)[g]? = _
        rw [Array.getElem?_setIfInBounds, if_pos rfl, if_pos hgl]
      · rw [putL_list us.toList (n * i.size) cur hroom, htk, List.append_assoc, ← List.append_assoc, List.take_append_of_le_length (by rw [hxl]; exact Nat.le_refl _), List.take_of_length_le (by rw [hxl]; exact Nat.le_refl _)]
      · show (w.heap.setIfInBounds g _)[b]? = _
        rw [Array.getElem?_setIfInBounds, if_neg (fun e => hne (by rw [e]; rfl))]
    · refine grow (base := some ⟨g, 0, none⟩) (sCap := cap) (old := cur.extract 0 (n * i.size)) rfl (by omega) (by rw [Array.toList_extract, List.extract_eq_take_drop]; simpa using htk) fun w' hw' => ?_
      have hle : n * i.size ≤ cur.size := by rw [hcs]; exact Nat.mul_le_mul_right _ hnc
      have := loadCells_run (P := P) (w := w') (by rw [hw']; exact hg) 0 (n * i.size) 0 #[] (by simpa using hle)
      simp only [Builtin.firstCells, loadCells]
      simpa using this
end
/-! ### Memory that is told by blocks and rows -/
section
variable [Gnd] {P : Program}
theorem MemTo.below {w w' : World} {B : Nat} {S S' : MSt} {σ σ' : List Value} (h : MemTo w B S σ S' σ' w') (h0 : MemAt w B S σ) (hB : B ≤ w.heap.size) : RowKit.Below B w w' :=
  ⟨h.same.1, h.same.2.1, h.same.2.2, h.size, fun b hb => h.keep b (by omega) fun hf => by have := (h0.lt hf).1; omega⟩
end
section
variable [Gnd] {P : Program} {vals : List Value} {B : Nat} {L : List (MSt × Nat)}
theorem mem_eff {w w' : World} {k k1 n n1 : Nat} {S S1 : MSt} {σ vs : List Value} (hS : L[k]? = some (S, n)) (hS1 : L[k1]? = some (S1, n1)) (hl : σ.length = n) (hn : n + vs.length = n1) (h : MemTo w B S σ S1 (σ ++ vs) w') : @Eff (memEnv vals B L) k σ w k1 (σ ++ vs) w' :=
  letI := memEnv vals B L
  ⟨⟨S1, n1, hS1, by rw [List.length_append, hl]; exact hn, h.at_⟩, h.size, fun b hb hf => h.keep b hb fun hh => hf (.inl ⟨S, n, hS, hh⟩), fun b hb => by
    rcases hb with ⟨S2, n2, q1, q2⟩ | q
    · rw [hS1] at q1; cases q1
      rcases h.foot b q2 with q | q
      · exact .inl (.inl ⟨S, n, hS, q⟩)
      · exact .inr q
    · exact .inl (.inr q), h.same⟩
theorem mem_of_eff {w w' : World} {k k1 n n1 : Nat} {S S1 : MSt} {σ σ1 : List Value} (hS : L[k]? = some (S, n)) (hS1 : L[k1]? = some (S1, n1)) (h0 : ∀ x o, Gnd.obj x = some o → w.heap[x]? = some o) (hE : @Eff (memEnv vals B L) k σ w k1 σ1 w') : σ1.length = n1 ∧ MemTo w B S σ S1 σ1 w' := by
  letI := memEnv vals B L
  obtain ⟨S', n', e1, e2, e3⟩ := (show ∃ S n, L[k1]? = some (S, n) ∧ σ1.length = n ∧ MemAt w' B S σ1 from hE.ext)
  rw [hS1] at e1; cases e1
  refine ⟨e2, e3, hE.size, fun x hx hf => ?_, fun x hx => ?_, hE.same⟩
  · cases hg : Gnd.obj x with
    | some o => rw [(e3.gd x o hg).2, h0 x o hg]
    | none =>
      refine hE.keep x hx ?_
      rintro (⟨S2, n2, q1, q2⟩ | q)
      · rw [hS] at q1; cases q1
        exact hf q2
      · rw [hg] at q; cases q
  · rcases hE.foot x (.inl ⟨S1, n1, hS1, hx⟩) with (⟨S2, n2, q1, q2⟩ | q) | q
    · rw [hS] at q1; cases q1
      exact .inl q2
    · obtain ⟨o, ho⟩ := Option.isSome_iff_exists.1 q
      have h1 := (e3.gd x o ho).1
      have h2 := (e3.lt hx).1
      omega
    · exact .inr q
/-- A name's value. -/
theorem mname (n : Nat) (u : Value) (h : vals.getD n (.bool false) = u) (ho : rawOne u = true) : @Is (memEnv vals B L) (.sx 1 n) u :=
  letI := memEnv vals B L
  Is.sx h ho
theorem blk_get {cs : List CellV} {f : CellV → Option Value} {C : Array Value} (h : cs.map f = C.toList.map some) {o : Nat} {c : CellV} (hc : cs[o]? = some c) : ∃ z, C[o]? = some z ∧ f c = some z := by
  have h1 : (cs.map f)[o]? = (C.toList.map some)[o]? := by rw [h]
  rw [List.getElem?_map, List.getElem?_map, hc] at h1
  have h2 : C.toList[o]? = C[o]? := Array.getElem?_toList
  rw [h2] at h1
  cases hh : C[o]? with
  | none => rw [hh] at h1; cases h1
  | some z => rw [hh] at h1; exact ⟨z, rfl, Option.some.inj h1⟩
/-- A cell of a block: one that is told. -/
theorem mld {t : TypeId} (ha : (Ty.mk P rawG []).aggB t = some false) {k n j o g : Nat} {S : MSt} {el : TypeId} {cs : List CellV} {u : Value} {x r : AV} (hS : L[k]? = some (S, n)) (hb : S.blks[j]? = some ⟨g, el, cs⟩) (hc : cs[o]? = some (.st u)) (hx : @Is (memEnv vals B L) x (.pointer (some ⟨g, o, none⟩))) (hr : @Is (memEnv vals B L) r u) : @RuleOk (memEnv vals B L) P ⟨.load t, [x], some k, none, r⟩ :=
  letI := memEnv vals B L
  rule_load hx hr.det fun σ w ⟨S', n', h1, h2, h3⟩ => by
    rw [hS] at h1; cases h1
    obtain ⟨_, C, fr, e1, _, e2⟩ := h3.blk _ (List.mem_of_getElem? hb)
    obtain ⟨z, e3, e4⟩ := blk_get e2 hc
    cases e4
    exact ⟨u, loadAt_cell ha e1 e3, hr.to _⟩
/-- A cell of a block: one that goes by a name. -/
theorem mldn {t : TypeId} (ha : (Ty.mk P rawG []).aggB t = some false) {k n j o g m : Nat} {S : MSt} {el : TypeId} {cs : List CellV} {x : AV} (hS : L[k]? = some (S, n)) (hb : S.blks[j]? = some ⟨g, el, cs⟩) (hc : cs[o]? = some (.nm m)) (hx : @Is (memEnv vals B L) x (.pointer (some ⟨g, o, none⟩))) : @RuleOk (memEnv vals B L) P ⟨.load t, [x], some k, none, .sx 2 m⟩ :=
  letI := memEnv vals B L
  rule_load hx rfl fun σ w ⟨S', n', h1, h2, h3⟩ => by
    rw [hS] at h1; cases h1
    obtain ⟨_, C, fr, e1, _, e2⟩ := h3.blk _ (List.mem_of_getElem? hb)
    obtain ⟨z, e3, e4⟩ := blk_get e2 hc
    have e4 : σ[m]? = some z := e4
    exact ⟨z, loadAt_cell ha e1 e3, names_sx2 e4 (h3.one z (List.mem_of_getElem? e4))⟩
theorem getElem?_set_blk {l : List Blk} {j : Nat} {b b' : Blk} (h : l[j]? = some b) : ∀ x ∈ l.set j b', x = b' ∨ (x ∈ l ∧ ∃ i, i ≠ j ∧ l[i]? = some x) := by
  intro x hx
  obtain ⟨i, hi⟩ := List.getElem?_of_mem hx
  rw [List.getElem?_set] at hi
  split at hi
  · split at hi
    · cases hi; exact .inl rfl
    · cases hi
  · exact .inr ⟨List.mem_of_getElem? hi, i, Ne.symm (by assumption), hi⟩
theorem pair_get {α : Type} {R : α → α → Prop} (hs : ∀ a b, R a b → R b a) {l : List α} (h : l.Pairwise R) {i j : Nat} {a b : α} (hi : l[i]? = some a) (hj : l[j]? = some b) (hne : i ≠ j) : R a b := by
  rcases Nat.lt_or_gt_of_ne hne with q | q
  · obtain ⟨h1, rfl⟩ := List.getElem?_eq_some_iff.1 hi
    obtain ⟨h2, rfl⟩ := List.getElem?_eq_some_iff.1 hj
    exact List.pairwise_iff_getElem.1 h i j h1 h2 q
  · obtain ⟨h1, rfl⟩ := List.getElem?_eq_some_iff.1 hi
    obtain ⟨h2, rfl⟩ := List.getElem?_eq_some_iff.1 hj
    exact hs _ _ (List.pairwise_iff_getElem.1 h j i h2 h1 q)
/-- A block is written to. -/
theorem MemAt.setBlk {w : World} {S : MSt} {σ : List Value} (h : MemAt w B S σ) {j o : Nat} {b : Blk} (hb : S.blks[j]? = some b) {c : CellV} {u : Value} (hc : c.at_ σ = some u) (ho : o < b.cs.length) :
    ∃ C fr, w.heap[b.g]? = some (.cells C b.el fr) ∧ Open2 fr ∧ o < C.size ∧ MemTo w B S σ { S with blks := S.blks.set j { b with cs := b.cs.set o c } } σ { w with heap := w.heap.setIfInBounds b.g (.cells (C.setIfInBounds o u) b.el fr) } := by
  have hbm := List.mem_of_getElem? hb
  obtain ⟨h1, C, fr, h2, h3, h4⟩ := h.blk b hbm
  have hlen : b.cs.length = C.size := by
    have := congrArg List.length h4
    simpa using this
  have hgl := (h.lt (.inl ⟨b, hbm, rfl⟩)).2
  have hat : ∀ x, x ≠ b.g → (w.heap.setIfInBounds b.g (.cells (C.setIfInBounds o u) b.el fr))[x]? = w.heap[x]? := fun x hne => by rw [Array.getElem?_setIfInBounds, if_neg (Ne.symm hne)]
  have hj : j < S.blks.length := (List.getElem?_eq_some_iff.1 hb).1
  have hfoot : ∀ x, Foot { S with blks := S.blks.set j { b with cs := b.cs.set o c } } σ x ↔ Foot S σ x := by
    intro x
    constructor
    · rintro (⟨b', hb', rfl⟩ | hh)
      · rcases getElem?_set_blk hb b' hb' with rfl | ⟨q, _⟩
        · exact .inl ⟨b, hbm, rfl⟩
        · exact .inl ⟨b', q, rfl⟩
      · exact .inr hh
    · rintro (⟨b', hb', rfl⟩ | hh)
      · obtain ⟨i, hi⟩ := List.getElem?_of_mem hb'
        by_cases e : i = j
        · subst e
          rw [hb] at hi; cases hi
          exact .inl ⟨{ b with cs := b.cs.set o c }, List.mem_of_getElem? (i := i) (by rw [List.getElem?_set, if_pos rfl, if_pos hj]), rfl⟩
        · exact .inl ⟨b', List.mem_of_getElem? (i := i) (by rw [List.getElem?_set, if_neg (Ne.symm e)]; exact hi), rfl⟩
      · exact .inr hh
  refine ⟨C, fr, h2, h3, by omega, ⟨fun b' hb' => ?_, fun r hr => ?_, h.one, ?_, fun b' hb' r hr v hv => ?_, h.rr, ?_, fun x o hx => ⟨(h.gd x o hx).1, (hat x (fun e => by have := (h.gd x o hx).1; omega)).trans (h.gd x o hx).2⟩⟩, by simp, fun x hx hf => hat x fun e => hf (.inl ⟨b, hbm, e.symm⟩), fun x hx => .inl ((hfoot x).1 hx), rfl, rfl, rfl⟩
  · rcases getElem?_set_blk hb b' hb' with rfl | ⟨q, i, hne, hi⟩
    · refine ⟨h1, C.setIfInBounds o u, fr, ?_, h3, ?_⟩
      · show (w.heap.setIfInBounds b.g _)[b.g]? = _
        rw [Array.getElem?_setIfInBounds, if_pos rfl, if_pos hgl]
      · show (b.cs.set o c).map (CellV.at_ σ) = _
        rw [List.map_set, h4, hc, Array.toList_setIfInBounds, List.map_set]
    · exact (h.blk b' q).keep (hat _ (pair_get (fun _ _ h => Ne.symm h) h.bb hi hb hne))
  · obtain ⟨v, q1, q2⟩ := h.row r hr
    exact ⟨v, q1, q2.keep fun k hk => hat k fun e => h.br b hbm r hr v q1 (by rw [← e]; exact hk)⟩
  · show (S.blks.set j { b with cs := b.cs.set o c }).Pairwise _
    rw [List.pairwise_iff_getElem]
    intro i i' hi hi' hlt
    have key : ∀ (i : Nat) (hi : i < (S.blks.set j { b with cs := b.cs.set o c }).length), ((S.blks.set j { b with cs := b.cs.set o c })[i]).g = (S.blks[i]'(by simpa using hi)).g := by
      intro i hi
      rw [List.getElem_set]
      split
      · rename_i e
        subst e
        have := List.getElem?_eq_some_iff.1 hb
        obtain ⟨q1, q2⟩ := this
        rw [q2]
      · rfl
    rw [key, key]
    exact List.pairwise_iff_getElem.1 h.bb i i' (by simpa using hi) (by simpa using hi') hlt
  · rcases getElem?_set_blk hb b' hb' with rfl | ⟨q, _⟩
    · exact h.br b hbm r hr v hv
    · exact h.br b' q r hr v hv
  · obtain ⟨x, hx⟩ := h.ex
    exact ⟨x, (hfoot x).2 hx⟩
/-- A store into a block. -/
theorem mst {t : TypeId} (hi : (P.info? t).map (·.size) = some 1) {k k1 n j o g : Nat} {S S1 : MSt} {el : TypeId} {cs : List CellV} {c : CellV} {x y : AV} (hS : L[k]? = some (S, n)) (hS1 : L[k1]? = some (S1, n)) (hb : S.blks[j]? = some ⟨g, el, cs⟩) (h1 : S1 = { S with blks := S.blks.set j ⟨g, el, cs.set o c⟩ }) (ho : o < cs.length) (hx : @Is (memEnv vals B L) x (.pointer (some ⟨g, o, none⟩))) (hd : detA y = true)
    (hy : ∀ σ : List Value, (∀ u ∈ σ, rawOne u = true) → ∀ z, @RV (memEnv vals B L) (names σ) y z → c.at_ σ = some z ∧ rawOne z = true) : @RuleOk (memEnv vals B L) P ⟨.store t, [x, y], some k, some k1, undefA⟩ :=
  letI := memEnv vals B L
  rule_store hx hd fun σ w z ⟨S', n', q1, q2, q3⟩ hz => by
    rw [hS] at q1; cases q1
    obtain ⟨ti, hi1, hi2⟩ := Option.map_eq_some_iff.1 hi
    obtain ⟨hc, hone⟩ := hy σ q3.one z hz
    obtain ⟨C, fr, e1, e2, e3, e4⟩ := q3.setBlk hb hc ho
    refine ⟨_, [], storeAt_cell hi1 hi2 e1 e2 e3 hone, ?_⟩
    rw [List.append_nil]
    subst h1
    have := mem_eff (vals := vals) (vs := []) hS hS1 q2 rfl (by rw [List.append_nil]; exact e4)
    rwa [List.append_nil] at this
theorem store_is {y : AV} {u : Value} (hy : @Is (memEnv vals B L) y u) (ho : rawOne u = true) : ∀ σ : List Value, (∀ u ∈ σ, rawOne u = true) → ∀ z, @RV (memEnv vals B L) (names σ) y z → (CellV.st u).at_ σ = some z ∧ rawOne z = true :=
  letI := memEnv vals B L
  fun σ _ z hz => by rw [hy.only _ _ hz]; exact ⟨rfl, ho⟩
theorem store_nm (m : Nat) : ∀ σ : List Value, (∀ u ∈ σ, rawOne u = true) → ∀ z, @RV (memEnv vals B L) (names σ) (.sx 2 m) z → (CellV.nm m).at_ σ = some z ∧ rawOne z = true := by
  letI := memEnv vals B L
  intro σ hone z hz
  cases hz with
  | @sx2 _ l h5 h6 =>
    rw [names_even] at h5
    cases hs : σ[m]? with
    | none => rw [hs] at h5; cases h5
    | some v =>
      rw [hs] at h5
      cases h5
      exact ⟨hs, h6⟩
end
/-! ### Rows that grow, parts of memory, runs -/
section
variable [Gnd] {P : Program}
theorem CellV.at_app {c : CellV} {σ : List Value} {u : Value} (h : c.at_ σ = some u) (vs : List Value) : c.at_ (σ ++ vs) = some u := by
  cases c with
  | st v => exact h
  | nm n =>
    have h : σ[n]? = some u := h
    show (σ ++ vs)[n]? = some u
    have hn : n < σ.length := (List.getElem?_eq_some_iff.1 h).1
    rw [List.getElem?_append_left hn]; exact h
theorem BlkAt.app {w : World} {B : Nat} {σ : List Value} {b : Blk} (h : BlkAt w B σ b) (vs : List Value) : BlkAt w B (σ ++ vs) b := by
  obtain ⟨h1, C, fr, h2, h3, h4⟩ := h
  refine ⟨h1, C, fr, h2, h3, ?_⟩
  rw [← h4]
  apply List.map_congr_left
  intro c hc
  have : some (c.at_ σ) = some (c.at_ σ) := rfl
  obtain ⟨i, hi⟩ := List.getElem?_of_mem hc
  obtain ⟨z, _, hz⟩ := blk_get h4 hi
  rw [hz]; exact CellV.at_app hz vs
/-- More names. -/
theorem MemAt.app {w : World} {B : Nat} {S : MSt} {σ vs : List Value} (h : MemAt w B S σ) (hvs : ∀ u ∈ vs, rawOne u = true) : MemAt w B S (σ ++ vs) := by
  have row : ∀ r ∈ S.rows, ∀ v, r.v.at_ (σ ++ vs) = some v → r.v.at_ σ = some v := by
    intro r hr v hv
    obtain ⟨v', h1, _⟩ := h.row r hr
    have := CellV.at_app h1 vs
    rw [hv] at this; cases this
    exact h1
  refine ⟨fun b hb => (h.blk b hb).app vs, fun r hr => ?_, fun u hu => ?_, h.bb, fun b hb r hr v hv => h.br b hb r hr v (row r hr v hv), ?_, ?_, h.gd⟩
  · obtain ⟨v, h1, h2⟩ := h.row r hr
    exact ⟨v, CellV.at_app h1 vs, h2⟩
  · rcases List.mem_append.1 hu with q | q
    · exact h.one u q
    · exact hvs u q
  · refine List.Pairwise.imp_of_mem ?_ h.rr
    intro r r' hr hr' hh v v' x h1 h2
    exact hh v v' x (row r hr v h1) (row r' hr' v' h2)
  · obtain ⟨x, hx⟩ := h.ex
    refine ⟨x, ?_⟩
    rcases hx with hx | ⟨r, hr, v, h1, h2⟩
    · exact .inl hx
    · exact .inr ⟨r, hr, v, CellV.at_app h1 vs, h2⟩
theorem foot_app {w : World} {B : Nat} {S : MSt} {σ : List Value} (h : MemAt w B S σ) (vs : List Value) (x : Nat) : Foot S (σ ++ vs) x ↔ Foot S σ x := by
  constructor
  · rintro (q | ⟨r, hr, v, h1, h2⟩)
    · exact .inl q
    · obtain ⟨v', h3, _⟩ := h.row r hr
      have := CellV.at_app h3 vs
      rw [h1] at this; cases this
      exact .inr ⟨r, hr, v, h3, h2⟩
  · rintro (q | ⟨r, hr, v, h1, h2⟩)
    · exact .inl q
    · exact .inr ⟨r, hr, v, CellV.at_app h1 vs, h2⟩
theorem getElem?_set_row {l : List Rw} {j : Nat} {b b' : Rw} (h : l[j]? = some b) : ∀ x ∈ l.set j b', x = b' ∨ (x ∈ l ∧ ∃ i, i ≠ j ∧ l[i]? = some x) := by
  intro x hx
  obtain ⟨i, hi⟩ := List.getElem?_of_mem hx
  rw [List.getElem?_set] at hi
  split at hi
  · split at hi
    · cases hi; exact .inl rfl
    · cases hi
  · exact .inr ⟨List.mem_of_getElem? hi, i, Ne.symm (by assumption), hi⟩
/-- A row has grown. -/
theorem MemAt.grow {w w' : World} {B : Nat} {S : MSt} {σ : List Value} (h : MemAt w B S σ) {j : Nat} {r : Rw} (hr : S.rows[j]? = some r) {v v' : Value} (hv : r.v.at_ σ = some v) {n' : Nat} {xs' : List Value} (G : Grew w B r.e r.sz v n' xs' v' w') (hex : ∃ x, Foot { S with rows := S.rows.set j ⟨.nm σ.length, r.e, r.sz, n', xs'⟩ } (σ ++ [v']) x) :
    MemTo w B S σ { S with rows := S.rows.set j ⟨.nm σ.length, r.e, r.sz, n', xs'⟩ } (σ ++ [v']) w' := by
  have hrm := List.mem_of_getElem? hr
  have hj : j < S.rows.length := (List.getElem?_eq_some_iff.1 hr).1
  obtain ⟨_, _, ev, ho⟩ := G.row.slice
  have hlast : (CellV.nm σ.length).at_ (σ ++ [v']) = some v' := by
    show (σ ++ [v'])[σ.length]? = some v'
    simp
  have A := h.app (vs := [v']) (by simpa using ho)
  have row : ∀ r ∈ S.rows, ∀ u, r.v.at_ (σ ++ [v']) = some u → r.v.at_ σ = some u := by
    intro r hr u hu
    obtain ⟨u', h1, _⟩ := h.row r hr
    have := CellV.at_app h1 [v']
    rw [hu] at this; cases this
    exact h1
  -- what is kept
  have kept : ∀ x, Foot S σ x → ownB v ≠ some x → w'.heap[x]? = w.heap[x]? := fun x hx hne => G.keep x (h.lt hx).2 hne
  have rne : ∀ i r', i ≠ j → S.rows[i]? = some r' → ∀ u x, r'.v.at_ σ = some u → ownB u = some x → ownB v ≠ some x := by
    intro i r' hne hi u x hu hx hvx
    rcases Nat.lt_or_gt_of_ne hne with q | q
    · obtain ⟨a1, rfl⟩ := List.getElem?_eq_some_iff.1 hi
      obtain ⟨a2, rfl⟩ := List.getElem?_eq_some_iff.1 hr
      exact List.pairwise_iff_getElem.1 h.rr i j a1 a2 q u v x hu hv hx hvx
    · obtain ⟨a1, rfl⟩ := List.getElem?_eq_some_iff.1 hi
      obtain ⟨a2, rfl⟩ := List.getElem?_eq_some_iff.1 hr
      exact List.pairwise_iff_getElem.1 h.rr j i a2 a1 q v u x hv hu hvx hx
  -- the new row shares nothing
  have fresh : ∀ x, ownB v' = some x → (ownB v = some x ∨ w.heap.size ≤ x) := G.own
  refine ⟨⟨fun b hb => ?_, fun r' hr' => ?_, A.one, h.bb, fun b hb r' hr' u hu hx => ?_, ?_, hex, fun x o hx => ⟨(h.gd x o hx).1, (G.keep x (Array.getElem?_eq_some_iff.1 (h.gd x o hx).2).1 fun e => by have h8 := (h.gd x o hx).1; have h9 := (h.lt (.inr ⟨r, hrm, v, hv, e⟩)).1; omega).trans (h.gd x o hx).2⟩⟩, G.size, fun x hx hf => G.keep x hx fun e => hf (.inr ⟨r, hrm, v, hv, e⟩), fun x hx => ?_, G.same⟩
  · exact ((h.blk b hb).app [v']).keep (kept _ (.inl ⟨b, hb, rfl⟩) (h.br b hb r hrm v hv))
  · rcases getElem?_set_row hr r' hr' with rfl | ⟨q, i, hne, hi⟩
    · exact ⟨v', hlast, G.row⟩
    · obtain ⟨u, h1, h2⟩ := h.row r' q
      exact ⟨u, CellV.at_app h1 _, h2.keep fun k hk => kept k (.inr ⟨r', q, u, h1, hk⟩) (rne i r' hne hi u k h1 hk)⟩
  · rcases getElem?_set_row hr r' hr' with rfl | ⟨q, i, hne, hi⟩
    · rw [hlast] at hu; cases hu
      rcases fresh _ hx with q | q
      · exact h.br b hb r hrm v hv q
      · have := (h.lt (.inl ⟨b, hb, rfl⟩)).2; omega
    · exact h.br b hb r' q u (row r' q u hu) hx
  · show (S.rows.set j _).Pairwise _
    rw [List.pairwise_iff_getElem]
    intro i i' hi hi' hlt u u' x hu hu' hx hx'
    have hil : i < S.rows.length := by simpa using hi
    have hil' : i' < S.rows.length := by simpa using hi'
    rw [List.getElem_set] at hu hu'
    by_cases e1 : j = i
    · rw [if_pos e1] at hu
      rw [hlast] at hu; cases hu
      rw [if_neg (by omega)] at hu'
      have hu2 := row _ (List.getElem_mem hil') _ hu'
      have hi2 : S.rows[i']? = some S.rows[i'] := by simp [hil']
      rcases fresh _ hx with q | q
      · exact rne i' _ (by omega) hi2 _ _ hu2 hx' q
      · have := (h.lt (.inr ⟨_, List.getElem_mem hil', _, hu2, hx'⟩)).2; omega
    · rw [if_neg e1] at hu
      have hu1 := row _ (List.getElem_mem hil) _ hu
      have hi1 : S.rows[i]? = some S.rows[i] := by simp [hil]
      by_cases e2 : j = i'
      · rw [if_pos e2] at hu'
        rw [hlast] at hu'; cases hu'
        rcases fresh _ hx' with q | q
        · exact rne i _ (by omega) hi1 _ _ hu1 hx q
        · have := (h.lt (.inr ⟨_, List.getElem_mem hil, _, hu1, hx⟩)).2; omega
      · rw [if_neg e2] at hu'
        have hu2 := row _ (List.getElem_mem hil') _ hu'
        exact List.pairwise_iff_getElem.1 h.rr i i' hil hil' hlt _ _ x hu1 hu2 hx hx'
  · rcases hx with ⟨b, hb, rfl⟩ | ⟨r', hr', u, hu, hxu⟩
    · exact .inl (.inl ⟨b, hb, rfl⟩)
    · rcases getElem?_set_row hr r' hr' with rfl | ⟨q, i, hne, hi⟩
      · rw [hlast] at hu; cases hu
        rcases fresh _ hxu with q | q
        · exact .inl (.inr ⟨r, hrm, v, hv, q⟩)
        · exact .inr q
      · exact .inl (.inr ⟨r', q, u, row r' q u hu, hxu⟩)
/-- What the types of an append must be. -/
def appOk (P : Program) (t u e : TypeId) (sz : Nat) : Bool := match P.underlying t, P.underlying u, P.info? e with
  | some (.slice e'), some d, some i => Nat.beq e' e && (match d with | .int _ => false | _ => true) && Nat.beq i.size sz && !Nat.beq sz 0 && Nat.ble i.bytes 1000000 && (match i.zero with | some z => Nat.beq z.cells.size sz | none => false)
  | _, _, _ => false
theorem appOk_inv {t u e : TypeId} {sz : Nat} (h : appOk P t u e sz = true) : ∃ d i z, P.underlying t = some (.slice e) ∧ P.underlying u = some d ∧ (∀ q, d ≠ .int q) ∧ P.info? e = some i ∧ i.zero = some z ∧ i.size = sz ∧ sz ≠ 0 ∧ i.bytes ≤ 1000000 ∧ z.cells.size = i.size := by
  unfold appOk at h
  split at h
  · rename_i e' d i ht hu hi
    simp only [Bool.and_eq_true, Bool.not_eq_true'] at h
    obtain ⟨⟨⟨⟨⟨h1, h2⟩, h3⟩, h4⟩, h5⟩, h6⟩ := h
    obtain rfl := Nat.eq_of_beq_eq_true h1
    have h3 := Nat.eq_of_beq_eq_true h3
    cases hz : i.zero with
    | none => rw [hz] at h6; cases h6
    | some z =>
      rw [hz] at h6
      refine ⟨d, i, z, ht, hu, (fun q hq => by rw [hq] at h2; cases h2), hi, hz, h3, (fun hh => by rw [hh] at h4; cases h4), Nat.le_of_ble_eq_true h5, by rw [h3]; exact Nat.eq_of_beq_eq_true h6⟩
  · cases h
end
section
variable [Gnd] {P : Program} {vals : List Value} {B : Nat} {L : List (MSt × Nat)}
/-- An append to a row. -/
theorem mapp {t u e : TypeId} {sz : Nat} (hA : appOk P t u e sz = true) {k k1 n j cnt cnt1 c : Nat} {S S1 : MSt} {xs xs1 us : List Value} {args : List AV} {x0 : AV} {c0 : CellV} (hS : L[k]? = some (S, n)) (hS1 : L[k1]? = some (S1, n + 1)) (hr : S.rows[j]? = some ⟨c0, e, sz, cnt, xs⟩) (h1 : S1 = { S with rows := S.rows.set j ⟨.nm n, e, sz, cnt1, xs1⟩ }) (hd0 : detA x0 = true) (hx0 : ∀ σ : List Value, (∀ u ∈ σ, rawOne u = true) → ∀ z, @RV (memEnv vals B L) (names σ) x0 z → c0.at_ σ = some z ∧ rawOne z = true) (hn1 : cnt1 = cnt + c) (hxs1 : xs1 = xs ++ us)
    (ha : @IsL (memEnv vals B L) args us) (hc : us.length = c * sz) (hone : ∀ u ∈ us, rawOne u = true) (hcnt : cnt + c ≤ 1000000) (hpos : S.blks ≠ [] ∨ 0 < c) : @RuleOk (memEnv vals B L) P ⟨.app t u, x0 :: args, some k, some k1, .sx 2 n⟩ := by
  subst hn1 hxs1
  letI := memEnv vals B L
  obtain ⟨d, i, z, t1, t2, t3, t4, t5, t6, t7, t8, t9⟩ := appOk_inv hA
  have hdet : detL (x0 :: args) = true := by
    have := ha.det
    simp only [detL, List.all_cons, Bool.and_eq_true] at this ⊢
    exact ⟨hd0, this⟩
  refine ⟨hdet, rfl, rfl, fun σ w vs he hu => ⟨rfl, ?_⟩⟩
  rintro x y elems rfl hl
  obtain ⟨S', n', q1, q2, q3⟩ := he k rfl
  rw [hS] at q1; cases q1
  cases hu with
  | cons hx hu =>
  obtain rfl := ha.only _ hu
  obtain ⟨v, r1, r2⟩ := q3.row _ (List.mem_of_getElem? hr)
  have hxv : x = v := by
    have := (hx0 σ q3.one x hx).1
    rw [r1] at this
    cases this; rfl
  subst hxv
  obtain ⟨q, us, l1, l2, l3, l4⟩ := hl
  have hsz : elSz P t = sz := by simp only [elSz, t1, t4, Option.map_some, Option.getD_some, t6]
  rw [hsz] at l3 l4
  have hq : q = c := Nat.eq_of_mul_eq_mul_right (Nat.pos_of_ne_zero t7) (l3.trans hc)
  subst hq
  have hB : B ≤ w.heap.size := by
    obtain ⟨x, hx⟩ := q3.ex
    have := q3.lt hx; omega
  obtain ⟨v', w', e1, e2⟩ := row_append (P := P) (ts := #[t, u]) (ty := 0) (args := #[x, y]) (B := B) (xs := xs) (us := us) (n := cnt) (m := q) rfl t1 rfl t2 t3 rfl rfl t4 t5 t8 (by rw [t6]; exact t7) t9 (by rw [t6]; exact r2) hB l1 (by rw [l2, t6]; exact hc) (by rw [t6]; exact l4)
    (by rw [l2]; exact fun u hu => one_raw (hone u hu)) hcnt
  rw [t6, l2] at e2
  obtain ⟨_, _, _, ho⟩ := e2.row.slice
  have hlast : (σ ++ [v'])[n]? = some v' := by rw [← q2]; simp
  have hex : ∃ x, Foot { S with rows := S.rows.set j ⟨.nm σ.length, e, sz, cnt + q, xs ++ elems⟩ } (σ ++ [v']) x := by
    rcases hpos with hp | hp
    · obtain ⟨b, hb⟩ := List.exists_mem_of_ne_nil _ hp
      exact ⟨b.g, .inl ⟨b, hb, rfl⟩⟩
    · rcases e2.row.2 with ⟨_, h0⟩ | ⟨g, cap, cur, fr, rfl, _⟩
      · omega
      · have hj : j < S.rows.length := (List.getElem?_eq_some_iff.1 hr).1
        exact ⟨g, .inr ⟨⟨.nm σ.length, e, sz, cnt + q, xs ++ elems⟩, List.mem_of_getElem? (i := j) (by rw [List.getElem?_set, if_pos rfl, if_pos hj]), .slice (some ⟨g, 0, none⟩) (cnt + q) cap, (show (σ ++ [_])[σ.length]? = some _ by simp), rfl⟩⟩
  have hT := q3.grow hr r1 e2 hex
  refine ⟨.value v', w', [v'], k, by simp only [SOp.sem, Sem.run_bind, e1, Result.andThen, Sem.run_pure], .inl ⟨v', rfl, names_sx2 hlast ho⟩, rfl, ?_⟩
  rw [q2] at hT
  subst h1
  exact mem_eff hS hS1 q2 rfl hT
/-- How long a row is. -/
theorem mlen {t e e0 : TypeId} (ht : P.underlying t = some (.slice e0)) {k n m j sz cnt : Nat} {S : MSt} {xs : List Value} {r : AV} (hS : L[k]? = some (S, n)) (hr : S.rows[j]? = some ⟨.nm m, e, sz, cnt, xs⟩) (hres : @Is (memEnv vals B L) r (.int .i64 (cnt : Int))) : @RuleOk (memEnv vals B L) P ⟨.len t, [.sx 2 m], some k, none, r⟩ := by
  letI := memEnv vals B L
  refine ⟨rfl, hres.det, rfl, fun σ w vs he hu => ⟨rfl, ?_⟩⟩
  obtain ⟨S', n', q1, q2, q3⟩ := he k rfl
  rw [hS] at q1; cases q1
  cases hu with
  | cons hx hu =>
  cases hu
  obtain ⟨v, r1, r2⟩ := q3.row _ (List.mem_of_getElem? hr)
  have r1 : σ[m]? = some v := r1
  cases hx with
  | sx2 h5 h6 =>
    rw [names_even, r1] at h5
    cases h5
    obtain ⟨a, c, e1, _⟩ := r2.slice
    have e1 : v = .slice a cnt c := e1
    subst e1
    exact ⟨_, by simp only [SOp.sem, Builtin.len_, List.getElem?_toArray, List.getElem?_cons_zero, Sem.run_bind, underlying_run ht, Result.andThen, Sem.run_pure]; rfl, hres.to _⟩
/-- A cell of a row whose slice is told. -/
theorem mldr {t e : TypeId} (ha : (Ty.mk P rawG []).aggB t = some false) {k n j sz cnt o b c : Nat} {S : MSt} {xs : List Value} {x r : AV} {u : Value} (hS : L[k]? = some (S, n)) (hr : S.rows[j]? = some ⟨.st (.slice (some ⟨b, 0, none⟩) cnt c), e, sz, cnt, xs⟩) (ho : xs[o]? = some u) (hx : @Is (memEnv vals B L) x (.pointer (some ⟨b, o, none⟩))) (hres : @Is (memEnv vals B L) r u) : @RuleOk (memEnv vals B L) P ⟨.load t, [x], some k, none, r⟩ :=
  letI := memEnv vals B L
  rule_load hx hres.det fun σ w ⟨S', n', h1, h2, h3⟩ => by
    rw [hS] at h1; cases h1
    obtain ⟨v, r1, r2⟩ := h3.row _ (List.mem_of_getElem? hr)
    cases r1
    obtain ⟨g, cap, cur, fr, e1, e2, e3⟩ := r2.cell ho
    cases e1
    exact ⟨u, loadAt_cell ha e2 e3, hres.to _⟩
/-- An element's address in a slice that is told. -/
theorem rule_idxA {t e : TypeId} {sz : Nat} (ht : P.underlying t = some (.slice e)) (hi : (P.info? e).map (·.size) = some sz) {x y r : AV} {b n c o j : Nat} {k : IntKind} (hx : Is x (.slice (some ⟨b, 0, none⟩) n c)) (hy : Is y (.int k (j : Int))) (hj : j < n) (ho : j * sz = o) (hr : Is r (.pointer (some ⟨b, o, none⟩))) : RuleOk P ⟨.idxA t, [x, y], none, none, r⟩ :=
  rule2 hx hy hr rfl (fun _ _ h => by cases h) fun w => by
    obtain ⟨i, hi1, hi2⟩ := Option.map_eq_some_iff.1 hi
    have h0 : (0 : Int) ≤ (j : Int) ∧ (j : Int) < (n : Int) := ⟨Int.natCast_nonneg j, by omega⟩
    subst ho hi2
    simp only [SOp.sem, Instr.indexAt, asIntOf, Sem.run_bind, underlying_run ht, Result.andThen, Sem.run_pure, h0, and_self, if_true, Int.toNat_natCast, sizeOf_run hi1, add_addr, Nat.zero_add]
end
/-! ### Parts of memory; runs from a state to another -/
section
variable [Gnd] {P : Program}
theorem foot_and (S R : MSt) (σ : List Value) (x : Nat) : Foot (S.and R) σ x ↔ Foot S σ x ∨ Foot R σ x := by
  constructor
  · rintro (⟨b, hb, h⟩ | ⟨r, hr, h⟩)
    · rcases List.mem_append.1 hb with q | q
      · exact .inl (.inl ⟨b, q, h⟩)
      · exact .inr (.inl ⟨b, q, h⟩)
    · rcases List.mem_append.1 hr with q | q
      · exact .inl (.inr ⟨r, q, h⟩)
      · exact .inr (.inr ⟨r, q, h⟩)
  · rintro ((⟨b, hb, h⟩ | ⟨r, hr, h⟩) | (⟨b, hb, h⟩ | ⟨r, hr, h⟩))
    · exact .inl ⟨b, List.mem_append_left _ hb, h⟩
    · exact .inr ⟨r, List.mem_append_left _ hr, h⟩
    · exact .inl ⟨b, List.mem_append_right _ hb, h⟩
    · exact .inr ⟨r, List.mem_append_right _ hr, h⟩
/-- A part of memory alone. -/
theorem MemAt.left {w : World} {B : Nat} {S R : MSt} {σ : List Value} (h : MemAt w B (S.and R) σ) (hne : ∃ x, Foot S σ x) : MemAt w B S σ :=
  ⟨fun b hb => h.blk b (List.mem_append_left _ hb), fun r hr => h.row r (List.mem_append_left _ hr), h.one, (List.pairwise_append.1 h.bb).1, fun b hb r hr => h.br b (List.mem_append_left _ hb) r (List.mem_append_left _ hr), (List.pairwise_append.1 h.rr).1, hne, h.gd⟩
theorem MemAt.apart {w : World} {B : Nat} {S R : MSt} {σ : List Value} (h : MemAt w B (S.and R) σ) {x : Nat} (hx : Foot S σ x) (hy : Foot R σ x) : False := by
  rcases hx with ⟨b, hb, rfl⟩ | ⟨r, hr, v, h1, h2⟩
  · rcases hy with ⟨b', hb', e⟩ | ⟨r', hr', v', h3, h4⟩
    · exact (List.pairwise_append.1 h.bb).2.2 b hb b' hb' e.symm
    · exact h.br b (List.mem_append_left _ hb) r' (List.mem_append_right _ hr') v' h3 h4
  · rcases hy with ⟨b', hb', e⟩ | ⟨r', hr', v', h3, h4⟩
    · exact h.br b' (List.mem_append_right _ hb') r (List.mem_append_left _ hr) v h1 (by rw [e]; exact h2)
    · exact (List.pairwise_append.1 h.rr).2.2 r hr r' hr' v v' x h1 h3 h2 h4
/-- What happens to a part leaves the rest alone. -/
theorem MemTo.frame {w w' : World} {B : Nat} {S S' R : MSt} {σ vs : List Value} (h : MemAt w B (S.and R) σ) (hT : MemTo w B S σ S' (σ ++ vs) w') : MemTo w B (S.and R) σ (S'.and R) (σ ++ vs) w' := by
  have hvs : ∀ u ∈ vs, rawOne u = true := fun u hu => hT.at_.one u (List.mem_append_right _ hu)
  have A := h.app hvs
  have keepR : ∀ x, Foot R σ x → w'.heap[x]? = w.heap[x]? := fun x hx => hT.keep x (h.lt ((foot_and S R σ x).2 (.inr hx))).2 fun hf => h.apart hf hx
  have footR : ∀ x, Foot R (σ ++ vs) x → Foot R σ x := by
    rintro x (q | ⟨r, hr, v, h1, h2⟩)
    · exact .inl q
    · obtain ⟨v', h3, _⟩ := h.row r (List.mem_append_right _ hr)
      have := CellV.at_app h3 vs
      rw [h1] at this; cases this
      exact .inr ⟨r, hr, v, h3, h2⟩
  have ap : ∀ x, Foot S' (σ ++ vs) x → Foot R (σ ++ vs) x → False := by
    intro x hx hy
    have hy' := footR x hy
    rcases hT.foot x hx with q | q
    · exact h.apart q hy'
    · have := (h.lt ((foot_and S R σ x).2 (.inr hy'))).2; omega
  refine ⟨⟨fun b hb => ?_, fun r hr => ?_, hT.at_.one, ?_, fun b hb r hr v hv hx => ?_, ?_, ?_, hT.at_.gd⟩, hT.size, fun x hx hf => hT.keep x hx fun hh => hf ((foot_and S R σ x).2 (.inl hh)), fun x hx => ?_, hT.same⟩
  · rcases List.mem_append.1 hb with q | q
    · exact hT.at_.blk b q
    · exact ((h.blk b (List.mem_append_right _ q)).app vs).keep (keepR _ (.inl ⟨b, q, rfl⟩))
  · rcases List.mem_append.1 hr with q | q
    · exact hT.at_.row r q
    · obtain ⟨v, h1, h2⟩ := h.row r (List.mem_append_right _ q)
      exact ⟨v, CellV.at_app h1 vs, h2.keep fun k hk => keepR k (.inr ⟨r, q, v, h1, hk⟩)⟩
  · refine List.pairwise_append.2 ⟨hT.at_.bb, (List.pairwise_append.1 h.bb).2.1, fun b hb b' hb' e => ?_⟩
    exact ap b.g (.inl ⟨b, hb, rfl⟩) (.inl ⟨b', hb', e.symm⟩)
  · rcases List.mem_append.1 hb with q | q
    · rcases List.mem_append.1 hr with q' | q'
      · exact hT.at_.br b q r q' v hv hx
      · exact ap b.g (.inl ⟨b, q, rfl⟩) (.inr ⟨r, q', v, hv, hx⟩)
    · rcases List.mem_append.1 hr with q' | q'
      · exact ap b.g (.inr ⟨r, q', v, hv, hx⟩) (.inl ⟨b, q, rfl⟩)
      · exact A.br b (List.mem_append_right _ q) r (List.mem_append_right _ q') v hv hx
  · refine List.pairwise_append.2 ⟨hT.at_.rr, (List.pairwise_append.1 A.rr).2.1, fun r hr r' hr' v v' x h1 h2 h3 h4 => ?_⟩
    exact ap x (.inr ⟨r, hr, v, h1, h3⟩) (.inr ⟨r', hr', v', h2, h4⟩)
  · obtain ⟨x, hx⟩ := hT.at_.ex
    exact ⟨x, (foot_and _ _ _ x).2 (.inl hx)⟩
  · rcases (foot_and _ _ _ x).1 hx with q | q
    · rcases hT.foot x q with q | q
      · exact .inl ((foot_and _ _ _ x).2 (.inl q))
      · exact .inr q
    · exact .inl ((foot_and _ _ _ x).2 (.inr (footR x q)))
theorem isDone_ok {r : R2} {v : AV} {k : Nat} (h : isDone r v k = true) : ∃ h1, r = .ok v h1 ∧ curG h1 = some k := by
  cases r with
  | bad => cases h
  | ok v' h1 =>
    obtain ⟨e1, e2⟩ := ifB_inv (show ifB (eqAV v' v) (stOk (some k) (curG h1)) false = true from h) (by decide)
    refine ⟨h1, by rw [eqAV_ok e1], ?_⟩
    cases hc : curG h1 with
    | none => rw [hc] at e2; cases e2
    | some b => rw [hc] at e2; rw [Nat.eq_of_beq_eq_true e2]
theorem isSame_ok {r : R2} {v : AV} (h : isSame r v = true) : ∃ h1, r = .ok v h1 := by
  cases r with
  | bad => cases h
  | ok v' h1 => exact ⟨h1, by rw [eqAV_ok (show eqAV v' v = true from h)]⟩
variable {prim : FuncId → Option FnC}
omit [Env] in
/-- A function that is run from a state of memory. -/
theorem mem_run {vals : List Value} {B : Nat} {L : List (MSt × Nat)} {w : World} {RT : List Rule} {f : FuncId} {avs : List AV} {A : Array Value} {v : AV} {res : Value} {k n0 n1 : Nat} {S0 S : MSt} {σ : List Value} (hnum : ∀ g fn, P.funcs[g]? = some fn → prim g = none → fn.name ≠ "runtime.NumGoroutine")
    (hRT : ∀ r ∈ RT, @RuleOk (memEnv vals B L) P r) (hprim : ∀ g p, prim g = some p → @PrimOk (memEnv vals B L) P rawG (fun g => (prim g).isSome) g p) (hp : prim f = none) (hS0 : L[0]? = some (S0, n0)) (hl : σ.length = n0) (h : MemAt w B S0 σ)
    (ha : @IsL (memEnv vals B L) avs A.toList) (hrun : isDone (callN ⟨P, rawG, RT⟩ prim 1000 100 (.fn f [] []) avs (H.gh 0)) v k = true) (hS : L[k]? = some (S, n1)) (hres : @Is (memEnv vals B L) v res) :
    Calls P f A w fun e w' => e = .returned res ∧ ∃ vs, n0 + vs.length = n1 ∧ MemTo w B S0 σ S (σ ++ vs) w' := by
  letI := memEnv vals B L
  haveI : RulesOk P RT := ⟨hRT⟩
  obtain ⟨h1, e1, e2⟩ := isDone_ok hrun
  refine (state_calls (k := 0) (σ := σ) hnum hprim hp ⟨S0, n0, hS0, hl, h⟩ (ha.to _) ha.det 1000 100 e1 e2 hres.det).mono ?_
  rintro e w1 ⟨u, vs, rfl, hu, hE⟩
  obtain ⟨q1, q2⟩ := mem_of_eff hS0 hS (fun x o hx => (h.gd x o hx).2) hE
  exact ⟨by rw [hres.only _ _ hu], vs, by rw [List.length_append, hl] at q1; exact q1, q2⟩
omit [Env] in
/-- A function that changes memory so, as a rule. -/
theorem mem_rule {vals : List Value} {B : Nat} {L : List (MSt × Nat)} {f : FuncId} {args : List AV} {us : List Value} {k k1 n n1 : Nat} {S S1 : MSt} {res : AV} {rv : Value} (hS : L[k]? = some (S, n)) (hS1 : L[k1]? = some (S1, n1)) (hen : ∀ (A : Array Value) (w : World), (callFunc f A).run P w = .ok (.enter f A) w)
    (ha : @IsL (memEnv vals B L) args us) (hr : @Is (memEnv vals B L) res rv) (hc : ∀ w σ, σ.length = n → MemAt w B S σ → Calls P f us.toArray w fun e w' => e = .returned rv ∧ ∃ vs, n + vs.length = n1 ∧ MemTo w B S σ S1 (σ ++ vs) w') : @CRuleOk (memEnv vals B L) P ⟨f, args, some k, some k1, res⟩ := by
  letI := memEnv vals B L
  refine ⟨ha.det, hr.det, rfl, hen, fun σ w A he hu => ?_⟩
  obtain ⟨S', n', e1, e2, e3⟩ := he k rfl
  rw [hS] at e1; cases e1
  have eu := ha.only _ hu
  obtain ⟨A⟩ := A
  have eu : A = us := eu
  subst eu
  refine (hc w σ e2 e3).mono ?_
  rintro e w' ⟨rfl, vs, h1, h2⟩
  exact ⟨rv, vs, k, rfl, hr.to _, rfl, mem_eff hS hS1 e2 h1 h2⟩
/-- A function that reads no memory, as a rule. -/
theorem fn_rule {f : FuncId} {args : List AV} {us : List Value} {res : AV} {rv : Value} (hen : ∀ (A : Array Value) (w : World), (callFunc f A).run P w = .ok (.enter f A) w) (ha : IsL args us) (hr : Is res rv)
    (hc : ∀ w, Calls P f us.toArray w fun e w' => e = .returned rv ∧ RowKit.Below w.heap.size w w') : CRuleOk P ⟨f, args, none, none, res⟩ := by
  refine ⟨ha.det, hr.det, by simp [ha.stat, hr.stat], hen, fun σ w A he hu => ?_⟩
  have eu := ha.only _ hu
  obtain ⟨A⟩ := A
  have eu : A = us := eu
  subst eu
  refine (hc w).mono ?_
  rintro e w' ⟨rfl, hb⟩
  exact ⟨rv, rfl, hr.to _, hb⟩
end
section
variable [Gnd] {P : Program}
/-- A row of abstract values, and what they stand for where it matters. -/
inductive IsO : List AV → List (Option Value) → Prop
  | nil : IsO [] []
  | any {l : List AV} {us : List (Option Value)} : IsO l us → IsO (.sx 0 0 :: l) (none :: us)
  | is {a : AV} {u : Value} {l : List AV} {us : List (Option Value)} : Is a u → IsO l us → IsO (a :: l) (some u :: us)
theorem IsO.det : ∀ {l : List AV} {us : List (Option Value)}, IsO l us → detL l = true
  | _, _, .nil => rfl
  | _, _, .any h2 => by
    have := IsO.det h2
    simp only [detL, List.all_cons, Bool.and_eq_true] at this ⊢
    exact ⟨rfl, this⟩
  | _, _, .is h1 h2 => by
    have := IsO.det h2
    simp only [detL, List.all_cons, Bool.and_eq_true] at this ⊢
    exact ⟨h1.det, this⟩
theorem IsO.to (ι : Inj) : ∀ {l : List AV} {us : List (Option Value)} {vs : List Value}, IsO l us → Slots us vs → RVL ι l vs
  | _, _, _, .nil, .nil => .nil
  | _, _, _, .any h, .any h' => .cons (.any 0 _) (IsO.to ι h h')
  | _, _, _, .is h1 h, .is h' => .cons (h1.to ι) (IsO.to ι h h')
theorem IsO.from (ι : Inj) : ∀ {l : List AV} {us : List (Option Value)} {vs : List Value}, IsO l us → RVL ι l vs → Slots us vs
  | _, _, _, .nil, .nil => .nil
  | _, _, _, .any h, .cons _ h' => .any (IsO.from ι h h')
  | _, _, _, .is h1 h, .cons h2 h' => by
    cases h1.only ι _ h2
    exact .is (IsO.from ι h h')
theorem IsO.app : ∀ {l l' : List AV} {us us' : List (Option Value)}, IsO l us → IsO l' us' → IsO (l ++ l') (us ++ us')
  | _, _, _, _, .nil, h => h
  | _, _, _, _, .any h1, h => .any (IsO.app h1 h)
  | _, _, _, _, .is h0 h1, h => .is h0 (IsO.app h1 h)
theorem IsO.repl : ∀ n, IsO (List.replicate n (.sx 0 0)) (List.replicate n none)
  | 0 => .nil
  | n + 1 => .any (IsO.repl n)
theorem onE_true {e e' : E} (h : onE e' (onE e true (fun _ => false) (fun _ => false) false) (fun i => onE e false (fun j => Nat.beq i j) (fun _ => false) false) (fun i => onE e false (fun _ => false) (fun j => Nat.beq i j) false) (onE e false (fun _ => false) (fun _ => false) true) = true) : e' = e := by
  cases e' <;> cases e <;> first | rfl | (cases h; done) | skip
  · rw [Nat.eq_of_beq_eq_true h]
  · rw [Nat.eq_of_beq_eq_true h]
theorem piece_get {f : Fr} : ∀ (l : List AV) (t : Nat), (List.rec (motive := fun _ => Nat → Bool) (fun _ => true) (fun v _ ih t => ifB (eqAV v (.sx 0 0)) (forceN (Nat.succ t) ih) (ifB (eqAV v ((getC t).run f)) (forceN (Nat.succ t) ih) false)) l : Nat → Bool) t = true → ∀ i v, l[i]? = some v → v = .sx 0 0 ∨ v = (getC (t + i)).run f
  | [], _, _, i, v, hv => by simp at hv
  | x :: l, t, h, i, v, hv => by
    have h : ifB (eqAV x (.sx 0 0)) (forceN (Nat.succ t) (List.rec (motive := fun _ => Nat → Bool) (fun _ => true) (fun v _ ih t => ifB (eqAV v (.sx 0 0)) (forceN (Nat.succ t) ih) (ifB (eqAV v ((getC t).run f)) (forceN (Nat.succ t) ih) false)) l)) (ifB (eqAV x ((getC t).run f)) (forceN (Nat.succ t) (List.rec (motive := fun _ => Nat → Bool) (fun _ => true) (fun v _ ih t => ifB (eqAV v (.sx 0 0)) (forceN (Nat.succ t) ih) (ifB (eqAV v ((getC t).run f)) (forceN (Nat.succ t) ih) false)) l)) false) = true := h
    rw [forceN_eq] at h
    have next : (List.rec (motive := fun _ => Nat → Bool) (fun _ => true) (fun v _ ih t => ifB (eqAV v (.sx 0 0)) (forceN (Nat.succ t) ih) (ifB (eqAV v ((getC t).run f)) (forceN (Nat.succ t) ih) false)) l : Nat → Bool) (t + 1) = true ∧ (x = .sx 0 0 ∨ x = (getC t).run f) := by
      cases hb : eqAV x (.sx 0 0) with
      | true => rw [hb] at h; exact ⟨h, .inl (eqAV_ok hb)⟩
      | false =>
        rw [hb] at h
        cases hc : eqAV x ((getC t).run f) with
        | true => rw [hc] at h; exact ⟨h, .inr (eqAV_ok hc)⟩
        | false => rw [hc] at h; cases h
    cases i with
    | zero =>
      have hv : x = v := by simpa using hv
      subst hv
      exact next.2
    | succ i =>
      have := piece_get l (t + 1) next.1 i v (by simpa using hv)
      rwa [Nat.add_assoc, Nat.add_comm 1 i] at this
theorem isPiece_ok {nt : Nat} {r : RS} {e : E} {k : Nat} {l : List AV} (h : isPiece nt r e k l = true) : ∃ f h1, r = .ok e f h1 ∧ curG h1 = some k ∧ l.length = nt ∧ ∀ i v, l[i]? = some v → v = .sx 0 0 ∨ v = (getC i).run f := by
  cases r with
  | bad => cases h
  | ok e' f h1 =>
    have ft : false ≠ true := by decide
    obtain ⟨e1, h⟩ := ifB_inv (show ifB _ _ false = true from h) ft
    obtain ⟨e2, h⟩ := ifB_inv h ft
    obtain ⟨e3, h⟩ := ifB_inv h ft
    refine ⟨f, h1, by rw [onE_true e1], ?_, ?_, fun i v hv => ?_⟩
    · cases hc : curG h1 with
      | none => rw [hc] at e2; cases e2
      | some b => rw [hc] at e2; rw [Nat.eq_of_beq_eq_true e2]
    · rw [← lenL_eq]; exact Nat.eq_of_beq_eq_true e3
    · have := piece_get l 0 h i v hv
      rwa [Nat.zero_add] at this
variable {prim : FuncId → Option FnC}
end
end
end Go.Proofs.YtenpnejkgopghaaDoor.AK
