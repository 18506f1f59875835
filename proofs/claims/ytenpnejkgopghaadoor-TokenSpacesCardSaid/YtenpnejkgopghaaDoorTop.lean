/- Proved: token.All as a call at any place of a law; what a law begins with. Conditions: the listed variables hold what their texts lay in them; the world's shape. -/
import Derived.Test.YtenpnejkgopghaaDoorScG
import Derived.Test.YtenpnejkgopghaaDoorLaidW
import Derived.HandedShaped
import Derived.Handed
import Derived.Shelf.Vars
import GoSem.ClaimGoes
set_option linter.unusedVariables false
set_option linter.unusedSectionVars false
set_option linter.unusedSimpArgs false
namespace Go.Proofs.YtenpnejkgopghaaDoor
open Go
variable {H : Type} {enc : TypeId × Value → H}
/-- A change's claim, a condition of one's own and the world's shape at hand. -/
theorem handed_and_shaped {a : Assume} {C : Checked} {os : Os} {f : FuncId} {fn : Func} {s : ChangeSpec} {conds : List PathCond} {apart fresh handsOn again : Bool} {X : World → Array Value → Prop}
    (hX : ∀ (w w' : World) (args : Array Value), w.heap = w'.heap → X w args → X w' args)
    (own : ownKnob C.prog.godebug = none) (started : os.Started) (noInit : C.prog.inits.idxOf? f = none) (hfn : C.prog.funcs[f]? = some fn)
    (witness : ∃ (w : World) (tape : Tape) (i : Input), w.os = os ∧ (w.forCall tape i).Shaped C.prog ∧ i.vars = [] ∧ Input.okWide C.prog (w.forCall tape i) .any w.heap.size f i ∧
      ((s.pre enc C.prog fn conds apart (w.forCall tape i).memory i.args ∧ X (w.forCall tape i).memory i.args) ∧ sizedMet enc C.prog fn (OpenSpec.ofChange s) apart (w.forCall tape i).memory i.args) ∧ a.holds C.prog (lone (Frame.enter C.prog f i.args .normal) [] (w.forCall tape i)))
    (contract : ∀ (W : World) (base : Nat) (args : Array Value) (ds gs : List (DataW H)) (before : List MemPlace),
      (∀ (j : Nat) t v, fn.params[j]? = some t → args[j]? = some v → Value.okWide C.prog W .any base t v) →
      DataW.Whole enc C.prog fn.params.toList s.vars apart W args.toList ds gs before →
      conds.all (PathCond.test C.prog ⟨fn.params.toList, ds, s.plain.varTypes C.prog, gs⟩) = true →
      (DataW.weightsEach C.prog (fn.params.toList ++ s.plain.varTypes C.prog) (ds ++ gs)).all (· ≤ reachBytes) = true → X W args → W.ShapedOpen C.prog →
      a.holds C.prog (lone (Frame.enter C.prog f args .normal) [] W) →
      Calls C.prog f args W fun e W' => ∃ v, e = .returned v ∧ s.post enc C.prog fn apart fresh handsOn again W args v W') :
    ReturnsInHanded a C os f .any (fun w args => (s.pre enc C.prog fn conds apart w args ∧ X w args) ∧ sizedMet enc C.prog fn (OpenSpec.ofChange s) apart w args) (s.post enc C.prog fn apart fresh handsOn again) := by
  refine returnsInHanded_of_calls own started noInit witness ?_
  intro w tape i _ hsh _ hok hpre hholds
  obtain ⟨_, _, _, fn', hfn', _, _, _, _, hval⟩ := hok
  have e : fn' = fn := Option.some.inj (hfn'.symm.trans hfn)
  subst e
  obtain ⟨⟨⟨ds, gs, before, hw, hc⟩, hx⟩, hz⟩ := hpre
  have hw' := DataW.Whole.of_heap (w' := w.forCall tape i) (by rfl) hw
  refine (contract (w.forCall tape i) w.heap.size i.args ds gs before hval hw' hc (hz.weights hw) (hX _ _ _ (by rfl) hx) hsh hholds).mono fun e W' ⟨v, he, hp⟩ => ?_
  subst he
  exact ChangeSpec.post_blind hp
end Go.Proofs.YtenpnejkgopghaaDoor
namespace Go.Proofs.YtenpnejkgopghaaDoor.AK
open Go
theorem noGoes : (Tryd.prog.funcs.all fun fn => !fn.goes) = true := by kernel_rfl
theorem goes_of_none {P : Program} (h : (P.funcs.all fun fn => !fn.goes) = true) (c : OpenClaim) (hs : c.start = .entering) : false = c.goesBy P := by
  have h1 : ∀ (g : FuncId), (P.funcs[g]?).any Func.goes = false := by
    intro g
    cases hg : P.funcs[g]? with
    | none => rfl
    | some fn =>
      rw [Array.all_eq_true_iff_forall_mem] at h
      have := h fn (Array.mem_of_getElem? hg)
      simpa using this
  have h2 : P.funcs.any Func.goes = false := by
    rw [Array.any_eq_false]
    intro i hi hh
    have := h1 i
    rw [Array.getElem?_eq_getElem hi] at this
    simp [hh] at this
  have h3 : ∀ f, P.goes f = false := by
    intro f
    unfold Program.goes
    rw [h2, Bool.and_false, Bool.or_false, List.any_eq_false]
    intro g _
    rw [h1 g]; simp
  unfold OpenClaim.goesBy Program.goesAt Program.goesFrom
  rw [hs]
  simp only [Bool.or_false]
  cases P.funcNamed c.func with
  | none => rfl
  | some f => exact (h3 f).symm
end Go.Proofs.YtenpnejkgopghaaDoor.AK
namespace Go.Proofs.YtenpnejkgopghaaDoor.Tok
open Go Go.RowKit Go.Proofs.YtenpnejkgopghaaDoor.AK
/-- What a law's calls ask of the world. -/
structure Ready (w : World) : Prop where
  len : ∃ m, w.cell? ⟨0, 0, none⟩ = some (.int .i64 m)
  range : ∃ tp p, w.var? Tryd.prog "strconv.ErrRange" = some #[.iface tp p]
theorem ready_of {W : World} (L : LaidW.Laid W) (h : W.ShapedOpen Tryd.prog) : Ready W :=
  ⟨cell_of_shapedOpen_int h (t := 3) (zero := #[.int .i64 0]) (of_decide_eq_true (by kernel_rfl)) (by kernel_rfl) rfl (by kernel_rfl) (by kernel_rfl) Tryd.underlying3, by obtain ⟨a, s, h, _⟩ := L.ErrRange; exact ⟨_, _, h⟩⟩
/-- The blocks below that the calls read. -/
abbrev gndOf (w : World) : Gnd := ⟨fun x => if x = 0 ∨ x = 5 then w.heap[x]? else none⟩
theorem gnd_at {w0 w : World} (b : Below w0.heap.size w0 w) (x : Nat) (o : Obj) (h : (gndOf w0).obj x = some o) : x < w.heap.size ∧ w.heap[x]? = some o := by
  have h : (if x = 0 ∨ x = 5 then w0.heap[x]? else none) = some o := h
  split at h
  · have h1 := (Array.getElem?_eq_some_iff.1 h).1
    exact ⟨Nat.lt_of_lt_of_le h1 b.size, by rw [b.block x h1]; exact h⟩
  · cases h
theorem gnd_ok {w : World} (h : Ready w) : @GndOk (gndOf w) := by
  obtain ⟨⟨m, h1⟩, ⟨tp, p, h2⟩⟩ := h
  constructor
  · unfold World.cell? at h1
    split at h1
    · rename_i C t fr e
      exact ⟨m, C, t, fr, (if_pos (.inl rfl)).trans e, h1⟩
    all_goals cases h1
  · unfold World.var? at h2
    rw [show Tryd.prog.globalNamed "strconv.ErrRange" = some 5 by kernel_rfl, Option.bind_some] at h2
    split at h2
    · rename_i C t fr e
      injection h2 with h2
      exact ⟨tp, p, t, fr, (if_pos (.inr rfl)).trans (by rw [← h2]; exact e)⟩
    · cases h2
/-- token.All, at any place of a law. -/
theorem all_any {w0 w : World} (R : Ready w0) (b : Below w0.heap.size w0 w) {s : ByteArray} (hs : s.size ≤ 65536) {L : Lexed} (hL : lexTo s 0 [] = L) :
    Calls Tryd.prog 10 #[.string s] w fun e w' => ∃ v, e = .returned (.tuple #[v, .int .i64 ((L.at_ : Nat) : Int), .int .i64 L.e]) ∧ Row w' w.heap.size 33 6 v L.ts.length (tokX L.ts) ∧ Below w.heap.size w w' := by
  letI := gndOf w0
  subst hL
  exact all_calls hs w (gnd_ok R) (gnd_at b)
end Go.Proofs.YtenpnejkgopghaaDoor.Tok
