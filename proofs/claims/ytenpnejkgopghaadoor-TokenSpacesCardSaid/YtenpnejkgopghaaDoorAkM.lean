/- Proved: Code and functions over memory that is told by blocks and rows. Conditions: none. -/
import Derived.Test.YtenpnejkgopghaaDoorAkK
import Derived.Sort.LoopGhostIn
set_option maxRecDepth 100000
set_option linter.unusedVariables false
set_option linter.unusedSimpArgs false
set_option linter.unusedSectionVars false
namespace Go.Proofs.YtenpnejkgopghaaDoor.AK
open Go
noncomputable section
/-! ### Code and functions over memory that is told -/
section
set_option linter.unusedVariables false
variable [Gnd] {P : Program}
/-- What a name stands for, laid in. -/
def CellV.inst (σ : List Value) (c : CellV) : CellV := match c.at_ σ with | some v => .st v | none => c
def Blk.inst (σ : List Value) (b : Blk) : Blk := ⟨b.g, b.el, b.cs.map (CellV.inst σ)⟩
def Rw.inst (σ : List Value) (r : Rw) : Rw := ⟨r.v.inst σ, r.e, r.sz, r.n, r.xs⟩
def MSt.inst (σ : List Value) (S : MSt) : MSt := ⟨S.blks.map (Blk.inst σ), S.rows.map (Rw.inst σ)⟩
theorem CellV.inst_at (σ : List Value) (c : CellV) : (c.inst σ).at_ [] = c.at_ σ := by
  unfold CellV.inst
  cases h : c.at_ σ with
  | some v => rfl
  | none =>
    cases c with
    | st v => cases h
    | nm n => rfl
theorem blk_inst {w : World} {B : Nat} {σ : List Value} {b : Blk} : BlkAt w B [] (b.inst σ) ↔ BlkAt w B σ b := by
  unfold BlkAt
  have : (b.inst σ).cs.map (CellV.at_ []) = b.cs.map (CellV.at_ σ) := by
    show (b.cs.map (CellV.inst σ)).map (CellV.at_ []) = _
    rw [List.map_map]
    exact List.map_congr_left fun c _ => c.inst_at σ
  rw [this]
  rfl
theorem row_inst {w : World} {B : Nat} {σ : List Value} {r : Rw} : RowAt w B [] (r.inst σ) ↔ RowAt w B σ r := by
  unfold RowAt
  have : (r.inst σ).v.at_ [] = r.v.at_ σ := r.v.inst_at σ
  rw [this]
  rfl
theorem foot_inst {S : MSt} {σ : List Value} {x : Nat} : Foot (S.inst σ) [] x ↔ Foot S σ x := by
  constructor
  · rintro (⟨b, hb, h⟩ | ⟨r, hr, v, h1, h2⟩)
    · obtain ⟨b', hb', rfl⟩ := List.mem_map.1 hb
      exact .inl ⟨b', hb', h⟩
    · obtain ⟨r', hr', rfl⟩ := List.mem_map.1 hr
      exact .inr ⟨r', hr', v, (r'.v.inst_at σ).symm.trans h1, h2⟩
  · rintro (⟨b, hb, h⟩ | ⟨r, hr, v, h1, h2⟩)
    · exact .inl ⟨_, List.mem_map_of_mem hb, h⟩
    · exact .inr ⟨_, List.mem_map_of_mem hr, v, (r.v.inst_at σ).trans h1, h2⟩
theorem mem_inst {w : World} {B : Nat} {S : MSt} {σ : List Value} : (MemAt w B (S.inst σ) [] ∧ ∀ u ∈ σ, rawOne u = true) ↔ MemAt w B S σ := by
  constructor
  · rintro ⟨h, ho⟩
    refine ⟨fun b hb => blk_inst.1 (h.blk _ (List.mem_map_of_mem hb)), fun r hr => row_inst.1 (h.row _ (List.mem_map_of_mem hr)), ho, ?_, fun b hb r hr v hv => ?_, ?_, ?_, h.gd⟩
    · exact (List.pairwise_map (f := Blk.inst σ) (R := fun b b' => b.g ≠ b'.g)).1 h.bb
    · exact h.br _ (List.mem_map_of_mem hb) _ (List.mem_map_of_mem hr) v ((r.v.inst_at σ).trans hv)
    · refine List.Pairwise.imp ?_ ((List.pairwise_map (f := Rw.inst σ) (R := fun r r' : Rw => ∀ v v' x, r.v.at_ [] = some v → r'.v.at_ [] = some v' → ownB v = some x → ownB v' ≠ some x)).1 h.rr)
      intro r r' hh v v' x h1 h2
      exact hh v v' x ((r.v.inst_at σ).trans h1) ((r'.v.inst_at σ).trans h2)
    · obtain ⟨x, hx⟩ := h.ex
      exact ⟨x, foot_inst.1 hx⟩
  · intro h
    refine ⟨⟨fun b hb => ?_, fun r hr => ?_, fun _ h => by (cases h), ?_, fun b hb r hr v hv => ?_, ?_, ?_, h.gd⟩, h.one⟩
    · obtain ⟨b', hb', rfl⟩ := List.mem_map.1 hb
      exact blk_inst.2 (h.blk _ hb')
    · obtain ⟨r', hr', rfl⟩ := List.mem_map.1 hr
      exact row_inst.2 (h.row _ hr')
    · exact (List.pairwise_map (f := Blk.inst σ) (R := fun b b' => b.g ≠ b'.g)).2 h.bb
    · obtain ⟨b', hb', rfl⟩ := List.mem_map.1 hb
      obtain ⟨r', hr', rfl⟩ := List.mem_map.1 hr
      exact h.br _ hb' _ hr' v ((r'.v.inst_at σ).symm.trans hv)
    · refine (List.pairwise_map (f := Rw.inst σ) (R := fun r r' : Rw => ∀ v v' x, r.v.at_ [] = some v → r'.v.at_ [] = some v' → ownB v = some x → ownB v' ≠ some x)).2 (List.Pairwise.imp ?_ h.rr)
      intro r r' hh v v' x h1 h2
      exact hh v v' x ((r.v.inst_at σ).symm.trans h1) ((r'.v.inst_at σ).symm.trans h2)
    · obtain ⟨x, hx⟩ := h.ex
      exact ⟨x, foot_inst.2 hx⟩
theorem memTo_inst {w w' : World} {B : Nat} {S S1 : MSt} {σ σ1 : List Value} (ho : ∀ u ∈ σ1, rawOne u = true) : MemTo w B (S.inst σ) [] (S1.inst σ1) [] w' ↔ MemTo w B S σ S1 σ1 w' := by
  constructor
  · intro h
    refine ⟨mem_inst.1 ⟨h.at_, ho⟩, h.size, fun x hx hf => h.keep x hx fun hh => hf (foot_inst.1 hh), fun x hx => ?_, h.same⟩
    rcases h.foot x (foot_inst.2 hx) with q | q
    · exact .inl (foot_inst.1 q)
    · exact .inr q
  · intro h
    refine ⟨(mem_inst.2 h.at_).1, h.size, fun x hx hf => h.keep x hx fun hh => hf (foot_inst.2 hh), fun x hx => ?_, h.same⟩
    rcases h.foot x (foot_inst.1 hx) with q | q
    · exact .inl (foot_inst.2 q)
    · exact .inr q
theorem inst_nil (S : MSt) : S.inst [] = S := by
  have hc : ∀ c : CellV, c.inst [] = c := fun c => by cases c <;> rfl
  obtain ⟨bs, rs⟩ := S
  unfold MSt.inst
  congr 1
  · conv => rhs; rw [← List.map_id bs]
    refine List.map_congr_left fun b _ => ?_
    obtain ⟨g, el, cs⟩ := b
    have : cs.map (CellV.inst []) = cs := (List.map_congr_left fun c _ => hc c).trans (List.map_id cs)
    unfold Blk.inst
    simp only [this]; rfl
  · conv => rhs; rw [← List.map_id rs]
    refine List.map_congr_left fun r _ => ?_
    obtain ⟨v, e, sz, n, xs⟩ := r
    unfold Rw.inst
    simp [hc]
/-- Slots by names. -/
def oInst (σ : List Value) (o : List (Option CellV)) : List (Option Value) := o.map fun c => c.bind (CellV.at_ σ)
/-- From memory so, with slots so: code does this. -/
def Goes (P : Program) (nt B : Nat) (c : Code) (S : MSt) (o : List (Option Value)) (post : Exit → MSt → List (Option Value) → Prop) : Prop :=
  ∀ (lo : Nat) (w0 : World) (S0 : MSt) (a : Act) (w : World), B ≤ lo → MemTo w0 B S0 [] S [] w → Fra nt lo (Foot S []) o a w →
    c.wpIn (Wd none) 0 P (fun e a1 w1 => ∃ S1 o1, post e S1 o1 ∧ MemTo w0 B S0 [] S1 [] w1 ∧ Fra nt lo (Foot S1 []) o1 a1 w1) a w
/-- From memory so, a function does this. -/
def Does (P : Program) (f : FuncId) (us : List Value) (B : Nat) (S : MSt) (post : Value → MSt → Prop) : Prop :=
  ∀ w, MemAt w B S [] → Calls P f us.toArray w fun e w' => ∃ v S1, e = .returned v ∧ post v S1 ∧ MemTo w B S [] S1 [] w'
variable {nt B : Nat} {c d : Code} {S : MSt} {o : List (Option Value)} {post post' : Exit → MSt → List (Option Value) → Prop}
theorem Goes.mono (h : Goes P nt B c S o post) (hp : ∀ e S1 o1, post e S1 o1 → post' e S1 o1) : Goes P nt B c S o post' := fun lo w0 S0 a w hB hT hF =>
  wpIn_mono (h lo w0 S0 a w hB hT hF) fun e a1 w1 ⟨S1, o1, q, r⟩ => ⟨S1, o1, hp _ _ _ q, r⟩
theorem Goes.seq (h : Goes P nt B c S o fun e S1 o1 => match e with | .normal => Goes P nt B d S1 o1 post | e => post e S1 o1) : Goes P nt B (.seq c d) S o post := fun lo w0 S0 a w hB hT hF => by
  refine wpIn_seq (wpIn_mono (h lo w0 S0 a w hB hT hF) ?_)
  rintro e a1 w1 ⟨S1, o1, q, r1, r2⟩
  cases e with
  | normal => exact q lo w0 S0 a1 w1 hB r1 r2
  | exit _ => exact ⟨S1, o1, q, r1, r2⟩
  | goto _ => exact ⟨S1, o1, q, r1, r2⟩
  | ret => exact ⟨S1, o1, q, r1, r2⟩
  | panic _ => exact ⟨S1, o1, q, r1, r2⟩
  | outgrown => exact ⟨S1, o1, q, r1, r2⟩
theorem Goes.block {i : Nat} (h : Goes P nt B c S o fun e S1 o1 => match e with | .exit j => if j = i then post .normal S1 o1 else post (.exit j) S1 o1 | e => post e S1 o1) : Goes P nt B (.block i c) S o post := fun lo w0 S0 a w hB hT hF => by
  refine wpIn_block (wpIn_mono (h lo w0 S0 a w hB hT hF) ?_)
  rintro e a1 w1 ⟨S1, o1, q, r1, r2⟩
  cases e with
  | exit j =>
    show if j = i then _ else _
    have q : if j = i then post .normal S1 o1 else post (.exit j) S1 o1 := q
    split <;> rename_i hj
    · rw [if_pos hj] at q; exact ⟨S1, o1, q, r1, r2⟩
    · rw [if_neg hj] at q; exact ⟨S1, o1, q, r1, r2⟩
  | normal => exact ⟨S1, o1, q, r1, r2⟩
  | goto _ => exact ⟨S1, o1, q, r1, r2⟩
  | ret => exact ⟨S1, o1, q, r1, r2⟩
  | panic _ => exact ⟨S1, o1, q, r1, r2⟩
  | outgrown => exact ⟨S1, o1, q, r1, r2⟩
theorem Goes.skip (h : post .normal S o) : Goes P nt B .skip S o post := fun lo w0 S0 a w hB hT hF => wpIn_skip ⟨S, o, h, hT, hF⟩
theorem Goes.label {l : Nat} (h : post .normal S o) : Goes P nt B (.label l) S o post := fun lo w0 S0 a w hB hT hF => wpIn_label ⟨S, o, h, hT, hF⟩
theorem Goes.goto {l : Nat} (h : post (.goto l) S o) : Goes P nt B (.goto l) S o post := fun lo w0 S0 a w hB hT hF => wpIn_goto ⟨S, o, h, hT, hF⟩
theorem Goes.exit {l : Nat} (h : post (.exit l) S o) : Goes P nt B (.exit l) S o post := fun lo w0 S0 a w hB hT hF => wpIn_exit ⟨S, o, h, hT, hF⟩
theorem Goes.ret (h : post .ret S o) : Goes P nt B .ret S o post := fun lo w0 S0 a w hB hT hF => wpIn_ret ⟨S, o, h, hT, hF⟩
/-- A loop, by an invariant that bears a number. -/
theorem Goes.loop (I : Nat → MSt → List (Option Value) → Prop) (n0 : Nat) (h0 : I n0 S o) (round : ∀ n S o, I n S o → Goes P nt B c S o fun e S1 o1 => match e with | .normal => ∃ n', n' < n ∧ I n' S1 o1 | e => post e S1 o1) : Goes P nt B (.loop c) S o post := fun lo w0 S0 a w hB hT hF => by
  refine wpIn_loop_ghost (fun n a w => ∃ S o, I n S o ∧ MemTo w0 B S0 [] S [] w ∧ Fra nt lo (Foot S []) o a w) n0 ⟨S, o, h0, hT, hF⟩ ?_
  rintro n a w ⟨S, o, hI, hT, hF⟩
  refine wpIn_mono (round n S o hI lo w0 S0 a w hB hT hF) ?_
  rintro e a1 w1 ⟨S1, o1, q, r1, r2⟩
  cases e with
  | normal =>
    obtain ⟨n', q1, q2⟩ := q
    exact ⟨n', q1, S1, o1, q2, r1, r2⟩
  | exit _ => exact ⟨S1, o1, q, r1, r2⟩
  | goto _ => exact ⟨S1, o1, q, r1, r2⟩
  | ret => exact ⟨S1, o1, q, r1, r2⟩
  | panic _ => exact ⟨S1, o1, q, r1, r2⟩
  | outgrown => exact ⟨S1, o1, q, r1, r2⟩
theorem jumpsIn_mono {F : Fence} {n : Nat} {c : Code} {Q : Exit → Act → World → Prop} : ∀ {m : Nat} {x : Code} {a : Act} {w : World}, jumpsIn F n P c Q m x a w → jumpsIn F n P c Q (m + 1) x a w
  | 0, _, _, _, h => h.elim
  | m + 1, x, a, w, h => by
    refine wpIn_mono (show x.wpIn F n P (fun e a w => match e with | .goto l => (match findLabel c l with | some r => jumpsIn F n P c Q m r a w | none => Q (.goto l) a w) | e => Q e a w) a w from h) fun e a1 w1 q => ?_
    cases e with
    | goto l =>
      show (match findLabel c l with | some r => jumpsIn F n P c Q (m + 1) r a1 w1 | none => Q (.goto l) a1 w1)
      have q : (match findLabel c l with | some r => jumpsIn F n P c Q m r a1 w1 | none => Q (.goto l) a1 w1) := q
      cases hf : findLabel c l with
      | some r => rw [hf] at q; exact jumpsIn_mono q
      | none => rw [hf] at q; exact q
    | _ => exact q
theorem jumpsIn_le {F : Fence} {n : Nat} {c : Code} {Q : Exit → Act → World → Prop} {m m' : Nat} {x : Code} {a : Act} {w : World} (h : jumpsIn F n P c Q m x a w) (hm : m ≤ m') : jumpsIn F n P c Q m' x a w := by
  induction hm with
  | refl => exact h
  | step _ ih => exact jumpsIn_mono ih
/-- Jumps back to a label, by an invariant that bears a number: what is behind the label. -/
theorem Goes.scope (l : Nat) (r : Code) (hl : findLabel c l = some r) (I : Nat → MSt → List (Option Value) → Prop) (n0 : Nat) (h0 : Goes P nt B c S o fun e S1 o1 => match e with | .goto j => j = l ∧ ∃ n', n' < n0 ∧ I n' S1 o1 | e => post e S1 o1)
    (round : ∀ n S o, I n S o → Goes P nt B r S o fun e S1 o1 => match e with | .goto j => j = l ∧ ∃ n', n' < n ∧ I n' S1 o1 | e => post e S1 o1) : Goes P nt B (.scope c) S o post := fun lo w0 S0 a w hB hT hF => by
  let Q : Exit → Act → World → Prop := fun e a1 w1 => ∃ S1 o1, post e S1 o1 ∧ MemTo w0 B S0 [] S1 [] w1 ∧ Fra nt lo (Foot S1 []) o1 a1 w1
  have key : ∀ n, ∀ S o a w, I n S o → MemTo w0 B S0 [] S [] w → Fra nt lo (Foot S []) o a w → jumpsIn (Wd none) 0 P c Q (n + 1) r a w := by
    intro n
    induction n using Nat.strongRecOn with
    | _ n ih =>
      intro S o a w hI hT hF
      refine wpIn_mono (round n S o hI lo w0 S0 a w hB hT hF) ?_
      rintro e a1 w1 ⟨S1, o1, q, r1, r2⟩
      cases e with
      | goto j =>
        obtain ⟨rfl, n', q1, q2⟩ := q
        show (match findLabel c j with | some r => jumpsIn (Wd none) 0 P c Q n r a1 w1 | none => Q (.goto j) a1 w1)
        rw [hl]
        exact jumpsIn_le (ih n' q1 S1 o1 a1 w1 q2 r1 r2) q1
      | normal => exact ⟨S1, o1, q, r1, r2⟩
      | exit _ => exact ⟨S1, o1, q, r1, r2⟩
      | ret => exact ⟨S1, o1, q, r1, r2⟩
      | panic _ => exact ⟨S1, o1, q, r1, r2⟩
      | outgrown => exact ⟨S1, o1, q, r1, r2⟩
  letI := Env.plain
  refine wpIn_scope_ (n0 + 1) ?_
  refine wpIn_mono (h0 lo w0 S0 a w hB hT hF) ?_
  rintro e a1 w1 ⟨S1, o1, q, r1, r2⟩
  cases e with
  | goto j =>
    obtain ⟨rfl, n', q1, q2⟩ := q
    show (match findLabel c j with | some r => jumpsIn (Wd none) 0 P c Q n0 r a1 w1 | none => Q (.goto j) a1 w1)
    rw [hl]
    exact jumpsIn_le (key n' S1 o1 a1 w1 q2 r1 r2) q1
  | normal => exact ⟨S1, o1, q, r1, r2⟩
  | exit _ => exact ⟨S1, o1, q, r1, r2⟩
  | ret => exact ⟨S1, o1, q, r1, r2⟩
  | panic _ => exact ⟨S1, o1, q, r1, r2⟩
  | outgrown => exact ⟨S1, o1, q, r1, r2⟩
/-- A scope without jumps. -/
theorem Goes.scope0 (h0 : Goes P nt B c S o fun e S1 o1 => match e with | .goto _ => False | e => post e S1 o1) : Goes P nt B (.scope c) S o post := fun lo w0 S0 a w hB hT hF => by
  letI := Env.plain
  refine wpIn_scope_ 1 (wpIn_mono (h0 lo w0 S0 a w hB hT hF) ?_)
  rintro e a1 w1 ⟨S1, o1, q, r1, r2⟩
  cases e with
  | goto j => exact q.elim
  | normal => exact ⟨S1, o1, q, r1, r2⟩
  | exit _ => exact ⟨S1, o1, q, r1, r2⟩
  | ret => exact ⟨S1, o1, q, r1, r2⟩
  | panic _ => exact ⟨S1, o1, q, r1, r2⟩
  | outgrown => exact ⟨S1, o1, q, r1, r2⟩
end
/-! ### What a run of the interpreter tells: pieces, functions; functions as rules -/
section
set_option linter.unusedVariables false
variable [Gnd] {P : Program} {prim : FuncId → Option FnC} {vals : List Value} {B : Nat} {L : List (MSt × Nat)} {RT : List Rule}
/-- Slots that a run leaves: what they hold, where it matters; some go by a name that the run has made. -/
inductive IsD (E : Env) : List AV → List (Option CellV) → Prop
  | nil : IsD E [] []
  | any {l : List AV} {us : List (Option CellV)} : IsD E l us → IsD E (.sx 0 0 :: l) (none :: us)
  | is {a : AV} {u : Value} {l : List AV} {us : List (Option CellV)} : @Is E a u → IsD E l us → IsD E (a :: l) (some (.st u) :: us)
  | nm {m : Nat} {l : List AV} {us : List (Option CellV)} : IsD E l us → IsD E (.sx 2 m :: l) (some (.nm m) :: us)
theorem IsD.det {E : Env} : ∀ {l : List AV} {us : List (Option CellV)}, IsD E l us → detL l = true
  | _, _, .nil => rfl
  | _, _, .any h2 => by
    have := IsD.det h2
    simp only [detL, List.all_cons, Bool.and_eq_true] at this ⊢
    exact ⟨rfl, this⟩
  | _, _, .is h1 h2 => by
    letI := E
    have := IsD.det h2
    simp only [detL, List.all_cons, Bool.and_eq_true] at this ⊢
    exact ⟨h1.det, this⟩
  | _, _, .nm h2 => by
    have := IsD.det h2
    simp only [detL, List.all_cons, Bool.and_eq_true] at this ⊢
    exact ⟨rfl, this⟩
theorem IsD.slots {σ : List Value} (ho : ∀ u ∈ σ, rawOne u = true) : ∀ {l : List AV} {us : List (Option CellV)}, IsD (memEnv vals B L) l us → ∀ {vs : List Value}, @RVL (memEnv vals B L) (names σ) l vs → Slots (oInst σ us) vs := by
  letI := memEnv vals B L
  intro l us h
  induction h with
  | nil =>
    intro vs h'
    cases h'; exact .nil
  | any h ih =>
    intro vs h'
    cases h' with | cons q1 q2 => exact .any (ih q2)
  | is h1 h ih =>
    intro vs h'
    cases h' with
    | cons q1 q2 =>
      cases h1.only _ _ q1
      exact .is (ih q2)
  | @nm m l us h ih =>
    intro vs h'
    cases h' with
    | @cons _ _ u _ q1 q2 =>
      have := (store_nm m σ ho _ q1).1
      show Slots (Option.bind (some (.nm m)) (CellV.at_ σ) :: _) _
      rw [Option.bind_some, this]
      exact .is (ih q2)
/-- A piece of code that is run from a state of memory, its slots by names. -/
theorem mem_pieceD {w : World} {c : Code} {nt lo : Nat} {fr fr1 : List AV} {o0 : List (Option Value)} {o1 : List (Option CellV)} {a : Act} {e : E} {k n1 : Nat} {S0 S : MSt} (hnum : ∀ g fn, P.funcs[g]? = some fn → prim g = none → fn.name ≠ "runtime.NumGoroutine")
    (hRT : ∀ r ∈ RT, @RuleOk (memEnv vals B L) P r) (hprim : ∀ g p, prim g = some p → @PrimOk (memEnv vals B L) P rawG (fun g => (prim g).isSome) g p) (hS0 : L[0]? = some (S0, 0)) (h : MemAt w B S0 []) (hB : B ≤ lo) (hfra : Fra nt lo (Foot S0 []) o0 a w) (hmost : nt ≤ 576)
    (h0 : @IsO (memEnv vals B L) fr o0) (h1 : IsD (memEnv vals B L) fr1 o1) (hrun : isPiece nt ((codeC ⟨P, rawG, RT⟩ (fun g => (prim g).isSome) nt false c).run (callN ⟨P, rawG, RT⟩ prim 1000 100) 1000 (frV fr Fr.new 0) (H.gh 0) (fun f h => .ok .normal f h)) e k fr1 = true) (hS : L[k]? = some (S, n1))
    {Q : Exit → Act → World → Prop} (hQ : ∀ a1 w1 vs, vs.length = n1 → MemTo w B S0 [] S vs w1 → Fra nt lo (Foot S vs) (oInst vs o1) a1 w1 → Q (exitE e) a1 w1) : c.wpIn (Wd none) 0 P Q a w := by
  letI := memEnv vals B L
  haveI : RulesOk P RT := ⟨hRT⟩
  obtain ⟨f1, h2, e1, e2, e3, e4⟩ := isPiece_ok hrun
  have hat : At nt lo 0 [] fr a w := ⟨⟨S0, 0, hS0, rfl, h⟩, h0.to _ hfra.slots, hfra.size, hfra.low, hfra.defs.more fun x hx => by
      rcases hx with ⟨S', n', q1, q2⟩ | q
      · rw [hS0] at q1; cases q1; exact .inl q2
      · obtain ⟨o, ho⟩ := Option.isSome_iff_exists.1 q
        exact .inr (Nat.lt_of_lt_of_le (h.gd x o ho).1 hB)⟩
  refine piece_ok hnum hprim hat h0.det hmost 1000 100 e1 e2 fun a1 w1 vs ha1 hE => ?_
  rw [List.nil_append] at ha1 hE
  obtain ⟨q1, q2⟩ := mem_of_eff hS0 hS (fun x o hx => (h.gd x o hx).2) hE
  refine hQ a1 w1 vs q1 q2 ⟨?_, ha1.size, ha1.low, ha1.defs.mono fun x hx => .inl ⟨S, n1, hS, hx⟩⟩
  have key : ∀ (i : Nat) (l : List AV) (us : List Value), (∀ j v, l[j]? = some v → v = .sx 0 0 ∨ v = (getC (i + j)).run f1) → detL l = true → RVL (names vs) ((List.range' i l.length).map fun t => (fun v => bif detA v then v else .sx 0 0) ((getC t).run f1)) us → RVL (names vs) l us := by
    intro i l
    induction l generalizing i with
    | nil =>
      intro us _ _ h
      cases h; exact .nil
    | cons x l ih =>
      intro us hx hd h
      rw [List.length_cons, List.range'_succ, List.map_cons] at h
      have hd2 : detA x = true ∧ detL l = true := by
        simpa only [detL, List.all_cons, Bool.and_eq_true] using hd
      cases h with
      | cons q1 q2 =>
        refine .cons ?_ (ih (i + 1) _ (fun j v hv => ?_) hd2.2 q2)
        · rcases hx 0 x rfl with e | e
          · rw [e]; exact .any 0 _
          · rw [Nat.add_zero] at e
            rw [← e] at q1
            have q1 : RV _ (bif detA x then x else .sx 0 0) _ := q1
            rw [hd2.1] at q1
            exact q1
        · have := hx (j + 1) v (by simpa using hv)
          rwa [Nat.add_assoc, Nat.add_comm 1 j]
  have hfr := ha1.frame
  unfold frL at hfr
  rw [List.range_eq_range', ← e3] at hfr
  exact h1.slots q2.at_.one (key 0 fr1 _ (fun j v hv => by rw [Nat.zero_add]; exact e4 j v hv) h1.det hfr)
/-- A piece of code, run. -/
theorem Goes.run {c : Code} {nt : Nat} {fr fr1 : List AV} {o0 : List (Option Value)} {o1 : List (Option CellV)} {e : E} {k n1 : Nat} {S0 S : MSt} (hnum : ∀ g fn, P.funcs[g]? = some fn → prim g = none → fn.name ≠ "runtime.NumGoroutine")
    (hRT : ∀ r ∈ RT, @RuleOk (memEnv vals B L) P r) (hprim : ∀ g p, prim g = some p → @PrimOk (memEnv vals B L) P rawG (fun g => (prim g).isSome) g p) (hS0 : L[0]? = some (S0, 0)) (hmost : nt ≤ 576)
    (h0 : @IsO (memEnv vals B L) fr o0) (h1 : IsD (memEnv vals B L) fr1 o1) (hrun : isPiece nt ((codeC ⟨P, rawG, RT⟩ (fun g => (prim g).isSome) nt false c).run (callN ⟨P, rawG, RT⟩ prim 1000 100) 1000 (frV fr Fr.new 0) (H.gh 0) (fun f h => .ok .normal f h)) e k fr1 = true) (hS : L[k]? = some (S, n1)) :
    Goes P nt B c S0 o0 fun e' S1 o' => e' = exitE e ∧ ∃ vs, vs.length = n1 ∧ S1 = S.inst vs ∧ o' = oInst vs o1 := fun lo w0 S00 a w hB hT hF =>
  mem_pieceD hnum hRT hprim hS0 hT.at_ hB hF hmost h0 h1 hrun hS fun a1 w1 vs hl hT1 hF1 =>
    ⟨S.inst vs, oInst vs o1, ⟨rfl, vs, hl, rfl, rfl⟩, hT.trans (by have := (memTo_inst hT1.at_.one).2 hT1; rwa [inst_nil] at this), ⟨hF1.slots, hF1.size, hF1.low, hF1.defs.mono fun x hx => foot_inst.1 hx⟩⟩
/-- A function, run. -/
theorem Does.run {f : FuncId} {avs : List AV} {us : List Value} {v : AV} {res : Value} {k n1 : Nat} {S0 S : MSt} (hnum : ∀ g fn, P.funcs[g]? = some fn → prim g = none → fn.name ≠ "runtime.NumGoroutine")
    (hRT : ∀ r ∈ RT, @RuleOk (memEnv vals B L) P r) (hprim : ∀ g p, prim g = some p → @PrimOk (memEnv vals B L) P rawG (fun g => (prim g).isSome) g p) (hp : prim f = none) (hS0 : L[0]? = some (S0, 0))
    (ha : @IsL (memEnv vals B L) avs us) (hrun : isDone (callN ⟨P, rawG, RT⟩ prim 1000 100 (.fn f [] []) avs (H.gh 0)) v k = true) (hS : L[k]? = some (S, n1)) (hres : @Is (memEnv vals B L) v res) :
    Does P f us B S0 fun u S1 => u = res ∧ ∃ vs, vs.length = n1 ∧ S1 = S.inst vs := fun w h => by
  refine (mem_run (σ := []) hnum hRT hprim hp hS0 rfl h (A := us.toArray) ha hrun hS hres).mono ?_
  rintro e w' ⟨rfl, vs, h1, h2⟩
  rw [List.nil_append] at h2
  refine ⟨res, S.inst vs, rfl, ⟨rfl, vs, by rw [Nat.zero_add] at h1; exact h1, rfl⟩, ?_⟩
  have := (memTo_inst h2.at_.one).2 h2
  rwa [inst_nil] at this
/-- What a function returns, out of its slots. -/
def slotO (o : List (Option Value)) (r : ResultVar) : Option Value := match r with | .tmp t => (o[t]?).join | .cell .. => none
def resO (rs : List ResultVar) (o : List (Option Value)) : Option Value := (rs.mapM (slotO o)).map fun vs => match vs with | [v] => v | vs => .tuple vs.toArray
theorem Slots.get : ∀ {o : List (Option Value)} {us : List Value}, Slots o us → ∀ {t : Nat} {v : Value}, (o[t]?).join = some v → us[t]? = some v
  | _, _, .nil, t, v, h => by simp at h
  | _, _, .any hs, t, v, h => by
    cases t with
    | zero => simp at h
    | succ t => exact Slots.get hs (t := t) (by simpa using h)
  | _, _, .is hs, t, v, h => by
    cases t with
    | zero => simpa using h
    | succ t => exact Slots.get hs (t := t) (by simpa using h)
theorem resO_run {fn : Func} {o : List (Option Value)} {tmps : Array Value} {w : World} {v : Value} (hs : Slots o tmps.toList) (h : resO fn.results.toList o = some v) : (results fn tmps).run P w = .ok v w := by
  letI := Env.plain
  obtain ⟨vs, h1, h2⟩ := Option.map_eq_some_iff.1 h
  have key : ∀ (rs : List ResultVar) (vs : List Value), rs.mapM (slotO o) = some vs → (rs.mapM fun
      | .tmp t => pure (tmps.getD t undef)
      | .cell a t => do loadVar t (← asAddr (tmps.getD a undef)) : Sem (List Value)).run P w = .ok vs w := by
    intro rs
    induction rs with
    | nil =>
      intro vs h
      cases h
      rfl
    | cons r rs ih =>
      intro vs h
      rw [List.mapM_cons] at h
      cases hr : slotO o r with
      | none => rw [hr] at h; cases h
      | some x =>
        rw [hr] at h
        cases hm : rs.mapM (slotO o) with
        | none => rw [hm] at h; cases h
        | some xs =>
          rw [hm] at h
          cases h
          rw [List.mapM_cons]
          have ih := ih xs hm
          cases r with
          | cell a t => cases hr
          | tmp t =>
            have hg := hs.get (t := t) hr
            have hg : tmps.getD t undef = x := by
              rw [Array.getElem?_toList] at hg
              simp [Array.getD, Array.getElem?_eq_some_iff] at hg ⊢
              obtain ⟨q1, q2⟩ := hg
              simp [q1, q2]
            simp only [Sem.run_bind, Sem.run_pure, hg, Result.andThen, ih]
  have hm := mapMA_list fn.results (key _ _ h1)
  rw [show results fn tmps = (do
      let vs ← fn.results.mapM fun
        | .tmp t => pure (tmps.getD t undef)
        | .cell a t => do loadVar t (← asAddr (tmps.getD a undef))
      pure (if h : vs.size = 1 then vs[0] else .tuple vs)) from rfl, Sem.run_bind, hm]
  show Result.ok _ w = _
  congr 1
  match vs, h2 with
  | [], h2 => exact h2
  | [u], h2 => exact h2
  | u :: u' :: us, h2 => rw [← h2, dif_neg (by simp)]
theorem slots_args (us : List Value) (n : Nat) : Slots (us.map some ++ List.replicate n none) (us ++ List.replicate n undef) := by
  induction us with
  | nil =>
    induction n with
    | zero => exact .nil
    | succ n ih => exact .any ih
  | cons u us ih => exact .is ih
/-- A function, out of its pieces. -/
theorem Goes.calls {f : FuncId} {fn : Func} {c : Code} {us : List Value} {S : MSt} {post : Value → MSt → Prop} (hf : P.funcs[f]? = some fn) (hb : fn.body = some c) (hlen : us.length ≤ fn.ntmps)
    (h : Goes P fn.ntmps B c S (us.map some ++ List.replicate (fn.ntmps - us.length) none) fun e S1 o1 => (e = .normal ∨ e = .ret) ∧ ∃ v, resO fn.results.toList o1 = some v ∧ post v S1) : Does P f us B S post := fun w hw => by
  letI := memEnv [] B [(S, 0)]
  refine (callsIn_wd (rd := none) (n := 0)).1 (callsIn_of_wp_marks hf hb trivial (wpIn_mono (h w.heap.size w S _ w (by obtain ⟨x, hx⟩ := hw.ex; have := hw.lt hx; omega) (MemTo.refl hw) ⟨?_, ?_, Nat.le_refl _, .nil⟩) ?_))
  · have := slots_args us (fn.ntmps - us.length)
    simpa using this
  · simp; omega
  · rintro e a1 w1 ⟨S1, o1, ⟨hexit, v, h1, h2⟩, h3, h4⟩
    have fin : LeavesInM (Wd none) 0 P fn a1.tmps (fun e w' => ∃ v S1, e = .returned v ∧ post v S1 ∧ MemTo w B S [] S1 [] w') a1.defers .returning w1 := by
      letI := memEnv [] B [(S, 0), (S1, 0)]
      have hd : DefF w.heap.size (Env.foot 1 []) w1 a1.defers := h4.defs.more fun x hx => by
        rcases (show (∃ S' n', [(S, 0), (S1, 0)][1]? = some (S', n') ∧ Foot S' [] x) ∨ (Gnd.obj x).isSome = true from hx) with ⟨S', n', q1, q2⟩ | q
        · cases q1; exact .inl q2
        · obtain ⟨o, ho⟩ := Option.isSome_iff_exists.1 q
          exact .inr (Array.getElem?_eq_some_iff.1 (hw.gd x o ho).2).1
      have hE : Eff 0 [] w 1 [] w1 := mem_eff (vs := []) (n := 0) (n1 := 0) (S := S) (S1 := S1) rfl rfl rfl rfl h3
      refine leaveF (k := 0) (k1 := 1) (σ := []) (σ1 := []) a1.defers w1 hE hd ?_
      intro w2 E2
      obtain ⟨_, q2⟩ := mem_of_eff (n := 0) (n1 := 0) (S := S) (S1 := S1) rfl rfl (fun x o hx => (hw.gd x o hx).2) E2
      exact ⟨v, resO_run h4.slots h1, v, S1, rfl, h2, q2⟩
    rcases hexit with rfl | rfl
    · exact fin
    · exact fin
theorem Does.mono {f : FuncId} {us : List Value} {S : MSt} {post post' : Value → MSt → Prop} (h : Does P f us B S post) (hp : ∀ v S1, post v S1 → post' v S1) : Does P f us B S post' := fun w hw =>
  (h w hw).mono fun e w' ⟨v, S1, q1, q2, q3⟩ => ⟨v, S1, q1, hp _ _ q2, q3⟩
/-- A function that does this, as a rule. -/
theorem Does.rule {f : FuncId} {args : List AV} {us : List Value} {k k1 n n1 : Nat} {S S1 : MSt} {res : AV} {rv : Value} (hS : L[k]? = some (S, n)) (hS1 : L[k1]? = some (S1, n1)) (hen : ∀ (A : Array Value) (w : World), (callFunc f A).run P w = .ok (.enter f A) w)
    (ha : @IsL (memEnv vals B L) args us) (hr : @Is (memEnv vals B L) res rv) (hc : ∀ w σ, σ.length = n → MemAt w B S σ → Does P f us B (S.inst σ) fun v T => v = rv ∧ ∃ vs, n + vs.length = n1 ∧ (∀ u ∈ vs, rawOne u = true) ∧ T = S1.inst (σ ++ vs)) : @CRuleOk (memEnv vals B L) P ⟨f, args, some k, some k1, res⟩ :=
  mem_rule hS hS1 hen ha hr fun w σ hl hw => by
    refine (hc w σ hl hw _ (mem_inst.2 hw).1).mono ?_
    rintro e w' ⟨v, T, rfl, ⟨rfl, vs, h1, h2, rfl⟩, h3⟩
    refine ⟨rfl, vs, h1, (memTo_inst ?_).1 h3⟩
    intro u hu
    rcases List.mem_append.1 hu with q | q
    · exact hw.one u q
    · exact h2 u q
end
/-! ### Parts of memory -/
section
set_option linter.unusedVariables false
variable [Gnd] {P : Program} {vals : List Value} {B : Nat} {L : List (MSt × Nat)}
theorem inst_and (S R : MSt) (σ : List Value) : (S.and R).inst σ = (S.inst σ).and (R.inst σ) := by
  simp [MSt.and, MSt.inst]
theorem and_nil (S : MSt) : S.and ⟨[], []⟩ = S := by simp [MSt.and]
/-- What a function does to a part of memory it does to it within the whole. -/
theorem Does.frame {f : FuncId} {us : List Value} {S R : MSt} {post : Value → MSt → Prop} (h : Does P f us B S post) (hne : ∃ x, Foot S [] x) : Does P f us B (S.and R) fun u T => ∃ S1, post u S1 ∧ T = S1.and R := fun w hw => by
  letI := Env.plain
  refine (h w (hw.left hne)).mono ?_
  rintro e w' ⟨v, S1, h1, h2, h3⟩
  refine ⟨v, S1.and R, h1, ⟨S1, h2, rfl⟩, ?_⟩
  have := MemTo.frame (σ := []) (vs := []) hw (by simpa using h3)
  simpa using this
/-- What is known of memory may be leant on. -/
theorem Does.know {f : FuncId} {us : List Value} {S : MSt} {post : Value → MSt → Prop} (h : (∃ w, MemAt w B S []) → Does P f us B S post) : Does P f us B S post := fun w hw => h ⟨w, hw⟩ w hw
theorem Goes.know {c : Code} {nt : Nat} {S : MSt} {o : List (Option Value)} {post : Exit → MSt → List (Option Value) → Prop} (h : (∃ w, MemAt w B S []) → Goes P nt B c S o post) : Goes P nt B c S o post := fun lo w0 S0 a w hB hT hF => h ⟨w, hT.at_⟩ lo w0 S0 a w hB hT hF
/-- A function that changes a part of memory, as a rule. -/
theorem Does.ruleF {f : FuncId} {args : List AV} {us : List Value} {k k1 n n1 : Nat} {S S1 R : MSt} {res : AV} {rv : Value} (hS : L[k]? = some (S.and R, n)) (hS1 : L[k1]? = some (S1.and R, n1)) (hn : n ≤ n1) (hR : ∀ σ τ : List Value, σ.length = n → R.inst (σ ++ τ) = R.inst σ) (hen : ∀ (A : Array Value) (w : World), (callFunc f A).run P w = .ok (.enter f A) w)
    (ha : @IsL (memEnv vals B L) args us) (hr : @Is (memEnv vals B L) res rv) (hne : ∀ σ : List Value, σ.length = n → ∃ x, Foot S σ x)
    (hc : ∀ w σ, σ.length = n → MemAt w B S σ → Does P f us B (S.inst σ) fun v T => v = rv ∧ ∃ vs, n + vs.length = n1 ∧ (∀ u ∈ vs, rawOne u = true) ∧ T = S1.inst (σ ++ vs)) : @CRuleOk (memEnv vals B L) P ⟨f, args, some k, some k1, res⟩ := by
  refine Does.rule hS hS1 hen ha hr fun w σ hl hw => ?_
  rw [inst_and]
  have hw2 : MemAt w B S σ := by
    letI := Env.plain
    exact hw.left (hne σ hl)
  refine ((hc w σ hl hw2).frame ?_).mono ?_
  · obtain ⟨x, hx⟩ := hne σ hl
    exact ⟨x, foot_inst.2 hx⟩
  · rintro v T ⟨T1, ⟨rfl, vs, h1, h2, rfl⟩, rfl⟩
    exact ⟨rfl, vs, h1, h2, by rw [inst_and, hR σ vs hl]⟩
/-- A row of nothing is there at any time. -/
def nilRow (e : TypeId) (sz : Nat) : MSt := ⟨[], [⟨.st (.slice none 0 0), e, sz, 0, []⟩]⟩
theorem nil_foot {e : TypeId} {sz : Nat} {σ : List Value} {x : Nat} : ¬ Foot (nilRow e sz) σ x := by
  rintro (⟨b, hb, _⟩ | ⟨r, hr, v, h1, h2⟩)
  · cases hb
  · rcases List.mem_singleton.1 hr with rfl
    cases h1; cases h2
theorem MemAt.addNil {w : World} {S : MSt} {σ : List Value} (e : TypeId) (sz : Nat) (h : MemAt w B S σ) : MemAt w B (S.and (nilRow e sz)) σ where
  blk := fun b hb => by
    rcases List.mem_append.1 hb with q | q
    · exact h.blk b q
    · cases q
  row := fun r hr => by
    rcases List.mem_append.1 hr with q | q
    · exact h.row r q
    · rcases List.mem_singleton.1 q with rfl
      exact ⟨_, rfl, Row.nil w B e sz⟩
  one := h.one
  bb := by
    show (S.blks ++ []).Pairwise _
    rw [List.append_nil]; exact h.bb
  br := fun b hb r hr v hv hx => by
    have hb : b ∈ S.blks := by
      rcases List.mem_append.1 hb with q | q
      · exact q
      · cases q
    rcases List.mem_append.1 hr with q | q
    · exact h.br b hb r q v hv hx
    · rcases List.mem_singleton.1 q with rfl
      cases hv; cases hx
  rr := by
    refine List.pairwise_append.2 ⟨h.rr, List.pairwise_singleton _ _, fun r hr r' hr' v v' x h1 h2 h3 h4 => ?_⟩
    rcases List.mem_singleton.1 hr' with rfl
    cases h2; cases h4
  ex := by
    letI := Env.plain
    obtain ⟨x, hx⟩ := h.ex
    exact ⟨x, (foot_and _ _ _ x).2 (.inl hx)⟩
  gd := h.gd
theorem Goes.addNil {c : Code} {nt : Nat} {S : MSt} {o : List (Option Value)} {post : Exit → MSt → List (Option Value) → Prop} (e : TypeId) (sz : Nat) (h : Goes P nt B c (S.and (nilRow e sz)) o post) : Goes P nt B c S o post := fun lo w0 S0 a w hB hT hF => by
  letI := Env.plain
  have hx : ∀ x, Foot (S.and (nilRow e sz)) [] x → Foot S [] x := fun x hx => by
    rcases (foot_and _ _ _ x).1 hx with q | q
    · exact q
    · exact absurd q nil_foot
  exact h lo w0 S0 a w hB ⟨hT.at_.addNil e sz, hT.size, hT.keep, fun x hf => hT.foot x (hx x hf), hT.same⟩ ⟨hF.slots, hF.size, hF.low, hF.defs.mono fun x hf => hx x hf⟩
/-- A part of memory is let go. -/
theorem MemTo.drop {w w' : World} {S0 S R : MSt} (h : MemTo w B S0 [] (S.and R) [] w') (hne : ∃ x, Foot S [] x) : MemTo w B S0 [] S [] w' := by
  letI := Env.plain
  exact ⟨h.at_.left hne, h.size, h.keep, fun x hx => h.foot x ((foot_and _ _ _ x).2 (.inl hx)), h.same⟩
theorem Does.drop {f : FuncId} {us : List Value} {S : MSt} {post : Value → MSt → Prop} (h : Does P f us B S fun u S1 => ∃ T R, S1 = MSt.and T R ∧ (∃ x, Foot T [] x) ∧ post u T) : Does P f us B S post := fun w hw =>
  (h w hw).mono fun e w' ⟨v, S1, q1, ⟨T, R, q2, q3, q4⟩, q5⟩ => ⟨v, T, q1, q4, by subst q2; exact q5.drop q3⟩
/-- A function that reads what is below, as a rule. -/
theorem gnd_rule {f : FuncId} {args : List AV} {us : List Value} {k n : Nat} {S : MSt} {res : AV} {rv : Value} (hS : L[k]? = some (S, n)) (hen : ∀ (A : Array Value) (w : World), (callFunc f A).run P w = .ok (.enter f A) w)
    (ha : @IsL (memEnv vals B L) args us) (hr : @Is (memEnv vals B L) res rv) (hc : ∀ w, (∀ x o, Gnd.obj x = some o → w.heap[x]? = some o) → Calls P f us.toArray w fun e w' => e = .returned rv ∧ RowKit.Below w.heap.size w w') : @CRuleOk (memEnv vals B L) P ⟨f, args, some k, none, res⟩ := by
  letI := memEnv vals B L
  refine ⟨ha.det, hr.det, rfl, hen, fun σ w A he hu => ?_⟩
  obtain ⟨S', n', e1, e2, e3⟩ := he k rfl
  have eu := ha.only _ hu
  obtain ⟨A⟩ := A
  have eu : A = us := eu
  subst eu
  refine (hc w fun x o hx => (e3.gd x o hx).2).mono ?_
  rintro e w' ⟨rfl, hb⟩
  exact ⟨rv, rfl, hr.to _, hb⟩
end
/-! ### Pieces of a function's code -/
section
set_option linter.unusedVariables false
/-- Slots that are told. -/
def frO (nt : Nat) (l : List (Nat × Value)) : List (Option Value) := (List.range nt).map fun t => (l.find? fun p => Nat.beq p.1 t).map (·.2)
def codeOf (fn : Func) : Code := match fn.body with | some c => c | none => .skip
def hdC (c : Code) : Code := match c with | .seq a _ => a | c => c
def tlC (c : Code) : Code := match c with | .seq _ b => b | c => c
def blkC (c : Code) : Code := match c with | .block _ b => b | c => c
def lpC (c : Code) : Code := match c with | .loop b => b | c => c
def scC (c : Code) : Code := match c with | .scope b => b | c => c
def labC (l : Nat) (c : Code) : Code := match findLabel c l with | some r => r | none => .skip
def isSeq (c : Code) : Bool := match c with | .seq _ _ => true | _ => false
def isBlk (i : Nat) (c : Code) : Bool := match c with | .block j _ => Nat.beq j i | _ => false
def isLp (c : Code) : Bool := match c with | .loop _ => true | _ => false
def isSc (c : Code) : Bool := match c with | .scope _ => true | _ => false
def hasL (l : Nat) (c : Code) : Bool := match findLabel c l with | some _ => true | none => false
theorem seq_eta {c : Code} (h : isSeq c = true) : c = .seq (hdC c) (tlC c) := by cases c <;> first | rfl | cases h
theorem blk_eta {i : Nat} {c : Code} (h : isBlk i c = true) : c = .block i (blkC c) := by
  cases c <;> first | cases h | skip
  rename_i j b
  rw [← Nat.eq_of_beq_eq_true (show Nat.beq j i = true from h)]; rfl
theorem lp_eta {c : Code} (h : isLp c = true) : c = .loop (lpC c) := by cases c <;> first | rfl | cases h
theorem sc_eta {c : Code} (h : isSc c = true) : c = .scope (scC c) := by cases c <;> first | rfl | cases h
theorem lab_eta {l : Nat} {c : Code} (h : hasL l c = true) : findLabel c l = some (labC l c) := by
  unfold hasL at h
  unfold labC
  cases hf : findLabel c l with
  | some r => rfl
  | none => rw [hf] at h; cases h
theorem body_eta {fn : Func} (h : fn.body.isSome = true) : fn.body = some (codeOf fn) := by
  unfold codeOf
  cases hb : fn.body with
  | some c => rfl
  | none => rw [hb] at h; cases h
variable [Gnd] {P : Program} {nt B : Nat} {c : Code} {S : MSt} {o : List (Option Value)} {post : Exit → MSt → List (Option Value) → Prop}
theorem Goes.seqE (hc : isSeq c = true) (h : Goes P nt B (hdC c) S o fun e S1 o1 => match e with | .normal => Goes P nt B (tlC c) S1 o1 post | e => post e S1 o1) : Goes P nt B c S o post := by
  rw [seq_eta hc]; exact Goes.seq h
theorem Goes.blockE (i : Nat) (hc : isBlk i c = true) (h : Goes P nt B (blkC c) S o fun e S1 o1 => match e with | .exit j => if j = i then post .normal S1 o1 else post (.exit j) S1 o1 | e => post e S1 o1) : Goes P nt B c S o post := by
  rw [blk_eta hc]; exact Goes.block h
theorem Goes.loopE (hc : isLp c = true) (I : Nat → MSt → List (Option Value) → Prop) (n0 : Nat) (h0 : I n0 S o) (round : ∀ n S o, I n S o → Goes P nt B (lpC c) S o fun e S1 o1 => match e with | .normal => ∃ n', n' < n ∧ I n' S1 o1 | e => post e S1 o1) : Goes P nt B c S o post := by
  rw [lp_eta hc]; exact Goes.loop I n0 h0 round
theorem Goes.scopeE (l : Nat) (hc : isSc c = true) (hl : hasL l (scC c) = true) (I : Nat → MSt → List (Option Value) → Prop) (n0 : Nat) (h0 : Goes P nt B (scC c) S o fun e S1 o1 => match e with | .goto j => j = l ∧ ∃ n', n' < n0 ∧ I n' S1 o1 | e => post e S1 o1)
    (round : ∀ n S o, I n S o → Goes P nt B (labC l (scC c)) S o fun e S1 o1 => match e with | .goto j => j = l ∧ ∃ n', n' < n ∧ I n' S1 o1 | e => post e S1 o1) : Goes P nt B c S o post := by
  rw [sc_eta hc]; exact Goes.scope l _ (lab_eta hl) I n0 h0 round
theorem Goes.callsE {f : FuncId} {fn : Func} {us : List Value} {post : Value → MSt → Prop} (hf : P.funcs[f]? = some fn) (hb : fn.body.isSome = true) (hlen : us.length ≤ fn.ntmps)
    (h : Goes P fn.ntmps B (codeOf fn) S (us.map some ++ List.replicate (fn.ntmps - us.length) none) fun e S1 o1 => (e = .normal ∨ e = .ret) ∧ ∃ v, resO fn.results.toList o1 = some v ∧ post v S1) : Does P f us B S post :=
  Goes.calls hf (body_eta hb) hlen h
end
section
variable [Env] {P : Program}
theorem rule_min {x y r : AV} {a b c : Int} {k : IntKind} (t : TypeId) (hx : Is x (.int k a)) (hy : Is y (.int k b)) (hr : Is r (.int k c)) (hc : c = if b < a then b else a) : RuleOk P ⟨.cap t, [x, y], none, none, r⟩ :=
  rule2 hx hy hr rfl (fun _ _ h => by cases h) fun w => by
    subst hc
    rfl
end
end
end Go.Proofs.YtenpnejkgopghaaDoor.AK
