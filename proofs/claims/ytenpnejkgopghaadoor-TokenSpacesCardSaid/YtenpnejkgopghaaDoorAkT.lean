/- Proved: short forms of what runs over names lean on. Conditions: none. -/
import Derived.Test.YtenpnejkgopghaaDoorAkRun
set_option linter.unusedSectionVars false
namespace Go.Proofs.YtenpnejkgopghaaDoor.AK
open Go
noncomputable section
theorem oc {u : Value} {l : List Value} (h : rawOne u = true) (t : l.all rawOne = true) : (u :: l).all rawOne = true := by rw [List.all_cons, h, t]; rfl
def frA (nt : Nat) (l : List (Nat × AV)) : List AV := (List.range nt).map fun t => match l.find? fun p => Nat.beq p.1 t with | some p => p.2 | none => .sx 0 0
def frD (nt : Nat) (l : List (Nat × CellV)) : List (Option CellV) := (List.range nt).map fun t => (l.find? fun p => Nat.beq p.1 t).map (·.2)
section
variable [Gnd] {P : Program} {vals : List Value} {B : Nat} {L : List (MSt × Nat)}
theorem mm (hV : vals.all rawOne = true) (n : Nat) : @Is (memEnv vals B L) (.sx 1 n) (vals.getD n (.bool false)) :=
  letI := memEnv vals B L
  mname n _ rfl (by
    rw [List.getD_eq_getElem?_getD]
    cases h : vals[n]? with
    | none => rfl
    | some u => exact List.all_eq_true.1 hV u (List.mem_of_getElem? h))
theorem rl_n {E : Env} : ∀ r ∈ ([] : List Rule), @RuleOk E P r := fun _ h => by cases h
theorem rl_c {E : Env} {r : Rule} {l : List Rule} (h : @RuleOk E P r) (t : ∀ r ∈ l, @RuleOk E P r) : ∀ q ∈ r :: l, @RuleOk E P q := List.forall_mem_cons.2 ⟨h, t⟩
theorem cl_n {E : Env} : ∀ r ∈ ([] : List CRule), @CRuleOk E P r := fun _ h => by cases h
theorem cl_c {E : Env} {r : CRule} {l : List CRule} (h : @CRuleOk E P r) (t : ∀ r ∈ l, @CRuleOk E P r) : ∀ q ∈ r :: l, @CRuleOk E P q := List.forall_mem_cons.2 ⟨h, t⟩
end
/-- Slots that are told, by values. -/
inductive IsP (E : Env) : List (Nat × AV) → List (Nat × Value) → Prop
  | nil : IsP E [] []
  | cons {t : Nat} {a : AV} {u : Value} {l : List (Nat × AV)} {m : List (Nat × Value)} : @Is E a u → IsP E l m → IsP E ((t, a) :: l) ((t, u) :: m)
inductive IsPD (E : Env) : List (Nat × AV) → List (Nat × CellV) → Prop
  | nil : IsPD E [] []
  | cons {t : Nat} {a : AV} {u : Value} {l : List (Nat × AV)} {m : List (Nat × CellV)} : @Is E a u → IsPD E l m → IsPD E ((t, a) :: l) ((t, .st u) :: m)
  | nm {t n : Nat} {l : List (Nat × AV)} {m : List (Nat × CellV)} : IsPD E l m → IsPD E ((t, .sx 2 n) :: l) ((t, .nm n) :: m)
theorem isO_l {E : Env} {nt : Nat} {la : List (Nat × AV)} {lu : List (Nat × Value)} (h : IsP E la lu) : @IsO E (frA nt la) (frO nt lu) := by
  unfold frA frO
  generalize List.range nt = ts
  induction ts with
  | nil => exact .nil
  | cons t ts ih =>
    rw [List.map_cons, List.map_cons]
    have key : ∀ {la lu}, IsP E la lu → ((la.find? fun p => Nat.beq p.1 t) = none ∧ (lu.find? fun p => Nat.beq p.1 t) = none) ∨ ∃ p q, (la.find? fun p => Nat.beq p.1 t) = some p ∧ (lu.find? fun p => Nat.beq p.1 t) = some q ∧ @Is E p.2 q.2 := by
      intro la lu h
      induction h with
      | nil => exact .inl ⟨rfl, rfl⟩
      | @cons t' a u l m h1 _ ih =>
        cases hb : Nat.beq t' t with
        | true => exact .inr ⟨(t', a), (t', u), by rw [List.find?_cons]; simp only [hb], by rw [List.find?_cons]; simp only [hb], h1⟩
        | false => simpa only [List.find?_cons, hb] using ih
    rcases key h with ⟨h1, h2⟩ | ⟨p, q, h1, h2, h3⟩
    · rw [h1, h2]; exact .any ih
    · rw [h1, h2]; exact .is h3 ih
theorem isD_l {E : Env} {nt : Nat} {la : List (Nat × AV)} {lu : List (Nat × CellV)} (h : IsPD E la lu) : IsD E (frA nt la) (frD nt lu) := by
  unfold frA frD
  generalize List.range nt = ts
  induction ts with
  | nil => exact .nil
  | cons t ts ih =>
    rw [List.map_cons, List.map_cons]
    have key : ∀ {la lu}, IsPD E la lu → ((la.find? fun p => Nat.beq p.1 t) = none ∧ (lu.find? fun p => Nat.beq p.1 t) = none) ∨ (∃ p q u, (la.find? fun p => Nat.beq p.1 t) = some p ∧ (lu.find? fun p => Nat.beq p.1 t) = some q ∧ q.2 = .st u ∧ @Is E p.2 u) ∨ (∃ p q n, (la.find? fun p => Nat.beq p.1 t) = some p ∧ (lu.find? fun p => Nat.beq p.1 t) = some q ∧ q.2 = .nm n ∧ p.2 = .sx 2 n) := by
      intro la lu h
      induction h with
      | nil => exact .inl ⟨rfl, rfl⟩
      | @cons t' a u l m h1 _ ih =>
        cases hb : Nat.beq t' t with
        | true => exact .inr (.inl ⟨(t', a), (t', .st u), u, by rw [List.find?_cons]; simp only [hb], by rw [List.find?_cons]; simp only [hb], rfl, h1⟩)
        | false => simpa only [List.find?_cons, hb] using ih
      | @nm t' n l m _ ih =>
        cases hb : Nat.beq t' t with
        | true => exact .inr (.inr ⟨(t', .sx 2 n), (t', .nm n), n, by rw [List.find?_cons]; simp only [hb], by rw [List.find?_cons]; simp only [hb], rfl, rfl⟩)
        | false => simpa only [List.find?_cons, hb] using ih
    rcases key h with ⟨h1, h2⟩ | ⟨p, q, u, h1, h2, h3, h4⟩ | ⟨p, q, n, h1, h2, h3, h4⟩
    · rw [h1, h2]; exact .any ih
    · obtain ⟨_, p⟩ := p
      obtain ⟨_, q⟩ := q
      cases h3
      rw [h1, h2]; exact .is h4 ih
    · obtain ⟨_, p⟩ := p
      obtain ⟨_, q⟩ := q
      cases h3
      cases h4
      rw [h1, h2]; exact .nm ih
end
end Go.Proofs.YtenpnejkgopghaaDoor.AK
