/- Proved: the laws' awake() returns true; rows of tokens, cell by cell. Conditions: none. -/
import Derived.Test.YtenpnejkgopghaaDoorScF
set_option linter.unusedVariables false
set_option linter.unusedSectionVars false
set_option linter.unusedSimpArgs false
namespace Go.Proofs.YtenpnejkgopghaaDoor.Tok
open Go Go.RowKit Go.Proofs.YtenpnejkgopghaaDoor.AK
/-- A closed function that returns true. -/
theorem closed_true {f : FuncId} (h : isSame (callN ⟨Tryd.prog, rawG, []⟩ (fun g => bif Nat.beq g 87 then some primIndexByte else none) 1000 100 (.fn f [] []) [] H.empty) (.bool true) = true) (hf : Nat.beq f 87 = false) (w : World) :
    Calls Tryd.prog f #[] w fun e w' => e = .returned (.bool true) ∧ Below w.heap.size w w' := by
  letI : Env := Env.plain
  letI : Gnd := ⟨fun _ => none⟩
  obtain ⟨h2, e2⟩ := isSame_ok h
  have hp : ∀ g q, (fun g => bif Nat.beq g 87 then some primIndexByte else none : FuncId → Option FnC) g = some q → PrimOk Tryd.prog rawG (fun g => ((fun g => bif Nat.beq g 87 then some primIndexByte else none : FuncId → Option FnC) g).isSome) g q := by
    intro g q hq
    cases hb : Nat.beq g 87 with
    | false => simp only [hb, cond_false] at hq; cases hq
    | true =>
      simp only [hb, cond_true] at hq
      cases hq
      obtain rfl := Nat.eq_of_beq_eq_true hb
      exact primIndexByte_ok Tryd.func87 (by kernel_rfl) (by kernel_rfl) (by kernel_rfl) (by kernel_rfl)
  refine (plain_calls (RT := []) (prim := fun g => bif Nat.beq g 87 then some primIndexByte else none) (fun g fn hf _ => noNum g fn hf) hp (by show (bif Nat.beq f _ then _ else _) = _; rw [hf]; rfl) (A := #[]) .nil (by simp only [detL, List.all_nil]) 1000 100 e2 rfl rfl).mono ?_
  rintro e w1 ⟨u, rfl, hu, hB⟩
  refine ⟨?_, hB⟩
  cases hu with
  | bool _ => rfl
theorem awake_calls (w : World) : Calls Tryd.prog 11 #[] w fun e w' => e = .returned (.bool true) ∧ Below w.heap.size w w' :=
  closed_true (by kernel_rfl) rfl w
/-- A row, cell by cell. -/
theorem row_cells {w : World} {B : Nat} {e : TypeId} {sz n : Nat} {v : Value} {xs : List Value} (h : Row w B e sz v n xs) (hn : n ≠ 0) : ∃ g cap, v = .slice (some ⟨g, 0, none⟩) n cap ∧ n ≤ cap ∧ B ≤ g ∧ g < w.heap.size ∧ ∀ k x, xs[k]? = some x → w.cell? ⟨g, k, none⟩ = some x := by
  obtain ⟨h1, h2⟩ := h
  rcases h2 with ⟨_, h0⟩ | ⟨g, cap, cur, fr, rfl, h3, h4, h5, h6, h7, h8⟩
  · exact absurd h0 hn
  · refine ⟨g, cap, rfl, h6, h3, (Array.getElem?_eq_some_iff.1 h4).1, fun k x hx => ?_⟩
    unfold World.cell?
    rw [h4]
    show cur[k]? = some x
    have hk : k < n * sz := by
      rw [← h1]; exact (List.getElem?_eq_some_iff.1 hx).1
    rw [← h8, List.getElem?_take_of_lt hk, Array.getElem?_toList] at hx
    exact hx
end Go.Proofs.YtenpnejkgopghaaDoor.Tok
