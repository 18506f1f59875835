/- Proved: small laws of worlds and rows. Conditions: none. -/
import Derived.Test.YtenpnejkgopghaaDoorTop
set_option linter.unusedVariables false
set_option linter.unusedSectionVars false
set_option linter.unusedSimpArgs false
namespace Go.Proofs.YtenpnejkgopghaaDoor.Tok
open Go Go.RowKit Go.Proofs.YtenpnejkgopghaaDoor.AK
/-! ### Small laws of worlds -/
theorem cell_keep {w w' : World} {g k : Nat} (b : Below w.heap.size w w') (h : g < w.heap.size) : w'.cell? ⟨g, k, none⟩ = w.cell? ⟨g, k, none⟩ := by
  unfold World.cell?
  rw [b.block g h]
theorem row_nil {w : World} {B : Nat} {e : TypeId} {sz : Nat} {v : Value} {xs : List Value} (h : Row w B e sz v 0 xs) : ∃ a c, v = .slice a 0 c := by
  rcases h.2 with ⟨rfl, _⟩ | ⟨g, c, _, _, rfl, _⟩
  · exact ⟨_, _, rfl⟩
  · exact ⟨_, _, rfl⟩
theorem below_alloc (w : World) (o : Obj) : Below w.heap.size w (w.alloc o) := ⟨rfl, rfl, rfl, by rw [alloc_size]; omega, fun k hk => alloc_at w o hk⟩
theorem below_drewN_ {n : Nat} (w : World) (k : Nat) : Below n w (w.drewN k) := ⟨rfl, rfl, rfl, Nat.le_refl _, fun _ _ => rfl⟩
theorem chain {w w1 w2 : World} (a : Below w.heap.size w w1) (b : Below w1.heap.size w1 w2) : Below w.heap.size w w2 := a.trans (b.mono a.size)
end Go.Proofs.YtenpnejkgopghaaDoor.Tok
