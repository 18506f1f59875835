/- Proved: Tables of the library, laid in memory that is told. Conditions: none. -/
import Derived.Test.YtheadeoebeenlaaGreatDoorAiT
set_option maxRecDepth 100000
set_option linter.unusedVariables false
set_option linter.unusedSimpArgs false
namespace Go.Proofs.YtheadeoebeenlaaGreatDoor.AI
open Go
noncomputable section
/-! ### Tables laid, one behind the other -/
def layF (h : H) (vs : List AV) : H := layCells vs CT.new 0 fun c n => h.new (.cells c n 0 0 2) (fun _ h => h) h
section
variable {P : Program} {w : World}
theorem layF_eq {h : H} (hn : h.nx ≤ 32767) (vs : List AV) : layF h vs = layT h vs := by
  unfold layF layT
  rw [layCells_eq, H.new_eq, if_pos hn, Nat.zero_add]
/-- What stands for the tables: so many, from group 0 on; none is written to. -/
structure Tabs (ι : Inj) (h : H) (w : World) (n : Nat) : Prop where
  sim : Sim ι h w
  nx : h.nx = n
  ro : ∀ g, g < h.nx → ¬ (h.obj g).wr
theorem Tabs.nil (w : World) : Tabs (fun _ _ => none) H.empty w 0 := ⟨Sim.empty w, rfl, fun g hg => absurd hg (Nat.not_lt_zero g)⟩
theorem Tabs.more {ι : Inj} {h : H} {n : Nat} (T : Tabs ι h w n) (hn : n ≤ 1000) {name : String} {g : Nat} {k : IntKind} {zs : List Int} (hg : P.globalNamed name = some g) (ht : w.var? P name = some (zs.map fun z => Value.int k z).toArray)
    (hfresh : ∀ g' s l, ι g' s = some l → l.b ≠ g) : Tabs (ι.add n 0 ⟨g, 0, 0, zs.length, zs.length⟩) (layF h (zs.map (AV.int k))) w (n + 1) := by
  obtain ⟨S, hx, ro⟩ := T
  subst hx
  obtain ⟨el, fr, hw⟩ := heap_of_var hg ht
  have hv : RVL ι (zs.map (AV.int k)) (zs.map fun z => Value.int k z).toArray.toList := by simpa using rvl_ints ι k zs
  have := S.table (by omega) hw hfresh hv
  rw [List.length_map] at this
  rw [layF_eq (by omega)]
  refine ⟨this, rfl, fun g' hg' => ?_⟩
  have hg'' : g' < h.nx + 1 := hg'
  show ¬ ((h.newv _).obj g').wr
  rw [H.obj_newv h g' _ (by omega) (by omega)]
  split
  · intro hh; have : (2 : Nat) ≤ 1 := hh; omega
  · exact ro g' (by omega)
theorem tab_ptr {ι : Inj} {g n len : Nat} (h : ι n 0 = some ⟨g, 0, 0, len, len⟩) : RV ι (.ptr n 0 0 len) (.pointer (some ⟨g, 0, none⟩)) :=
  .ptr (l := ⟨g, 0, 0, len, len⟩) h (Nat.le_refl _) (Nat.le_refl _) rfl (by simp)
end
end
end Go.Proofs.YtheadeoebeenlaaGreatDoor.AI
