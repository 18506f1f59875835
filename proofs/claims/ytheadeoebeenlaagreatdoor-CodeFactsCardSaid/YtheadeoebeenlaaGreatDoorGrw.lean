/- Proved: what a call of (*strings.Builder).grow comes to where the builder has no buffer yet. Conditions: none. -/
import Derived.Test.YtheadeoebeenlaaGreatDoorAiT
import Derived.Test.YtheadeoebeenlaaGreatDoorProg
import Derived.WalkKit
import Derived.ProofKit
import Derived.Lib.Walk
import Derived.Lib.SliceRun
import Derived.Lib.MakeNoZero
import Derived.Laws.Externs
import Derived.Laws.IdiomCopy
import Derived.Shelf.RegionOpenPlain
set_option linter.unusedVariables false
set_option linter.unusedSimpArgs false
namespace Go.Proofs.YtheadeoebeenlaaGreatDoor.Grw
open Go Go.Shelf Go.RowKit Go.Lib Go.Proofs
set_option maxHeartbeats 4000000 in
set_option maxRecDepth 100000 in
theorem grow_fresh (b o n : Nat) (w : World) (hn : n ≤ 1000000) (hc : w.cell? ⟨b, o + 1, none⟩ = some (.slice none 0 0)) (hf : w.frozen? ⟨b, o + 1, none⟩ = false) (hb : b < w.heap.size) :
    Calls Tryz.prog 112 #[.pointer (some ⟨b, o, none⟩), .int .i64 n] w fun e w' => e = .returned (.tuple #[]) ∧ ∃ cs : Array Value, n ≤ cs.size ∧ w'.heap = (w.setCell ⟨b, o + 1, none⟩ (.slice (some ⟨w.heap.size, 0, none⟩) 0 cs.size)).heap.push (.cells cs 5) ∧ w'.os = w.os ∧ w'.tape = w.tape ∧ w'.output = w.output := by
  obtain ⟨cs, hrun, hle, hmax⟩ := Lib.run_makeNoZero (P := Tryz.prog) w.drew #[3] 103 5 Tryz.underlying103 n (by omega)
  have hw : IntKind.i64.wrap (IntKind.i64.wrap 0 + (n : Int)) = n := by
    rw [IntKind.wrap_i64, IntKind.wrap_i64]
    omega
  have hcall : (callFunc 133 #[.int .i64 (IntKind.i64.wrap (IntKind.i64.wrap 0 + (n : Int)))]).run Tryz.prog w.drew = .ok (.value (.slice (some ⟨w.drew.heap.size, 0, none⟩) n cs.size)) (w.drew.drew.drew.alloc (.cells cs 5)) := by
    rw [hw, run_callFunc_extern Tryz.func133 (by kernel_rfl) (by kernel_rfl) (by kernel_rfl) (e := Extern.BytealgMakeNoZero.makeNoZero #[3] #[103]) (by kernel_rfl), hrun]
    rfl
  have c1 : w.drew.cell? ⟨b, o + 1, none⟩ = some (.slice none 0 0) := hc
  have c2 : (w.alloc (.cells cs 5)).cell? ⟨b, o + 1, none⟩ = some (.slice none 0 0) := by
    rw [World.cell?_alloc_past _ b _ hb]; exact hc
  have f2 : (w.alloc (.cells cs 5)).frozen? ⟨b, o + 1, none⟩ = false := by
    rw [World.frozen?_alloc_past _ b _ hb]; exact hf
  have hcopy : ∀ W : World, (Builtin.copy_ #[103, 103] 3 #[.slice (some ⟨w.heap.size, 0, none⟩) 0 cs.size, .slice none 0 0]).run Tryz.prog W = .ok (goInt 0) W :=
    fun W => run_copy_none W 103 103 3 5 _ _ 0 cs.size 0 0 Tryz.underlying103 (by kernel_rfl) rfl
  clear hw
  have mixed : Tryz.prog.follows .mixedOrders = true := by kernel_rfl
  go_enter Tryz.func112, Tryz.ntmps112
  go_wp2
  go_region_o
  all_goals (go_wp2; go_end0; exact ⟨rfl, cs, hle, rfl, rfl, rfl, rfl⟩)

theorem prim_ok {G : Nat → AI.AV} {pb : FuncId → Bool} : AI.PrimOk Tryz.prog G pb 112 (AI.primGrow (2 * 5 + 2)) :=
  AI.primGrow_ok (enters_of Tryz.func112 (by kernel_rfl) rfl) grow_fresh
end Go.Proofs.YtheadeoebeenlaaGreatDoor.Grw
