/- Proved: elenchusref1.Text is a number's decimal. Conditions: the number is an int64; the library's table of powers holds what its text lays in it. -/
import Derived.Test.YtenpnejkgopghaaDoorShelf
import Derived.Test.YtenpnejkgopghaaDoorProg
import Derived.KernelRfl
import Derived.WalkKit
set_option linter.unusedVariables false
set_option linter.unusedSectionVars false
set_option linter.unusedSimpArgs false
namespace Go.Proofs.YtenpnejkgopghaaDoor.Form
open Go Go.RowKit

/-- What the calls ask of the library's variables. -/
structure Libs (w : World) : Prop where
  range : ∃ tp p, w.var? Tryd.prog "strconv.ErrRange" = some #[.iface tp p]
  tab : Lib.TabIs Tryd.prog w "internal/strconv.uint64pow10" .u64 Lib.pow10Tab

theorem var_stays {P : Program} {g : Nat} {W W' : World} {n : String} {cs : Array Value} (h : Below W.heap.size W W') (hg : P.globalNamed n = some g) (hv : W.var? P n = some cs) : W'.var? P n = some cs := by
  unfold World.var? at hv ⊢
  simp only [hg, Option.bind_some] at hv ⊢
  rcases Nat.lt_or_ge g W.heap.size with hlt | hge
  · rw [h.block g hlt]
    exact hv
  · rw [Array.getElem?_eq_none hge] at hv
    simp at hv
theorem Libs.below {w w' : World} (h : Libs w) (hb : Below w.heap.size w w') : Libs w' := by
  obtain ⟨tp, p, hr⟩ := h.range
  exact ⟨⟨tp, p, var_stays hb (g := 5) (by kernel_rfl) hr⟩, var_stays hb (g := 1) (by kernel_rfl) h.tab⟩

theorem chain {w w1 w2 : World} (h : Below w.heap.size w w1) (k : Below w1.heap.size w1 w2) : Below w.heap.size w w2 :=
  h.trans ⟨k.os, k.tape, k.output, k.size, fun i hi => k.block i (Nat.lt_of_lt_of_le hi h.size)⟩
theorem below_grow (w : World) (k : Nat) (os : Array Obj) : Below w.heap.size w (Sort.grow (w.drewN k) os) :=
  ⟨rfl, rfl, rfl, by simp [Sort.grow], fun i hi => by simp [Sort.grow, Array.getElem?_append, hi]⟩

theorem reftext_any (n : Int) (h0 : -9223372036854775808 ≤ n) (h1 : n ≤ 9223372036854775807) (w : World) (L : Libs w) :
    Calls Tryd.prog 14 #[.int .i64 n] w fun e w' => e = .returned (.string ⟨(Lib.itoa n).toArray⟩) ∧ Below w.heap.size w w' := by
  go_enter Tryd.func14, Tryd.ntmps14
  go_wp2_with (first | (go_at_call 24; (with_reducible refine (Tryd.strconv_FormatInt_10 n h0 h1 _ L.tab).mono ?_); rintro e w' ⟨rfl, k, os, rfl⟩))
  go_ret
  exact ⟨rfl, below_grow w k os⟩
end Go.Proofs.YtenpnejkgopghaaDoor.Form
