/- Proved: number.Parse, number.ParseC as calls. Conditions: strconv.ErrRange is laid below (GndOk); the text's length. -/
import Derived.Test.YtenpnejkgopghaaDoorScI
import Derived.Test.YtenpnejkgopghaaDoorParse
import Derived.Test.YtenpnejkgopghaaDoorParseCh
set_option linter.unusedVariables false
set_option linter.unusedSectionVars false
set_option linter.unusedSimpArgs false
namespace Go.Proofs.YtenpnejkgopghaaDoor.Tok
open Go Go.RowKit Go.Proofs.YtenpnejkgopghaaDoor.AK Go.Proofs.YtenpnejkgopghaaDoor.Form Go.Proofs.YtenpnejkgopghaaDoor.ParseC
variable [Gnd]
theorem var_range {w : World} {C : Array Value} {t : TypeId} {fr : Nat × Nat} (h : w.heap[(5 : Nat)]? = some (.cells C t fr)) : w.var? Tryd.prog "strconv.ErrRange" = some C := by
  unfold World.var?
  rw [show Tryd.prog.globalNamed "strconv.ErrRange" = some 5 by kernel_rfl, Option.bind_some, h]
theorem parse_gnd (hg : GndOk) (s : ByteArray) (hs : s.size ≤ 1000000) (w : World) (hw : ∀ x o, Gnd.obj x = some o → w.heap[x]? = some o) :
    Calls Tryd.prog 63 #[.string s] w fun e w' => e = .returned (.tuple #[.int .i64 (parseS (bs s)).1, .int .i64 (parseS (bs s)).2]) ∧ Below w.heap.size w w' := by
  obtain ⟨_, tp, p, t, fr, h⟩ := hg
  exact parse_any s (by omega) tp p w (var_range (hw _ _ h))
theorem parseC_gnd (s : ByteArray) (hs : s.size ≤ 1000000) (w : World) :
    Calls Tryd.prog 62 #[.string s] w fun e w' => e = .returned (.tuple #[.int .u64 (parseC (bs s)).1, .int .u64 (parseC (bs s)).2.1, .int .i64 (parseC (bs s)).2.2]) ∧ Below w.heap.size w w' := by
  exact parseC_any s (by omega) w
end Go.Proofs.YtenpnejkgopghaaDoor.Tok
