/- Proved: strings.Index at "*/", as a rule's call. Conditions: the word list's place below holds a number (GndOk). -/
import Derived.Test.YtenpnejkgopghaaDoorScR
import Derived.Test.YtenpnejkgopghaaDoorShelf
set_option linter.unusedVariables false
namespace Go.Proofs.YtenpnejkgopghaaDoor.Tok
open Go Go.RowKit Go.Proofs.YtenpnejkgopghaaDoor.AK
variable [Gnd]
/-- bytealg.MaxLen and strconv.ErrRange are laid below. -/
def GndOk : Prop := (∃ m C t fr, Gnd.obj 0 = some (.cells C t fr) ∧ C[0]? = some (.int .i64 m)) ∧ ∃ tp p t fr, Gnd.obj 5 = some (.cells #[.iface tp p] t fr)
theorem close_calls (hg : GndOk) (s : ByteArray) (k : Nat) (hk : k ≤ s.size) (hs : s.size ≤ 1000000) (w : World) (hw : ∀ x o, Gnd.obj x = some o → w.heap[x]? = some o) :
    Calls Tryd.prog 34 #[.string (s.extract k s.size), .string ⟨#[42, 47]⟩] w fun e w' => e = .returned (.int .i64 (if findClose s k < s.size then ((findClose s k - k : Nat) : Int) else -1)) ∧ Below w.heap.size w w' := by
  obtain ⟨⟨m, C, t, fr, h1, h2⟩, _⟩ := hg
  have hsz : (s.extract k s.size).size = s.size - k := size_sub hk (Nat.le_refl _)
  refine (Tryd.strings_Index (s.extract k s.size) ⟨#[42, 47]⟩ m w (by omega) (by
    unfold World.cell?
    rw [show w.heap[(0 : Nat)]? = some (.cells C t fr) from hw _ _ h1]
    exact h2)).mono ?_
  rintro e w' ⟨rfl, rfl⟩
  refine ⟨?_, Below.refl _ _⟩
  have hb : (s.extract k s.size).data.toList = (bs s).drop k := bs_extract s k
  rw [hb, show (⟨#[42, 47]⟩ : ByteArray).data.toList = [42, 47] from rfl, index_close s k hk]
end Go.Proofs.YtenpnejkgopghaaDoor.Tok
