/- Proved: what elenchusref1.clean and elenchusref1.AddC answer, by the words of the parts. Conditions: each stands at its theorem. -/
import Derived.Test.YtbkojghbgoejcaaDoorFlW
namespace Go.Proofs.YtbkojghbgoejcaaDoor.FlW
open Go Go.RowKit

theorem clean_any (x : Nat) (w : World) : Calls Tryd.prog 37 #[.float .f64 x] w fun e w' => e = .returned (.float .f64 (cl x)) ∧ w = w' := by
  have hb := run_frombits
  unfold cl
  by_cases h : Ieee.double.order x x = some .eq
  · have h2 : (FloatKind.f64.format.order x x != some Ordering.eq) = false := by
      rw [bne_eq_false_iff_eq]; exact h
    rw [if_pos h]
    clear h
    go_enter Tryd.func37, Tryd.ntmps37
    go_wp2
    go_ret
    exact ⟨rfl, rfl⟩
  · have h2 : (FloatKind.f64.format.order x x != some Ordering.eq) = true := by
      rw [bne_iff_ne]; exact h
    rw [if_neg h]
    clear h
    go_enter Tryd.func37, Tryd.ntmps37
    go_wp2
    go_ret
    exact ⟨rfl, rfl⟩

theorem refadd_any (a b c d : Nat) (w : World) : Calls Tryd.prog 13 #[.complex .f64 a b, .complex .f64 c d] w fun e w' => e = .returned (.complex .f64 (fin (Ieee.double.add a c)) (fin (Ieee.double.add b d))) ∧ Dr w w' := by
  obtain ⟨Z, V, r, d0, h0⟩ := run_add_all
  have R := Lib.hid r
  have D := Lib.hid d0
  clear r d0
  go_enter Tryd.func13, Tryd.ntmps13
  go_wp2_with (first | (go_at_call 37; (with_reducible refine (clean_any _ _).mono ?_); rintro e w' ⟨rfl, rfl⟩))
  go_ret
  exact ⟨by rw [(R.out _ _ _).cl, (R.out _ _ _).cl]; rfl, by repeat (first | exact Dr.refl _ | refine Dr.trans ?_ (D.out _ _ _))⟩
end Go.Proofs.YtbkojghbgoejcaaDoor.FlW
