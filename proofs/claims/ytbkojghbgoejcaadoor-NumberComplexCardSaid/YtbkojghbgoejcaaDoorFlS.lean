/- Proved: what elenchusref1's SubC, MulC, Of and number's Of, Words answer, by the words of the parts. Conditions: each stands at its theorem. -/
import Derived.Test.YtbkojghbgoejcaaDoorFlR
namespace Go.Proofs.YtbkojghbgoejcaaDoor.FlW
open Go Go.RowKit

theorem refsub_any (a b c d : Nat) (w : World) : Calls Tryd.prog 15 #[.complex .f64 a b, .complex .f64 c d] w fun e w' => e = .returned (.complex .f64 (fin (Ieee.double.sub a c)) (fin (Ieee.double.sub b d))) ∧ Dr w w' := by
  obtain ⟨Z, V, r, d0, h0⟩ := run_sub_all
  have R := Lib.hid r
  have D := Lib.hid d0
  clear r d0
  go_enter Tryd.func15, Tryd.ntmps15
  go_wp2_with (first | (go_at_call 37; (with_reducible refine (clean_any _ _).mono ?_); rintro e w' ⟨rfl, rfl⟩))
  go_ret
  exact ⟨by rw [(R.out _ _ _).cl, (R.out _ _ _).cl]; rfl, by repeat (first | exact Dr.refl _ | refine Dr.trans ?_ (D.out _ _ _))⟩

theorem refmul_any (p q r s : Nat) (w : World) : Calls Tryd.prog 17 #[.complex .f64 p q, .complex .f64 r s] w fun e w' => e = .returned (.complex .f64 (mulRe p q r s) (mulIm p q r s)) ∧ Dr w w' := by
  obtain ⟨Za, Va, ra, da, ha⟩ := run_add_all
  obtain ⟨Zs, Vs, rs, ds, hs⟩ := run_sub_all
  obtain ⟨Zm, Vm, rm, dm, hm⟩ := run_mul_all
  have Ra := Lib.hid ra
  have Rs := Lib.hid rs
  have Rm := Lib.hid rm
  have Da := Lib.hid da
  have Ds := Lib.hid ds
  have Dm := Lib.hid dm
  clear ra rs rm da ds dm
  go_enter Tryd.func17, Tryd.ntmps17
  go_wp2_with (first | (go_at_call 37; (with_reducible refine (clean_any _ _).mono ?_); rintro e w' ⟨rfl, rfl⟩))
  go_ret
  refine ⟨?_, ?_⟩
  · rw [(Rs.out _ _ _).cl, (Ra.out _ _ _).cl, sub_lift (Rm.out _ _ _) (Rm.out _ _ _), add_lift (Rm.out _ _ _) (Rm.out _ _ _)]
    rfl
  · repeat (first | exact Dr.refl _ | refine Dr.trans ?_ (Da.out _ _ _) | refine Dr.trans ?_ (Ds.out _ _ _) | refine Dr.trans ?_ (Dm.out _ _ _))

theorem refof_any (p q : Nat) (w : World) : Calls Tryd.prog 6 #[.int .u64 p, .int .u64 q] w fun e w' => e = .returned (.complex .f64 p q) ∧ w = w' := by
  have hb := run_frombits
  go_enter Tryd.func6, Tryd.ntmps6
  go_wp2
  go_ret
  exact ⟨rfl, rfl⟩

theorem of_any (p q : Nat) (w : World) : Calls Tryd.prog 11 #[.int .u64 p, .int .u64 q] w fun e w' => e = .returned (.complex .f64 p q) ∧ w = w' := by
  have hb := run_frombits
  go_enter Tryd.func11, Tryd.ntmps11
  go_wp2
  go_ret
  exact ⟨rfl, rfl⟩

theorem numwords_any (p q : Nat) (w : World) : Calls Tryd.prog 7 #[.complex .f64 p q] w fun e w' => e = .returned (.tuple #[.int .u64 p, .int .u64 q]) ∧ w = w' := by
  have hb := run_bits
  go_enter Tryd.func7, Tryd.ntmps7
  go_wp2
  go_ret2
  exact ⟨rfl, rfl⟩
end Go.Proofs.YtbkojghbgoejcaaDoor.FlW
