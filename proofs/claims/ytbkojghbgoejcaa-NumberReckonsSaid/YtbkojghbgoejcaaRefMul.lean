/- Proved: what elenchusref1.Mul answers, told by the signs of its arguments and by the two words of the product of their sizes. Conditions: each stands at its theorem. -/
import Derived.Test.YtbkojghbgoejcaaRefNum
namespace Go.Proofs.Ytbkojghbgoejcaa.RefMul
open Go.RowKit Go.Proofs.Ytbkojghbgoejcaa.QNumberRange Go.Proofs.Ytbkojghbgoejcaa.Pure Go.Proofs.YtbkojghbgoejcaaW.PrintWords Go.Proofs.YtbkojghbgoejcaaW.PrintLast Go.Proofs.YtbkojghbgoejcaaW.PrintMore

def res (na nb h l m : Bool) (lo : Int) : Int × Int :=
  if h then (0, 6) else
  if (na != nb) then (if l then (0, 6) else (wrap64 (IntKind.u64.wrap (-lo)), 0))
  else (if m then (0, 6) else (wrap64 lo, 0))

set_option maxHeartbeats 1600000 in
set_option linter.unusedSimpArgs false in
theorem walk (a b t1 t2 hi lo : Int) (w : World) (A1 : Aside0 (elenchusref1_abs.f a = some t1)) (A2 : Aside0 (elenchusref1_abs.f b = some t2)) (A3 : Aside0 (bits_Mul64.f t1 t2 = some (hi, lo))) :
    Calls Try.prog 22 #[.int .i64 a, .int .i64 b] w fun e w' => e = .returned (.tuple #[.int .i64 (res (decide (a < 0)) (decide (b < 0)) (decide (0 < hi)) (decide (9223372036854775808 < lo)) (decide (9223372036854775807 < lo)) lo).1, .int .i64 (res (decide (a < 0)) (decide (b < 0)) (decide (0 < hi)) (decide (9223372036854775808 < lo)) (decide (9223372036854775807 < lo)) lo).2]) ∧ Drawn0 w w' := by
  cases ha : decide (a < 0) <;> cases hb : decide (b < 0) <;> cases hh : decide (0 < hi) <;> cases hl : decide (9223372036854775808 < lo) <;> cases hm : decide (9223372036854775807 < lo)
  all_goals
    go_enter Try.func22, Try.ntmps22
    go_wp2_with fail
    (with_reducible refine (elenchusref1_abs.calls _ _ _ A1.out).mono ?_); rintro e w' ⟨rfl, ⟨n1, rfl⟩⟩
    go_wp2_with fail
    (with_reducible refine (elenchusref1_abs.calls _ _ _ A2.out).mono ?_); rintro e w' ⟨rfl, ⟨n2, rfl⟩⟩
    go_wp2_with fail
    (with_reducible refine (bits_Mul64.calls _ _ _ _ _ A3.out).mono ?_); rintro e w' ⟨rfl, ⟨n3, rfl⟩⟩
    go_wp2_with fail
    go_ret2
    exact ⟨by simp [res], by repeat (first | exact Drawn0.refl _ | apply Drawn0.step)⟩
end Go.Proofs.Ytbkojghbgoejcaa.RefMul
