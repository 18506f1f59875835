/- Proved: for every four ints the call of NumberTurns returns true, and nothing that was there is changed. Conditions: none. -/
import Derived.Test.YtbkojghbgoejcaaFlV
import Derived.Test.YtbkojghbgoejcaaFlR
import Derived.Test.YtbkojghbgoejcaaRangePure
namespace Go.Proofs.Ytbkojghbgoejcaa.Turns
open Go Go.RowKit Go.Proofs.Ytbkojghbgoejcaa.FlW Go.Proofs.Ytbkojghbgoejcaa.FlV Go.Proofs.Ytbkojghbgoejcaa.Fl Go.Proofs.Ytbkojghbgoejcaa.QNumberRange Go.Proofs.YtbkojghbgoejcaaW.PrintWords

theorem run_addc (a b c d z1 z2 : Nat) (h1 : Ieee.double.add a c = some z1) (h2 : Ieee.double.add b d = some z2) (w : World) :
    (binOp .add 22 (.complex .f64 a b) (.complex .f64 c d)).run Try.prog w = .ok (.complex .f64 z1 z2) w := by
  simp [binOp, Go.Op.complexOp, Go.Op.Complex.arith, Go.Op.floatArith, FloatKind.format, h1, h2, go_sem]
theorem val_zero : Val 0 0 := val_F 0 (by decide)
theorem val_one : Val 4607182418800017408 1 := by
  have e : F 1 = 4607182418800017408 := by decide
  rw [← e]; exact val_F 1 (by decide)

set_option maxHeartbeats 3200000 in
theorem turns_walk (a b c d : Int) (w : World) : Calls Try.prog 4 #[.int .i64 a, .int .i64 b, .int .i64 c, .int .i64 d] w fun e w' => e = .returned (.bool true) ∧ Dr w w' := by
  have ba := tm_bound a 100000 (by omega)
  have bb := tm_bound b 100000 (by omega)
  have bc := tm_bound c 100000 (by omega)
  have bd := tm_bound d 100000 (by omega)
  have hc := run_conv
  go_enter Try.func4, Try.ntmps4
  go_wp2_with fail
  generalize a.tmod 100000 = p at *
  generalize b.tmod 100000 = q at *
  generalize c.tmod 100000 = r at *
  generalize d.tmod 100000 = s at *
  have vp := val_F p (by omega)
  have vq := val_F q (by omega)
  have vr := val_F r (by omega)
  have vs := val_F s (by omega)
  obtain ⟨z1, a1, v1⟩ := add_val (sub_fin vp vr (by omega)) (sub_fin vr vp (by omega)) (by omega)
  obtain ⟨z2, a2, v2⟩ := add_val (sub_fin vq vs (by omega)) (sub_fin vs vq (by omega)) (by omega)
  rw [show p - r + (r - p) = 0 by omega] at v1
  rw [show q - s + (s - q) = 0 by omega] at v2
  have q0 := run_addc _ _ _ _ z1 z2 a1 a2
  have q1 := run_eqc _ _ _ _ (order_val v1 val_zero) (order_val v2 val_zero)
  have q2 := run_eqc _ _ _ _ (order_val (add_fin vp val_zero (by omega)) (show Val (F p) (p + 0) by rw [Int.add_zero]; exact vp)) (order_val (add_fin vq val_zero (by omega)) (show Val (F q) (q + 0) by rw [Int.add_zero]; exact vq))
  have q3 := run_eqc _ _ _ _ (order_val (sub_fin (add_fin vp vr (by omega)) vr (by omega)) (show Val (F p) (p + r - r) by rw [show p + r - r = p by omega]; exact vp)) (order_val (sub_fin (add_fin vq vs (by omega)) vs (by omega)) (show Val (F q) (q + s - s) by rw [show q + s - s = q by omega]; exact vq))
  have q4 := run_eqc _ _ _ _ (order_val (add_fin vp vr (by omega)) (show Val (fin (Ieee.double.add (F r) (F p))) (p + r) by rw [show p + r = r + p by omega]; exact add_fin vr vp (by omega))) (order_val (add_fin vq vs (by omega)) (show Val (fin (Ieee.double.add (F s) (F q))) (q + s) by rw [show q + s = s + q by omega]; exact add_fin vs vq (by omega)))
  have q5 := run_eqc _ _ _ _ (order_val (mulRe_val vp vq val_one val_zero (by omega) (by omega) (by omega)) (show Val (F p) (p * 1 - q * 0) by rw [show p * 1 - q * 0 = p by omega]; exact vp)) (order_val (mulIm_val vp vq val_one val_zero (by omega) (by omega) (by omega)) (show Val (F q) (p * 0 + q * 1) by rw [show p * 0 + q * 1 = q by omega]; exact vq))
  clear vp vq vr vs a1 a2 v1 v2
  go_wp2_with (first
    | (go_at_call 9; (with_reducible refine (addc_any _ _ _ _ _).mono ?_); rintro e w' ⟨rfl, ⟨⟨n, rfl⟩⟩⟩)
    | (go_at_call 10; (with_reducible refine (subc_any _ _ _ _ _).mono ?_); rintro e w' ⟨rfl, ⟨⟨n, rfl⟩⟩⟩)
    | (go_at_call 11; (with_reducible refine (mulc_any _ _ _ _ _).mono ?_); rintro e w' ⟨rfl, ⟨⟨n, rfl⟩⟩⟩)
    | (go_at_call 14; (with_reducible refine (refadd_any _ _ _ _ _).mono ?_); rintro e w' ⟨rfl, ⟨⟨n, rfl⟩⟩⟩)
    | (go_at_call 12; (with_reducible refine (same_any _ _ _ _ _).mono ?_); rintro e w' ⟨rfl, rfl⟩)
    | (go_at_call 13; (with_reducible refine (elenchuslaw1_awake.calls _ _ Pure.awake_true).mono ?_); rintro e w' ⟨rfl, ⟨n, rfl⟩⟩))
  go_ret
  exact ⟨rfl, by repeat (first | exact Dr.refl _ | apply Dr.drewN | apply Dr.drew)⟩

theorem walk (a b c d : Int) (w : World) (_ : (Lit.int .i64 a).wf = true) (_ : (Lit.int .i64 b).wf = true) (_ : (Lit.int .i64 c).wf = true) (_ : (Lit.int .i64 d).wf = true) :
    Calls Try.prog 4 #[.int .i64 a, .int .i64 b, .int .i64 c, .int .i64 d] w fun e w' => e = .returned (.bool true) ∧ Below w.heap.size w w' :=
  (turns_walk a b c d w).mono fun _ _ ⟨h1, h2⟩ => ⟨h1, h2.below⟩
end Go.Proofs.Ytbkojghbgoejcaa.Turns
