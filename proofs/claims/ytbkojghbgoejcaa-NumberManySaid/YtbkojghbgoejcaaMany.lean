/- Proved: for every three int64 arguments the call of NumberMany returns true, and the world is the old one but for drawn orders. Conditions: the arguments are in int64's range. -/
import Derived.Test.YtbkojghbgoejcaaRangePure
namespace Go.Proofs.Ytbkojghbgoejcaa.Many
set_option linter.unusedVariables false
open Go.RowKit Go.Proofs.Ytbkojghbgoejcaa.QNumberRange Go.Proofs.Ytbkojghbgoejcaa.Pure Go.Proofs.YtbkojghbgoejcaaW.PrintWords Go.Proofs.YtbkojghbgoejcaaW.PrintLast Go.Proofs.YtbkojghbgoejcaaW.PrintMore

theorem i0 (w : World) : (Instr.index 39 (.agg #[.int .i64 0, .int .i64 0, .int .i64 0, .int .i64 0, .int .i64 0, .int .i64 0, .int .i64 0]) (.int .i64 0)).run Try.prog w = .ok (.int .i64 0) w := by kernel_rfl
theorem i1 (w : World) : (Instr.index 39 (.agg #[.int .i64 0, .int .i64 0, .int .i64 0, .int .i64 0, .int .i64 0, .int .i64 0, .int .i64 0]) (.int .i64 1)).run Try.prog w = .ok (.int .i64 0) w := by kernel_rfl
theorem i2 (w : World) : (Instr.index 39 (.agg #[.int .i64 0, .int .i64 0, .int .i64 0, .int .i64 0, .int .i64 0, .int .i64 0, .int .i64 0]) (.int .i64 2)).run Try.prog w = .ok (.int .i64 0) w := by kernel_rfl
theorem i3 (w : World) : (Instr.index 39 (.agg #[.int .i64 0, .int .i64 0, .int .i64 0, .int .i64 0, .int .i64 0, .int .i64 0, .int .i64 0]) (.int .i64 3)).run Try.prog w = .ok (.int .i64 0) w := by kernel_rfl
theorem i4 (w : World) : (Instr.index 39 (.agg #[.int .i64 0, .int .i64 0, .int .i64 0, .int .i64 0, .int .i64 0, .int .i64 0, .int .i64 0]) (.int .i64 4)).run Try.prog w = .ok (.int .i64 0) w := by kernel_rfl
theorem i5 (w : World) : (Instr.index 39 (.agg #[.int .i64 0, .int .i64 0, .int .i64 0, .int .i64 0, .int .i64 0, .int .i64 0, .int .i64 0]) (.int .i64 5)).run Try.prog w = .ok (.int .i64 0) w := by kernel_rfl
theorem i6 (w : World) : (Instr.index 39 (.agg #[.int .i64 0, .int .i64 0, .int .i64 0, .int .i64 0, .int .i64 0, .int .i64 0, .int .i64 0]) (.int .i64 6)).run Try.prog w = .ok (.int .i64 0) w := by kernel_rfl
set_option maxHeartbeats 800000 in
theorem many_walk (a b c : Int) (ha : -9223372036854775808 ≤ a ∧ a ≤ 9223372036854775807) (hb : -9223372036854775808 ≤ b ∧ b ≤ 9223372036854775807)
  (hc : -9223372036854775808 ≤ c ∧ c ≤ 9223372036854775807) (w : World) : Calls Try.prog 8 #[.int .i64 a, .int .i64 b, .int .i64 c] w fun e w' => e = .returned (.bool true) ∧ Drawn0 w w' := by
  have tb (a : Int) : -999999 ≤ a.tmod 1000000 ∧ a.tmod 1000000 ≤ 999999 := by
    have h1 := Int.lt_tmod_of_pos a (b := 1000000) (by omega)
    have h2 := Int.tmod_lt_of_pos a (b := 1000000) (by omega)
    omega
  have ba := tb a
  have bb := tb b
  have bc := tb c
  clear tb
  go_enter Try.func8, Try.ntmps8
  go_wp2_with fail
  generalize a.tmod 1000000 = x at *
  generalize b.tmod 1000000 = y at *
  generalize c.tmod 1000000 = z at *
  clear ha hb hc
  have pr (u v : Int) (m : Int) (h1 : -999999 ≤ u ∧ u ≤ 999999) (h2 : -m ≤ v ∧ v ≤ m) : -(999999 * m) ≤ u * v ∧ u * v ≤ 999999 * m := by
    have e : (u * v).natAbs ≤ 999999 * m.toNat := by rw [Int.natAbs_mul]; exact Nat.mul_le_mul (by omega) (by omega)
    omega
  have m1 := pr x (y + z) 1999998 ba (by omega)
  have m2 := pr x y 999999 ba bb
  have m3 := pr x z 999999 ba bc
  have d := Int.mul_add x y z
  have f1 : number_Add.f y z = some (y + z, 0) := by rw [add_fits _ _ (by omega) (by omega), if_pos (by omega)]
  have f2 : number_Mul.f x (y + z) = some (x * (y + z), 0) := by rw [mul_fits _ _ (by omega) (by omega), if_pos (by omega)]
  have f3 : number_Mul.f x y = some (x * y, 0) := by rw [mul_fits _ _ (by omega) (by omega), if_pos (by omega)]
  have f4 : number_Mul.f x z = some (x * z, 0) := by rw [mul_fits _ _ (by omega) (by omega), if_pos (by omega)]
  have f5 : number_Add.f (x * y) (x * z) = some (x * (y + z), 0) := by rw [add_fits _ _ (by omega) (by omega), if_pos (by omega), d]
  have f6 : number_Sub.f 0 x = some (-x, 0) := by rw [sub_fits _ _ (by omega) (by omega), if_pos (by omega)]; congr 2; omega
  have f7 : number_Sub.f 0 (-x) = some (x, 0) := by rw [sub_fits _ _ (by omega) (by omega), if_pos (by omega)]; congr 2; omega
  have F1 := Aside0.mk f1
  have F2 := Aside0.mk f2
  have F3 := Aside0.mk f3
  have F4 := Aside0.mk f4
  have F5 := Aside0.mk f5
  have F6 := Aside0.mk f6
  have F7 := Aside0.mk f7
  clear f1 f2 f3 f4 f5 f6 f7 d m1 m2 m3 pr ba bb bc
  (with_reducible refine (number_Add.calls _ _ _ _ _ F1.out).mono ?_); rintro e w' ⟨rfl, ⟨n1, rfl⟩⟩
  go_wp2_with fail
  (with_reducible refine (number_Mul.calls _ _ _ _ _ F2.out).mono ?_); rintro e w' ⟨rfl, ⟨n2, rfl⟩⟩
  go_wp2_with fail
  (with_reducible refine (number_Mul.calls _ _ _ _ _ F3.out).mono ?_); rintro e w' ⟨rfl, ⟨n3, rfl⟩⟩
  go_wp2_with fail
  (with_reducible refine (number_Mul.calls _ _ _ _ _ F4.out).mono ?_); rintro e w' ⟨rfl, ⟨n4, rfl⟩⟩
  go_wp2_with fail
  (with_reducible refine (number_Add.calls _ _ _ _ _ F5.out).mono ?_); rintro e w' ⟨rfl, ⟨n5, rfl⟩⟩
  go_wp2_with fail
  (with_reducible refine (number_Sub.calls _ _ _ _ _ F6.out).mono ?_); rintro e w' ⟨rfl, ⟨n6, rfl⟩⟩
  go_wp2_with fail
  (with_reducible refine (number_Sub.calls _ _ _ _ _ F7.out).mono ?_); rintro e w' ⟨rfl, ⟨n7, rfl⟩⟩
  go_wp2_with fail
  have h0 := i0
  have h1 := i1
  have h2 := i2
  have h3 := i3
  have h4 := i4
  have h5 := i5
  have h6 := i6
  refine wp_loop_rounds 8 ?_
  rw [rounds_succ]
  go_wp2_with fail
  rw [rounds_succ]
  go_wp2_with fail
  rw [rounds_succ]
  go_wp2_with fail
  rw [rounds_succ]
  go_wp2_with fail
  rw [rounds_succ]
  go_wp2_with fail
  rw [rounds_succ]
  go_wp2_with fail
  rw [rounds_succ]
  go_wp2_with fail
  rw [rounds_succ]
  go_wp2_with fail
  (with_reducible refine (elenchuslaw1_awake.calls _ _ awake_true).mono ?_); rintro e w' ⟨rfl, ⟨n8, rfl⟩⟩
  go_wp2_with fail
  go_ret
  exact ⟨rfl, by repeat (first | exact Drawn0.refl _ | apply Drawn0.step)⟩
theorem walk (a b c : Int) (w : World) (wa : (Lit.int .i64 a).wf = true) (wb : (Lit.int .i64 b).wf = true) (wc : (Lit.int .i64 c).wf = true) :
    Calls Try.prog 8 #[.int .i64 a, .int .i64 b, .int .i64 c] w fun e w' => e = .returned (.bool true) ∧ Below w.heap.size w w' :=
  (many_walk a b c (i64_range wa) (i64_range wb) (i64_range wc) w).mono fun _ _ ⟨h1, h2⟩ => ⟨h1, h2.below⟩
end Go.Proofs.Ytbkojghbgoejcaa.Many
