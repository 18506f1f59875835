/- Proved: for every four ints the call of NumberWhole returns true, and nothing that was there is changed. Conditions: none. -/
import Derived.Test.YtbkojghbgoejcaaFlW
import Derived.Test.YtbkojghbgoejcaaRangePure
namespace Go.Proofs.Ytbkojghbgoejcaa.Whole
open Go Go.RowKit Go.Proofs.Ytbkojghbgoejcaa.FlW Go.Proofs.Ytbkojghbgoejcaa.Fl Go.Proofs.Ytbkojghbgoejcaa.QNumberRange Go.Proofs.YtbkojghbgoejcaaW.PrintWords

theorem add_fin {x y : Nat} {a b : Int} (hx : Val x a) (hy : Val y b) (h : (a + b).natAbs < 2 ^ 53) : Val (fin (Ieee.double.add x y)) (a + b) := by
  obtain ⟨z, hz, hv⟩ := add_val hx hy h; rw [hz]; exact hv
theorem sub_fin {x y : Nat} {a b : Int} (hx : Val x a) (hy : Val y b) (h : (a - b).natAbs < 2 ^ 53) : Val (fin (Ieee.double.sub x y)) (a - b) := by
  obtain ⟨z, hz, hv⟩ := sub_val hx hy h; rw [hz]; exact hv
theorem mulRe_val {x y z u : Nat} {p q r s : Int} (hx : Val x p) (hy : Val y q) (hz : Val z r) (hu : Val u s) (h1 : (p * r).natAbs < 2 ^ 53) (h2 : (q * s).natAbs < 2 ^ 53) (h3 : (p * r - q * s).natAbs < 2 ^ 53) :
    Val (mulRe x y z u) (p * r - q * s) := by
  obtain ⟨a, ha, va⟩ := mul_val hx hz h1
  obtain ⟨b, hb, vb⟩ := mul_val hy hu h2
  unfold mulRe; rw [ha, hb]; exact sub_fin va vb h3
theorem mulIm_val {x y z u : Nat} {p q r s : Int} (hx : Val x p) (hy : Val y q) (hz : Val z r) (hu : Val u s) (h1 : (p * s).natAbs < 2 ^ 53) (h2 : (q * r).natAbs < 2 ^ 53) (h3 : (p * s + q * r).natAbs < 2 ^ 53) :
    Val (mulIm x y z u) (p * s + q * r) := by
  obtain ⟨a, ha, va⟩ := mul_val hx hu h1
  obtain ⟨b, hb, vb⟩ := mul_val hy hz h2
  unfold mulIm; rw [ha, hb]; exact add_fin va vb h3
theorem mulRe_comm (p q r s : Nat) : mulRe p q r s = mulRe r s p q := by unfold mulRe; rw [mul_comm p r, mul_comm q s]
theorem lift_comm (a b : Option Nat) : lift Ieee.double.add a b = lift Ieee.double.add b a := by
  cases a <;> cases b <;> simp [lift]
  exact add_comm _ _
theorem mulIm_comm (p q r s : Nat) : mulIm p q r s = mulIm r s p q := by
  unfold mulIm; rw [mul_comm p s, mul_comm q r, lift_comm]

theorem prod_bound (u v : Int) (m : Int) (h1 : -m ≤ u ∧ u ≤ m) (h2 : -m ≤ v ∧ v ≤ m) : -(m * m) ≤ u * v ∧ u * v ≤ m * m := by
  have e : (u * v).natAbs ≤ m.toNat * m.toNat := by rw [Int.natAbs_mul]; exact Nat.mul_le_mul (by omega) (by omega)
  have e2 : ((m.toNat * m.toNat : Nat) : Int) = m * m := by push_cast; rw [Int.toNat_of_nonneg (by omega)]
  omega
theorem tm_bound (a : Int) (m : Int) (h : 0 < m) : -(m - 1) ≤ a.tmod m ∧ a.tmod m ≤ m - 1 := by
  have h1 := Int.lt_tmod_of_pos a h
  have h2 := Int.tmod_lt_of_pos a h
  omega

set_option maxHeartbeats 3200000 in
theorem whole_walk (a b c d : Int) (w : World) : Calls Try.prog 3 #[.int .i64 a, .int .i64 b, .int .i64 c, .int .i64 d] w fun e w' => e = .returned (.bool true) ∧ Dr w w' := by
  have ba := tm_bound a 10000 (by omega)
  have bb := tm_bound b 10000 (by omega)
  have bc := tm_bound c 10000 (by omega)
  have bd := tm_bound d 10000 (by omega)
  have hc := run_conv
  go_enter Try.func3, Try.ntmps3
  go_wp2_with fail
  generalize a.tmod 10000 = p at *
  generalize b.tmod 10000 = q at *
  generalize c.tmod 10000 = r at *
  generalize d.tmod 10000 = s at *
  have m1 := prod_bound p r 9999 (by omega) (by omega)
  have m2 := prod_bound q s 9999 (by omega) (by omega)
  have m3 := prod_bound p s 9999 (by omega) (by omega)
  have m4 := prod_bound q r 9999 (by omega) (by omega)
  have vp := val_F p (by omega)
  have vq := val_F q (by omega)
  have vr := val_F r (by omega)
  have vs := val_F s (by omega)
  have q1 := run_eqc _ _ _ _ (order_val (add_fin vp vr (by omega)) (val_F (p + r) (by omega))) (order_val (add_fin vq vs (by omega)) (val_F (q + s) (by omega)))
  have q2 := run_eqc _ _ _ _ (order_val (sub_fin vp vr (by omega)) (val_F (p - r) (by omega))) (order_val (sub_fin vq vs (by omega)) (val_F (q - s) (by omega)))
  have q3 := run_eqc _ _ _ _ (order_val (mulRe_val vp vq vr vs (by omega) (by omega) (by omega)) (val_F (p * r - q * s) (by omega))) (order_val (mulIm_val vp vq vr vs (by omega) (by omega) (by omega)) (val_F (p * s + q * r) (by omega)))
  have c1 := Lib.hid (mulRe_comm (F p) (F q) (F r) (F s))
  have c2 := Lib.hid (mulIm_comm (F p) (F q) (F r) (F s))
  clear vp vq vr vs
  go_wp2_with (first
    | (go_at_call 9; (with_reducible refine (addc_any _ _ _ _ _).mono ?_); rintro e w' ⟨rfl, ⟨⟨n, rfl⟩⟩⟩)
    | (go_at_call 10; (with_reducible refine (subc_any _ _ _ _ _).mono ?_); rintro e w' ⟨rfl, ⟨⟨n, rfl⟩⟩⟩)
    | (go_at_call 11; (with_reducible refine (mulc_any _ _ _ _ _).mono ?_); rintro e w' ⟨rfl, ⟨⟨n, rfl⟩⟩⟩)
    | (go_at_call 12; (with_reducible refine (same_any _ _ _ _ _).mono ?_); rintro e w' ⟨rfl, rfl⟩; rw [← c1.out, ← c2.out])
    | (go_at_call 13; (with_reducible refine (elenchuslaw1_awake.calls _ _ Pure.awake_true).mono ?_); rintro e w' ⟨rfl, ⟨n, rfl⟩⟩))
  go_ret
  exact ⟨rfl, by repeat (first | exact Dr.refl _ | apply Dr.drewN | apply Dr.drew)⟩

theorem walk (a b c d : Int) (w : World) (_ : (Lit.int .i64 a).wf = true) (_ : (Lit.int .i64 b).wf = true) (_ : (Lit.int .i64 c).wf = true) (_ : (Lit.int .i64 d).wf = true) :
    Calls Try.prog 3 #[.int .i64 a, .int .i64 b, .int .i64 c, .int .i64 d] w fun e w' => e = .returned (.bool true) ∧ Below w.heap.size w w' :=
  (whole_walk a b c d w).mono fun _ _ ⟨h1, h2⟩ => ⟨h1, h2.below⟩
end Go.Proofs.Ytbkojghbgoejcaa.Whole
