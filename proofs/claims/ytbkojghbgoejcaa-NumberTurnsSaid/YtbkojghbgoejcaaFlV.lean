/- Plain laws of sums and products of words that stand for whole numbers, as the program makes them. Nothing of the program is claimed here. -/
import Derived.Test.YtbkojghbgoejcaaFlW
namespace Go.Proofs.Ytbkojghbgoejcaa.FlV
open Go Go.RowKit Go.Proofs.Ytbkojghbgoejcaa.FlW Go.Proofs.Ytbkojghbgoejcaa.Fl

theorem add_fin {x y : Nat} {a b : Int} (hx : Val x a) (hy : Val y b) (h : (a + b).natAbs < 2 ^ 53) : Val (fin (Ieee.double.add x y)) (a + b) := by
  obtain ⟨z, hz, hv⟩ := add_val hx hy h; rw [hz]; exact hv
theorem sub_fin {x y : Nat} {a b : Int} (hx : Val x a) (hy : Val y b) (h : (a - b).natAbs < 2 ^ 53) : Val (fin (Ieee.double.sub x y)) (a - b) := by
  obtain ⟨z, hz, hv⟩ := sub_val hx hy h; rw [hz]; exact hv
theorem mulRe_val {x y z u : Nat} {p q r s : Int} (hx : Val x p) (hy : Val y q) (hz : Val z r) (hu : Val u s) (h1 : (p * r).natAbs < 2 ^ 53) (h2 : (q * s).natAbs < 2 ^ 53) (h3 : (p * r - q * s).natAbs < 2 ^ 53) :
    Val (mulRe x y z u) (p * r - q * s) := by
  obtain ⟨a, ha, va⟩ := mul_val hx hz h1
  obtain ⟨b, hb, vb⟩ := mul_val hy hu h2
  unfold mulRe; rw [ha, hb]; exact sub_fin va vb h3
theorem mulIm_val {x y z u : Nat} {p q r s : Int} (hx : Val x p) (hy : Val y q) (hz : Val z r) (hu : Val u s) (h1 : (p * s).natAbs < 2 ^ 53) (h2 : (q * r).natAbs < 2 ^ 53) (h3 : (p * s + q * r).natAbs < 2 ^ 53) :
    Val (mulIm x y z u) (p * s + q * r) := by
  obtain ⟨a, ha, va⟩ := mul_val hx hu h1
  obtain ⟨b, hb, vb⟩ := mul_val hy hz h2
  unfold mulIm; rw [ha, hb]; exact add_fin va vb h3
theorem mulRe_comm (p q r s : Nat) : mulRe p q r s = mulRe r s p q := by unfold mulRe; rw [mul_comm p r, mul_comm q s]
theorem lift_comm (a b : Option Nat) : lift Ieee.double.add a b = lift Ieee.double.add b a := by
  cases a <;> cases b <;> simp [lift]
  exact add_comm _ _
theorem mulIm_comm (p q r s : Nat) : mulIm p q r s = mulIm r s p q := by
  unfold mulIm; rw [mul_comm p s, mul_comm q r, lift_comm]

theorem prod_bound (u v : Int) (m : Int) (h1 : -m ≤ u ∧ u ≤ m) (h2 : -m ≤ v ∧ v ≤ m) : -(m * m) ≤ u * v ∧ u * v ≤ m * m := by
  have e : (u * v).natAbs ≤ m.toNat * m.toNat := by rw [Int.natAbs_mul]; exact Nat.mul_le_mul (by omega) (by omega)
  have e2 : ((m.toNat * m.toNat : Nat) : Int) = m * m := by push_cast; rw [Int.toNat_of_nonneg (by omega)]
  omega
theorem tm_bound (a : Int) (m : Int) (h : 0 < m) : -(m - 1) ≤ a.tmod m ∧ a.tmod m ≤ m - 1 := by
  have h1 := Int.lt_tmod_of_pos a h
  have h2 := Int.tmod_lt_of_pos a h
  omega

end Go.Proofs.Ytbkojghbgoejcaa.FlV
