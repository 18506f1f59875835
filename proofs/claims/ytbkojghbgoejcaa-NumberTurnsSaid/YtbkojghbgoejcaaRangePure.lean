/- NumberRange: sums and differences undo one another where they are in range; by 1 and by 0 products are as they must be; products go both ways round. No conditions. -/
import Derived.Test.YtbkojghbgoejcaaRangex1
namespace Go.Proofs.Ytbkojghbgoejcaa.Pure
open Go.RowKit Go.Proofs.Ytbkojghbgoejcaa.QNumberRange Go.Proofs.YtbkojghbgoejcaaW.PrintWords Go.Proofs.YtbkojghbgoejcaaW.PrintLast

theorem awake_true : elenchuslaw1_awake.f = some true := by
  simp [elenchuslaw1_awake.f, number_Div.f, number_Mod.f, number_Rem.f, wrap64]

theorem i64_range {a : Int} (h : (Lit.int .i64 a).wf = true) : -9223372036854775808 ≤ a ∧ a ≤ 9223372036854775807 := by
  simp only [Lit.wf, Bool.and_eq_true, decide_eq_true_eq] at h
  exact h

theorem size_eq (a : Int) (h1 : -9223372036854775808 ≤ a) (h2 : a ≤ 9223372036854775807) : number_size.f a = some (a.natAbs : Int) := by
  unfold number_size.f
  have e (x : Int) : IntKind.u64.wrap x = x % 18446744073709551616 := rfl
  simp only [e]
  split <;> (congr 1; omega)

theorem wrap_in {x : Int} (h1 : -9223372036854775808 ≤ x) (h2 : x ≤ 9223372036854775807) : wrap64 x = x := by
  unfold wrap64; omega

theorem add_fits (a b : Int) (ha : -9223372036854775808 ≤ a ∧ a ≤ 9223372036854775807) (hb : -9223372036854775808 ≤ b ∧ b ≤ 9223372036854775807) :
    number_Add.f a b = if -9223372036854775808 ≤ a + b ∧ a + b ≤ 9223372036854775807 then some (a + b, 0) else some (0, 6) := by
  unfold number_Add.f
  by_cases h : -9223372036854775808 ≤ a + b ∧ a + b ≤ 9223372036854775807
  · rw [if_pos h, wrap_in h.1 h.2]
    by_cases hz : b = 0
    · simp [hz]
    · rw [if_neg]
      simp only [bne_iff_ne, ne_eq, decide_eq_decide, Decidable.not_not]; omega
  · rw [if_neg h]
    have hz : b ≠ 0 := by omega
    rw [if_pos, if_neg hz]
    simp only [bne_iff_ne, ne_eq, decide_eq_decide]
    unfold wrap64; omega

theorem sub_fits (a b : Int) (ha : -9223372036854775808 ≤ a ∧ a ≤ 9223372036854775807) (hb : -9223372036854775808 ≤ b ∧ b ≤ 9223372036854775807) :
    number_Sub.f a b = if -9223372036854775808 ≤ a - b ∧ a - b ≤ 9223372036854775807 then some (a - b, 0) else some (0, 6) := by
  unfold number_Sub.f
  by_cases h : -9223372036854775808 ≤ a - b ∧ a - b ≤ 9223372036854775807
  · rw [if_pos h, wrap_in h.1 h.2]
    by_cases hz : b = 0
    · simp [hz]
    · rw [if_neg]
      simp only [bne_iff_ne, ne_eq, decide_eq_decide, Decidable.not_not]; omega
  · rw [if_neg h]
    have hz : b ≠ 0 := by omega
    rw [if_pos, if_neg hz]
    simp only [bne_iff_ne, ne_eq, decide_eq_decide]
    unfold wrap64; omega

theorem mask (x : Int) (h : 0 ≤ x) (h2 : x < 18446744073709551616) : Go.bits .and .u64 x 4294967295 = x % 4294967296 := by
  obtain ⟨n, rfl⟩ : ∃ n : Nat, x = n := ⟨x.toNat, by omega⟩
  unfold Go.bits
  have e : ((BitVec.ofInt 64 (n : Int)) &&& (BitVec.ofInt 64 4294967295)).toNat = n % 4294967296 := by
    rw [BitVec.toNat_and]
    have h1 : (BitVec.ofInt 64 (n : Int)).toNat = n := by simp; omega
    have h3 : (BitVec.ofInt 64 4294967295).toNat = 2 ^ 32 - 1 := by decide
    rw [h1, h3, Nat.and_two_pow_sub_one_eq_mod]
  show IntKind.u64.wrap (((BitVec.ofInt 64 (n : Int)) &&& (BitVec.ofInt 64 4294967295)).toNat : Int) = _
  rw [e]
  show ((n % 4294967296 : Nat) : Int) % 18446744073709551616 = _
  omega

/-- The product of two words, in two words. -/
theorem mul64_eq (x y : Int) (hx : 0 ≤ x ∧ x < 18446744073709551616) (hy : 0 ≤ y ∧ y < 18446744073709551616) :
    bits_Mul64.f x y = some (x * y / 18446744073709551616, x * y % 18446744073709551616) := by
  unfold bits_Mul64.f
  simp only [mask x hx.1 hx.2, mask y hy.1 hy.2]
  have e (x : Int) : IntKind.u64.wrap x = x % 18446744073709551616 := rfl
  obtain ⟨x1, hx1⟩ : ∃ x1, x1 = x / 4294967296 := ⟨_, rfl⟩
  obtain ⟨x0, hx0⟩ : ∃ x0, x0 = x % 4294967296 := ⟨_, rfl⟩
  obtain ⟨y1, hy1⟩ : ∃ y1, y1 = y / 4294967296 := ⟨_, rfl⟩
  obtain ⟨y0, hy0⟩ : ∃ y0, y0 = y % 4294967296 := ⟨_, rfl⟩
  rw [← hx1, ← hx0, ← hy1, ← hy0]
  have b1 : 0 ≤ x1 ∧ x1 ≤ 4294967295 := by omega
  have b2 : 0 ≤ x0 ∧ x0 ≤ 4294967295 := by omega
  have b3 : 0 ≤ y1 ∧ y1 ≤ 4294967295 := by omega
  have b4 : 0 ≤ y0 ∧ y0 ≤ 4294967295 := by omega
  have px : x = 4294967296 * x1 + x0 := by omega
  have py : y = 4294967296 * y1 + y0 := by omega
  have bd (u v : Int) (hu : 0 ≤ u ∧ u ≤ 4294967295) (hv : 0 ≤ v ∧ v ≤ 4294967295) : 0 ≤ u * v ∧ u * v ≤ 4294967295 * 4294967295 :=
    ⟨Int.mul_nonneg hu.1 hv.1, Int.mul_le_mul hu.2 hv.2 hv.1 (by omega)⟩
  have hp : x * y = 18446744073709551616 * (x1 * y1) + 4294967296 * (x1 * y0) + 4294967296 * (x0 * y1) + x0 * y0 := by
    rw [px, py]; simp only [Int.add_mul, Int.mul_add]
    have q1 : 4294967296 * x1 * (4294967296 * y1) = 18446744073709551616 * (x1 * y1) := by
      rw [Int.mul_assoc, Int.mul_left_comm x1, ← Int.mul_assoc]; rfl
    have q2 : x0 * (4294967296 * y1) = 4294967296 * (x0 * y1) := by rw [Int.mul_left_comm]
    rw [q1, q2, Int.mul_assoc]; omega
  obtain ⟨a1, a2⟩ := bd x1 y1 b1 b3
  obtain ⟨a3, a4⟩ := bd x1 y0 b1 b4
  obtain ⟨a5, a6⟩ := bd x0 y1 b2 b3
  obtain ⟨a7, a8⟩ := bd x0 y0 b2 b4
  rw [hp]
  generalize x1 * y1 = A at *
  generalize x1 * y0 = B at *
  generalize x0 * y1 = C at *
  generalize x0 * y0 = D at *
  simp only [e]
  rw [mask _ (by omega) (by omega)]
  congr 1
  rw [Prod.mk.injEq]
  constructor <;> omega

theorem mul_fits (a b : Int) (ha : -9223372036854775808 ≤ a ∧ a ≤ 9223372036854775807) (hb : -9223372036854775808 ≤ b ∧ b ≤ 9223372036854775807) :
    number_Mul.f a b = if -9223372036854775808 ≤ a * b ∧ a * b ≤ 9223372036854775807 then some (a * b, 0) else some (0, 6) := by
  unfold number_Mul.f
  rw [size_eq a ha.1 ha.2, size_eq b hb.1 hb.2]
  simp only [Option.bind_some]
  rw [mul64_eq _ _ (by omega) (by omega)]
  simp only [Option.bind_some]
  have hn : ((a.natAbs : Int) * (b.natAbs : Int)) = ((a * b).natAbs : Int) := by rw [Int.natAbs_mul]; rfl
  rw [hn]
  have hs : 0 < a * b → ((a < 0) ↔ (b < 0)) := by
    intro h
    constructor
    · intro ha'
      apply Int.not_le.1; intro hb'
      have := Int.mul_nonpos_of_nonpos_of_nonneg (Int.le_of_lt ha') hb'
      omega
    · intro hb'
      apply Int.not_le.1; intro ha'
      have := Int.mul_nonpos_of_nonneg_of_nonpos ha' (Int.le_of_lt hb')
      omega
  have hs2 : a * b < 0 → ¬ ((a < 0) ↔ (b < 0)) := by
    intro h hi
    by_cases ha' : a < 0
    · have := Int.mul_pos_of_neg_of_neg ha' (hi.1 ha'); omega
    · have := Int.mul_nonneg (Int.not_lt.1 ha') (Int.not_lt.1 (fun h => ha' (hi.2 h))); omega
  have hz : a * b = 0 → a = 0 ∨ b = 0 := fun h => Int.mul_eq_zero.1 h
  have hm : -85070591730234615865843651857942052864 ≤ a * b ∧ a * b ≤ 85070591730234615865843651857942052864 := by
    have h1 : a.natAbs * b.natAbs ≤ 9223372036854775808 * 9223372036854775808 := Nat.mul_le_mul (by omega) (by omega)
    have h2 : (a * b).natAbs = a.natAbs * b.natAbs := Int.natAbs_mul a b
    omega
  generalize hq : a * b = q at *
  by_cases hsg : (a < 0) ↔ (b < 0)
  · rw [if_neg (by simp only [bne_iff_ne, ne_eq, decide_eq_decide, Decidable.not_not]; exact hsg)]
    have hq0 : 0 ≤ q := Int.not_lt.1 (fun h => hs2 h hsg)
    by_cases hr : q ≤ 9223372036854775807
    · rw [if_neg (by omega), if_neg (by omega), if_pos (by omega), wrap_in (by omega) (by omega)]
    · rw [if_neg (by omega : ¬ (-9223372036854775808 ≤ q ∧ q ≤ 9223372036854775807))]
      split
      · rfl
      · rw [if_pos (by omega)]
  · rw [if_pos (by simp only [bne_iff_ne, ne_eq, decide_eq_decide]; exact hsg)]
    have hq0 : q ≤ 0 := Int.not_lt.1 (fun h => hsg (hs h))
    by_cases hr : -9223372036854775808 ≤ q
    · rw [if_neg (by omega), if_neg (by omega), if_pos (by omega), wrap_in (by omega) (by omega)]
    · rw [if_neg (by omega : ¬ (-9223372036854775808 ≤ q ∧ q ≤ 9223372036854775807))]
      split
      · rfl
      · rw [if_pos (by omega)]

theorem NumberRange : elenchuslaw1_NumberRange.Pure := by
  intro a b wa wb
  have ha := i64_range wa
  have hb := i64_range wb
  refine ⟨1, ?_⟩
  have j : ∀ s e, number_Add.f a b = some (s, e) → elenchuslaw1_NumberRange.j0 1 a b s e = some true := by
    intro s e h
    simp only [elenchuslaw1_NumberRange.j0]
    have hc : number_Add.f b a = some (s, e) := by
      rw [← h, add_fits b a hb ha, add_fits a b ha hb, Int.add_comm]
    rw [hc, mul_fits a 1 ha (by omega), mul_fits a 0 ha (by omega), mul_fits b a hb ha, mul_fits a b ha hb, Int.mul_one, Int.mul_zero, Int.mul_comm b a]
    rw [if_pos (by omega), if_pos (by omega)]
    simp only [Option.bind_some, if_true]
    split <;> simp [awake_true]
  unfold elenchuslaw1_NumberRange.f
  by_cases h : -9223372036854775808 ≤ a + b ∧ a + b ≤ 9223372036854775807
  · have e1 := add_fits a b ha hb
    rw [if_pos h] at e1
    rw [e1]
    simp only [Option.bind_some, if_true]
    rw [sub_fits _ _ h hb, if_pos (by omega)]
    simp only [Option.bind_some, if_true]
    rw [if_pos (by omega)]
    exact j _ _ e1
  · have e1 := add_fits a b ha hb
    rw [if_neg h] at e1
    rw [e1]
    simp only [Option.bind_some]
    rw [if_neg (by omega)]
    exact j _ _ e1

end Go.Proofs.Ytbkojghbgoejcaa.Pure
