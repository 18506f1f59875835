/- Plain laws of words of 64 bits that stand for whole numbers: sums, differences, products below 2^53 are exact. Nothing of the program is claimed here. -/
import Ieee.Arith
namespace Go.Proofs.YtbkojghbgoejcaaDoor.Fl
open Ieee

/-- The word stands for a whole number (a zero may bear a sign). -/
def Val (x : Nat) (n : Int) : Prop := ∃ s m k, double.read x = .number s m (-((k : Nat) : Int)) ∧ m = n.natAbs * 2 ^ k ∧ (n ≠ 0 → s = decide (n < 0))

theorem signed_val (s : Bool) (n : Int) (k up : Nat) (h : n ≠ 0 → s = decide (n < 0)) : signed s (n.natAbs * 2 ^ k) up = n * 2 ^ (k + up) := by
  unfold signed
  by_cases hz : n = 0
  · subst hz; simp
  · rw [h hz]
    have e : (n.natAbs * 2 ^ k) <<< up = n.natAbs * 2 ^ (k + up) := by rw [Nat.shiftLeft_eq, Nat.mul_assoc, ← Nat.pow_add]
    rw [e]
    push_cast
    by_cases hn : n < 0
    · simp only [hn, decide_true, if_true]
      rw [show (n.natAbs : Int) = -n by omega]; rw [Int.neg_mul, Int.neg_neg]
    · simp only [hn, decide_false, Bool.false_eq_true, if_false]
      rw [show (n.natAbs : Int) = n by omega]

theorem cut_exact (neg : Bool) (N d : Nat) (h : 0 < N) : Toward.even.cut neg (N * 2 ^ d) d = N := by
  unfold Toward.cut
  have hl : d ≤ (N * 2 ^ d).log2 := by
    have : N * 2 ^ d ≠ 0 := by have := Nat.mul_pos h (Nat.two_pow_pos d); omega
    rw [Nat.le_log2 this]
    exact Nat.le_mul_of_pos_left _ h
  have hp := Nat.two_pow_pos d
  rw [Nat.min_eq_left (by omega), Nat.one_shiftLeft]
  simp only [Nat.mul_div_cancel _ hp, Nat.mul_mod_left]
  have e1 : decide (2 ^ d < 2 * 0) = false := by simp
  have e2 : (2 ^ d == 2 * 0) = false := by simp
  rw [e1, e2]
  simp

/-- The word of an exact whole number below 2^53. -/
theorem write_val (s : Bool) (N k : Nat) (h : N < 2 ^ 53) : Val (double.write (.number s (N * 2 ^ k) (-(k : Int)))) (if s then -(N : Int) else N) := by
  have hn : (if s then -(N : Int) else N).natAbs = N := by cases s <;> simp
  have hs : (if s then -(N : Int) else N) ≠ 0 → s = decide ((if s then -(N : Int) else N) < 0) := by
    cases s <;> simp <;> omega
  show Val (double.nearest s (N * 2 ^ k) (-(k : Int))) _
  by_cases h0 : N = 0
  · subst h0
    have e1 : double.nearest s (0 * 2 ^ k) (-(k : Int)) = double.word s 0 := by unfold Format.nearest; simp
    rw [e1]
    have e2 : double.read (double.word s 0) = .number s 0 (-((1074 : Nat) : Int)) := by cases s <;> decide
    obtain ⟨k, hk⟩ : ∃ k : Nat, k = 1074 := ⟨_, rfl⟩
    rw [← hk] at e2
    exact ⟨s, 0, k, e2, by rw [hn, Nat.zero_mul], hs⟩
  · obtain ⟨L, hL⟩ : ∃ L, L = N.log2 := ⟨_, rfl⟩
    have l1 : 2 ^ L ≤ N := by rw [hL]; exact Nat.log2_self_le h0
    have l2 : N < 2 ^ (L + 1) := by rw [hL]; exact Nat.lt_log2_self
    have l3 : L ≤ 52 := by
      have : 2 ^ L < 2 ^ 53 := by omega
      have := (Nat.pow_lt_pow_iff_right (by omega : 1 < 2)).1 this
      omega
    have hm0 : N * 2 ^ k ≠ 0 := Nat.mul_ne_zero h0 (by have := Nat.two_pow_pos k; omega)
    have hlog : (N * 2 ^ k).log2 = L + k := by
      rw [Nat.log2_eq_iff hm0, Nat.pow_add, show L + k + 1 = (L + 1) + k by omega, Nat.pow_add]
      exact ⟨Nat.mul_le_mul_right _ l1, Nat.mul_lt_mul_of_pos_right l2 (Nat.two_pow_pos k)⟩
    obtain ⟨M, hM⟩ : ∃ M, M = N * 2 ^ (52 - L) := ⟨_, rfl⟩
    have m1 : 2 ^ 52 ≤ M := by
      rw [hM]; calc 2 ^ 52 = 2 ^ L * 2 ^ (52 - L) := by rw [← Nat.pow_add]; congr 1; omega
        _ ≤ _ := Nat.mul_le_mul_right _ l1
    have m2 : M < 2 ^ 53 := by
      rw [hM]; calc N * 2 ^ (52 - L) < 2 ^ (L + 1) * 2 ^ (52 - L) := Nat.mul_lt_mul_of_pos_right l2 (Nat.two_pow_pos _)
        _ = 2 ^ 53 := by rw [← Nat.pow_add]; congr 1; omega
    have e1 : double.nearest s (N * 2 ^ k) (-(k : Int)) = double.word s ((L + 1022) * 2 ^ 52 + M) := by
      unfold Format.nearest
      rw [if_neg hm0, hlog]
      have p1 : (-(k : Int) + ((L + k : Nat) : Int) - (double.fractionBits : Nat)) = (L : Int) - 52 := by
        show (-(k : Int) + ((L + k : Nat) : Int) - ((52 : Nat) : Int)) = _; omega
      have p2 : double.leastPlace = -1074 := by decide
      have p3 : max ((L : Int) - 52) (-1074) = (L : Int) - 52 := by omega
      have p4 : double.binade = 2 ^ 52 := rfl
      have p5 : double.infRung = 2047 * 2 ^ 52 := by decide
      simp only [p1, p2, p3, p4, p5]
      have c : Toward.even.cut s ((N * 2 ^ k) <<< (-(k : Int) - ((L : Int) - 52)).toNat) (((L : Int) - 52) - -(k : Int)).toNat = M := by
        by_cases hk : k ≤ 52 - L
        · rw [show (((L : Int) - 52) - -(k : Int)).toNat = 0 by omega, show (-(k : Int) - ((L : Int) - 52)).toNat = 52 - L - k by omega, Nat.shiftLeft_eq, Nat.mul_assoc, ← Nat.pow_add, show k + (52 - L - k) = 52 - L by omega]
          have := cut_exact s (N * 2 ^ (52 - L)) 0 (by omega)
          rw [Nat.pow_zero, Nat.mul_one] at this
          rw [this, hM]
        · rw [show (((L : Int) - 52) - -(k : Int)).toNat = k - (52 - L) by omega, show (-(k : Int) - ((L : Int) - 52)).toNat = 0 by omega, Nat.shiftLeft_zero]
          have e : N * 2 ^ k = M * 2 ^ (k - (52 - L)) := by rw [hM, Nat.mul_assoc, ← Nat.pow_add]; congr 2; omega
          rw [e, cut_exact s M _ (by omega)]
      rw [c, show ((L : Int) - 52 - -1074).toNat = L + 1022 by omega]
      congr 1
      rw [Nat.min_eq_left]
      omega
    rw [e1]
    refine ⟨s, M, 52 - L, ?_, by rw [hn, hM], hs⟩
    have q : ∀ r : Nat, 2 ^ 52 ≤ r → r < 2047 * 2 ^ 52 → double.read (double.word s r) = .number s (2 ^ 52 + r % 2 ^ 52) (-1074 + ((r / 2 ^ 52 - 1 : Nat) : Int)) := by
      intro r h1 h2
      have w1 : double.signWeight = 2 ^ 63 := rfl
      have p2 : double.leastPlace = -1074 := by decide
      have p4 : double.binade = 2 ^ 52 := rfl
      have p5 : double.infRung = 2047 * 2 ^ 52 := by decide
      unfold Format.read Format.word
      rw [w1, p2, p4, p5]
      cases s
      · simp only [Bool.false_eq_true, if_false]
        rw [show r / 2 ^ 63 % 2 = 0 by omega, show r % 2 ^ 63 = r by omega, if_neg (by omega), if_pos h2]
        rfl
      · simp only [if_true]
        rw [show (2 ^ 63 + r) / 2 ^ 63 % 2 = 1 by omega, show (2 ^ 63 + r) % 2 ^ 63 = r by omega, if_neg (by omega), if_pos h2]
        rfl
    rw [q _ (by omega) (by omega)]
    congr 1 <;> omega

theorem val_int (n : Int) (h : n.natAbs < 2 ^ 53) : Val (double.write (.number (decide (n < 0)) n.natAbs 0)) n := by
  have := write_val (decide (n < 0)) n.natAbs 0 h
  rw [Nat.pow_zero, Nat.mul_one] at this
  have e : (if decide (n < 0) = true then -(n.natAbs : Int) else n.natAbs) = n := by
    split <;> rename_i hn <;> simp at hn <;> omega
  rw [e] at this
  exact this

theorem two_pow_pos (k : Nat) : (0 : Int) < (2 : Int) ^ k := by
  have := Nat.two_pow_pos k
  exact_mod_cast this
theorem two_pow_ne (k : Nat) : ((2 : Int) ^ k) ≠ 0 := by
  have := two_pow_pos k; omega

/-- What is written of a whole number times a power, below 2^53. -/
theorem write_total (s : Bool) (T : Int) (k : Nat) (h : T.natAbs < 2 ^ 53) (hs : T ≠ 0 → s = decide (T < 0)) : Val (double.write (.number s (T.natAbs * 2 ^ k) (-(k : Int)))) T := by
  have := write_val s T.natAbs k h
  have e : (if s = true then -(T.natAbs : Int) else T.natAbs) = T := by
    by_cases hz : T = 0
    · subst hz; cases s <;> rfl
    · rw [hs hz]; split <;> rename_i hn <;> simp at hn <;> omega
  rw [e] at this
  exact this

theorem sum_val {x y : Datum} (a b : Int) (s t : Bool) (k l : Nat) (hx : x = .number s (a.natAbs * 2 ^ k) (-(k : Int))) (hy : y = .number t (b.natAbs * 2 ^ l) (-(l : Int)))
    (hs : a ≠ 0 → s = decide (a < 0)) (ht : b ≠ 0 → t = decide (b < 0)) (h : (a + b).natAbs < 2 ^ 53) :
    ∃ d, x.sum y = some d ∧ Val (double.write d) (a + b) := by
  subst hx hy
  obtain ⟨K, hK⟩ : ∃ K : Nat, min (-(k : Int)) (-(l : Int)) = -(K : Int) ∧ k + (-(k : Int) - -(K : Int)).toNat = K ∧ l + (-(l : Int) - -(K : Int)).toNat = K := by
    rcases Nat.le_total k l with h | h
    · exact ⟨l, by omega, by omega, by omega⟩
    · exact ⟨k, by omega, by omega, by omega⟩
  refine ⟨_, rfl, ?_⟩
  simp only [hK.1]
  rw [signed_val s a k _ hs, signed_val t b l _ ht, hK.2.1, hK.2.2, ← Int.add_mul]
  have e : ((a + b) * 2 ^ K).natAbs = (a + b).natAbs * 2 ^ K := by rw [Int.natAbs_mul, Int.natAbs_pow]; rfl
  rw [e]
  refine write_total _ _ _ h (fun hn => ?_)
  rw [if_neg (fun h0 => by rcases Int.mul_eq_zero.1 h0 with h0 | h0; exact hn h0; exact two_pow_ne K h0)]
  have p := two_pow_pos K
  rw [decide_eq_decide]
  constructor
  · intro h0
    exact Int.not_le.1 (fun h1 => by have := Int.mul_nonneg h1 (Int.le_of_lt p); omega)
  · intro h0
    exact Int.mul_neg_of_neg_of_pos h0 p

theorem add_val {x y : Nat} {a b : Int} (hx : Val x a) (hy : Val y b) (h : (a + b).natAbs < 2 ^ 53) : ∃ z, double.add x y = some z ∧ Val z (a + b) := by
  obtain ⟨s, m, k, e1, rfl, hs⟩ := hx
  obtain ⟨t, n, l, e2, rfl, ht⟩ := hy
  obtain ⟨d, hd, hv⟩ := sum_val a b s t k l e1 e2 hs ht h
  exact ⟨double.write d, by unfold Format.add; rw [hd]; rfl, hv⟩

theorem sub_val {x y : Nat} {a b : Int} (hx : Val x a) (hy : Val y b) (h : (a - b).natAbs < 2 ^ 53) : ∃ z, double.sub x y = some z ∧ Val z (a - b) := by
  obtain ⟨s, m, k, e1, rfl, hs⟩ := hx
  obtain ⟨t, n, l, e2, rfl, ht⟩ := hy
  have e3 : (double.read y).opposite = .number (!t) ((-b).natAbs * 2 ^ l) (-(l : Int)) := by rw [e2, Int.natAbs_neg]; rfl
  obtain ⟨d, hd, hv⟩ := sum_val a (-b) s (!t) k l e1 e3 hs (fun hb => by rw [ht (by omega)]; rw [← decide_not, decide_eq_decide]; omega) (by rwa [← Int.sub_eq_add_neg])
  rw [← Int.sub_eq_add_neg] at hv
  exact ⟨double.write d, by unfold Format.sub; rw [hd]; rfl, hv⟩

theorem mul_val {x y : Nat} {a b : Int} (hx : Val x a) (hy : Val y b) (h : (a * b).natAbs < 2 ^ 53) : ∃ z, double.mul x y = some z ∧ Val z (a * b) := by
  obtain ⟨s, m, k, e1, rfl, hs⟩ := hx
  obtain ⟨t, n, l, e2, rfl, ht⟩ := hy
  refine ⟨double.write (.number (s ^^ t) ((a * b).natAbs * 2 ^ (k + l)) (-((k + l : Nat) : Int))), ?_, write_total _ _ _ h (fun hn => ?_)⟩
  · unfold Format.mul
    rw [e1, e2]
    simp only [Datum.product, Option.map_some]
    congr 3
    · rw [Int.natAbs_mul, Nat.pow_add]; ac_rfl
    · omega
  · have ha : a ≠ 0 := fun h0 => hn (by rw [h0, Int.zero_mul])
    have hb : b ≠ 0 := fun h0 => hn (by rw [h0, Int.mul_zero])
    rw [hs ha, ht hb]
    by_cases h1 : a < 0 <;> by_cases h2 : b < 0
    · have := Int.mul_pos_of_neg_of_neg h1 h2; simp [h1, h2]; omega
    · have := Int.mul_neg_of_neg_of_pos h1 (show 0 < b by omega); simp [h1, h2]; omega
    · have := Int.mul_neg_of_pos_of_neg (show 0 < a by omega) h2; simp [h1, h2]; omega
    · have := Int.mul_pos (show 0 < a by omega) (show 0 < b by omega); simp [h1, h2]; omega

theorem order_val {x y : Nat} {a : Int} (hx : Val x a) (hy : Val y a) : double.order x y = some .eq := by
  obtain ⟨s, m, k, e1, rfl, hs⟩ := hx
  obtain ⟨t, n, l, e2, rfl, ht⟩ := hy
  obtain ⟨K, hK⟩ : ∃ K : Nat, min (-(k : Int)) (-(l : Int)) = -(K : Int) ∧ k + (-(k : Int) - -(K : Int)).toNat = K ∧ l + (-(l : Int) - -(K : Int)).toNat = K := by
    rcases Nat.le_total k l with h | h
    · exact ⟨l, by omega, by omega, by omega⟩
    · exact ⟨k, by omega, by omega, by omega⟩
  unfold Format.order
  rw [e1, e2]
  simp only [Datum.order, hK.1]
  rw [signed_val s a k _ hs, signed_val t a l _ ht, hK.2.1, hK.2.2]
  congr 1
  exact Std.compare_self

theorem add_comm (x y : Nat) : double.add x y = double.add y x := by
  unfold Format.add
  congr 1
  cases double.read x <;> cases double.read y <;> simp only [Datum.sum]
  · rename_i s m i t n j
    rw [Int.min_comm j i, Int.add_comm (signed t n _), Bool.and_comm t s]
  · rename_i s t
    by_cases h : s = t
    · subst h; rfl
    · rw [if_neg h, if_neg (fun e => h e.symm)]
theorem mul_comm (x y : Nat) : double.mul x y = double.mul y x := by
  unfold Format.mul
  congr 1
  cases double.read x <;> cases double.read y <;> simp only [Datum.product]
  · rename_i s m i t n j
    rw [Nat.mul_comm m n, Int.add_comm i j, Bool.xor_comm s t]
  · rename_i s t
    rw [Bool.xor_comm]
end Go.Proofs.YtbkojghbgoejcaaDoor.Fl
