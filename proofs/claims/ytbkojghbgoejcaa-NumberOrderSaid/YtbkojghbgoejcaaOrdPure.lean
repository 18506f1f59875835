/- Proved: complex numbers are in an order by their words, and two have one text just if they are the same. Conditions: the six words are words of 64 bits. -/
import Derived.Test.YtbkojghbgoejcaaOrd
import Derived.Laws.Strings
namespace Go.Proofs.Ytbkojghbgoejcaa.Pure
open Go.RowKit Go.Proofs.Ytbkojghbgoejcaa.QNumberRange Go.Proofs.YtbkojghbgoejcaaW.PrintWords Go.Proofs.YtbkojghbgoejcaaW.PrintLast

theorem u64_range {a : Int} (h : (Lit.int .u64 a).wf = true) : 0 ≤ a ∧ a < 18446744073709551616 := by
  have h2 : IntKind.u64.min ≤ a ∧ a ≤ IntKind.u64.max := by simpa [Lit.wf] using h
  have e1 : IntKind.u64.min = 0 := rfl
  have e2 : IntKind.u64.max = 18446744073709551615 := rfl
  omega

def cmp3 (a b : Int) : Int := if a < b then -1 else if a > b then 1 else 0
def lex (a b c d : Int) : Int := if cmp3 a c = 0 then cmp3 b d else cmp3 a c

theorem compare_eq (a b : Int) : cmp_Compare_uint64.f a b = some (cmp3 a b) := by
  unfold cmp_Compare_uint64.f cmp_isNaN_uint64.f cmp3
  simp only [bne_self_eq_false, Option.bind_some, Bool.false_eq_true, if_false]
  split
  · rfl
  · split <;> rfl

theorem or_eq (x y : Int) : cmp_Or_int.f 4 [x, y] = some (if x = 0 then y else x) := by
  unfold cmp_Or_int.f
  have w1 : wrap64 (0 + 1) = 1 := by unfold wrap64; omega
  have w2 : wrap64 (1 + 1) = 2 := by unfold wrap64; omega
  simp only [cmp_Or_int.l0, w1, w2]
  by_cases hx : x = 0
  · by_cases hy : y = 0
    · simp [rd, hx, hy]
    · simp [rd, hx, hy]
  · simp [rd, hx]

theorem compareC_eq (a b c d : Int) : number_CompareC.f 4 a b c d = some (lex a b c d) := by
  unfold number_CompareC.f lex
  rw [compare_eq, compare_eq]
  simp only [Option.bind_some]
  rw [or_eq]
  rfl

theorem hexd_inj {m n : Nat} (hm : m < 16) (hn : n < 16) (h : Put.hexd m = Put.hexd n) : m = n := by
  unfold Put.hexd at h
  split at h <;> split at h <;> omega

theorem digits_inj (a b : Nat) : ∀ k, (∀ t, t < k → a / 16 ^ t % 16 = b / 16 ^ t % 16) → a % 16 ^ k = b % 16 ^ k
  | 0, _ => by simp [Nat.mod_one]
  | k + 1, h => by
    have ih := digits_inj a b k (fun t ht => h t (by omega))
    have hk := h k (by omega)
    rw [Nat.pow_succ, Nat.mod_mul, Nat.mod_mul, ih, hk]

theorem hexs_inj (x y : Int) (hx : 0 ≤ x ∧ x < 18446744073709551616) (hy : 0 ≤ y ∧ y < 18446744073709551616) (h : Put.hexs x 16 = Put.hexs y 16) : x = y := by
  have h2 : ∀ t, t < 16 → x.toNat / 16 ^ t % 16 = y.toNat / 16 ^ t % 16 := by
    intro t ht
    have e : ∀ z : Int, (Put.hexs z 16)[15 - t]? = some (Put.hexd (z.toNat / 16 ^ t % 16)) := by
      intro z
      unfold Put.hexs
      rw [List.getElem?_map, List.getElem?_range (by omega), Option.map_some, show 15 - (15 - t) = t by omega]
    have := e x
    rw [h, e y] at this
    exact (hexd_inj (Nat.mod_lt _ (by omega)) (Nat.mod_lt _ (by omega)) (Option.some.inj this)).symm
  have h3 := digits_inj _ _ 16 h2
  have p : (16 : Nat) ^ 16 = 18446744073709551616 := by decide
  rw [p, Nat.mod_eq_of_lt (by omega), Nat.mod_eq_of_lt (by omega)] at h3
  omega

theorem byte_range (x : Int) : ∀ z ∈ Put.hexs x 16, 0 ≤ z ∧ z < 256 := by
  intro z hz
  unfold Put.hexs at hz
  obtain ⟨t, _, rfl⟩ := List.mem_map.1 hz
  unfold Put.hexd
  have : x.toNat / 16 ^ (15 - t) % 16 < 16 := Nat.mod_lt _ (by omega)
  split <;> omega

theorem textC_inj (a b c d : Int) (ha : 0 ≤ a ∧ a < 18446744073709551616) (hb : 0 ≤ b ∧ b < 18446744073709551616) (hc : 0 ≤ c ∧ c < 18446744073709551616) (hd : 0 ≤ d ∧ d < 18446744073709551616) :
    ((strOfNums (Put.textC a b)).toList == (strOfNums (Put.textC c d)).toList) = (decide (a = c) && decide (b = d)) := by
  rw [Bool.eq_iff_iff]
  simp only [beq_iff_eq, Bool.and_eq_true, decide_eq_true_eq]
  constructor
  · intro h
    have inj : ∀ (xs ys : List Int), (∀ z ∈ xs, 0 ≤ z ∧ z < 256) → (∀ z ∈ ys, 0 ≤ z ∧ z < 256) → (strOfNums xs).toList = (strOfNums ys).toList → xs = ys := by
      intro xs ys hx hy he
      rw [ByteArray.toList_eq, ByteArray.toList_eq] at he
      simp only [strOfNums] at he
      induction xs generalizing ys with
      | nil => cases ys with
        | nil => rfl
        | cons y ys => simp at he
      | cons x xs ih => cases ys with
        | nil => simp at he
        | cons y ys =>
          simp only [List.map_cons, List.cons.injEq] at he
          have hx0 := hx x (by simp)
          have hy0 := hy y (by simp)
          have e1 : x = y := by
            have := congrArg UInt8.toNat he.1
            simp only [UInt8.toNat_ofNat'] at this
            omega
          rw [e1, ih ys (fun z hz => hx z (by simp [hz])) (fun z hz => hy z (by simp [hz])) he.2]
    have rng : ∀ x y : Int, ∀ z ∈ Put.textC x y, 0 ≤ z ∧ z < 256 := by
      intro x y z hz
      unfold Put.textC at hz
      simp only [List.mem_append, List.mem_cons, List.not_mem_nil, or_false] at hz
      rcases hz with ((rfl | rfl) | hz) | hz
      · omega
      · omega
      · exact byte_range x z hz
      · exact byte_range y z hz
    have h3 := inj _ _ (rng a b) (rng c d) h
    unfold Put.textC at h3
    obtain ⟨h4, h5⟩ := List.append_inj h3 (by simp [Put.hexs_length])
    obtain ⟨_, h6⟩ := List.append_inj h4 rfl
    exact ⟨hexs_inj a c ha hc h6, hexs_inj b d hb hd h5⟩
  · rintro ⟨rfl, rfl⟩
    rfl

theorem lex_zero (a b c d : Int) : lex a b c d = 0 ↔ a = c ∧ b = d := by unfold lex cmp3; (repeat' split) <;> omega
theorem lex_neg (a b c d : Int) : lex c d a b = -lex a b c d := by unfold lex cmp3; (repeat' split) <;> omega
theorem lex_range (a b c d : Int) : -1 ≤ lex a b c d ∧ lex a b c d ≤ 1 := by unfold lex cmp3; (repeat' split) <;> omega
theorem lex_trans (a b c d e f : Int) (h1 : lex a b c d ≤ 0) (h2 : lex c d e f ≤ 0) : lex a b e f ≤ 0 := by
  have k (a b c d : Int) : lex a b c d ≤ 0 ↔ a < c ∨ a = c ∧ b ≤ d := by unfold lex cmp3; (repeat' split) <;> omega
  rw [k] at h1 h2 ⊢
  omega
theorem awake_true2 : elenchuslaw1_awake.f = some true := by
  simp [elenchuslaw1_awake.f, number_Div.f, number_Mod.f, number_Rem.f, wrap64]

theorem NumberOrder : elenchuslaw1_NumberOrder.Pure := by
  intro a b c d e f wa wb wc wd we wf
  have ha := u64_range wa
  have hb := u64_range wb
  have hc := u64_range wc
  have hd := u64_range wd
  refine ⟨4, ?_⟩
  unfold elenchuslaw1_NumberOrder.f
  rw [compareC_eq, compareC_eq, compareC_eq, compareC_eq]
  simp only [Option.bind_some]
  have r := lex_range a b c d
  have z := lex_zero a b c d
  rw [lex_neg a b c d, if_pos (by unfold wrap64; omega)]
  have tr := lex_trans a b c d e f
  have tx := textC_inj a b c d ha hb hc hd
  have t1 : number_TextC.f 3 a b = some (strOfNums (Put.textC a b)) := by unfold number_TextC.f; rw [if_pos ⟨ha, hb⟩]
  have t2 : number_TextC.f 3 c d = some (strOfNums (Put.textC c d)) := by unfold number_TextC.f; rw [if_pos ⟨hc, hd⟩]
  have key : elenchuslaw1_NumberOrder.j0 4 a b c d (lex a b c d) (lex c d e f) (lex a b e f) false = some true := by
    simp only [elenchuslaw1_NumberOrder.j0, Bool.false_eq_true, if_false]
    rw [t1, t2]
    simp only [Option.bind_some, tx, awake_true2]
    have q : ((decide (a = c) && decide (b = d)) == (lex a b c d == 0)) = true := by
      rw [beq_iff_eq, Bool.eq_iff_iff]
      simp only [Bool.and_eq_true, decide_eq_true_eq, beq_iff_eq]
      exact z.symm
    rw [q]
    simp only [if_true]
    split
    · rfl
    · split
      · rfl
      · rw [if_pos (tr (by omega) (by omega))]
  by_cases h : a = c
  · rw [if_pos h]
    have e2 : ((lex a b c d == 0) != (b == d)) = false := by
      rw [bne_eq_false_iff_eq, Bool.eq_iff_iff]
      simp only [beq_iff_eq]
      rw [z]
      exact ⟨fun q => q.2, fun q => ⟨h, q⟩⟩
    rw [e2]; exact key
  · rw [if_neg h]
    have e2 : ((lex a b c d == 0) != false) = false := by
      rw [bne_eq_false_iff_eq, beq_eq_false_iff_ne]
      intro hz; exact h (z.1 hz).1
    rw [e2]; exact key

end Go.Proofs.Ytbkojghbgoejcaa.Pure
namespace Go.Proofs.Ytbkojghbgoejcaa.Ord
open Go Go.RowKit
theorem walk (a b c d e f : Int) (w : World) (wa : (Lit.int .u64 a).wf = true) (wb : (Lit.int .u64 b).wf = true) (wc : (Lit.int .u64 c).wf = true) (wd : (Lit.int .u64 d).wf = true) (we : (Lit.int .u64 e).wf = true) (wf : (Lit.int .u64 f).wf = true) :
    Calls Try.prog 5 #[.int .u64 a, .int .u64 b, .int .u64 c, .int .u64 d, .int .u64 e, .int .u64 f] w fun e w' => e = .returned (.bool true) ∧ Below w.heap.size w w' :=
  QNumberRange.elenchuslaw1_NumberOrder.walk Pure.NumberOrder a b c d e f w wa wb wc wd we wf
end Go.Proofs.Ytbkojghbgoejcaa.Ord
